import Derived.Test.YtpmamacjepcdmaaProg
import Derived.Test.YtpmamacjepcdmaaSyMdl
import Derived.Test.YtpmamacjepcdmaaTTa2
namespace Go.Proofs.Ytpmamacjepcdmaa
open Go Go.Sy Go.RowKit
theorem tok : TOk Try.prog ttA:=tOk_of (by kernel_rfl) (by kernel_rfl) (by kernel_rfl)
theorem mixed : Try.prog.follows .mixedOrders=true:=by kernel_rfl
def kS : SK:=⟨48,[.int .i64,.int .i64,.int .i64,.int .i64,.bool,.int .i64]⟩
def kI : SK:=⟨8,[.int .i64]⟩
def kK : SK:=⟨16,[.int .i64,.int .i64]⟩
def kW : SK:=⟨32,[.int .i64,.int .i64,.int .i64,.int .i64]⟩
def kB : SK:=⟨1,[.bool]⟩
theorem lca : (∀ {α : Type} {a : α} {l m : List α},a :: l ++ m=a :: (l ++ m))∧(∀ {α : Type} {l : List α},[] ++ l=l):=⟨rfl,rfl⟩
end Go.Proofs.Ytpmamacjepcdmaa

namespace Go.Proofs.Ytpmamacjepcdmaa
open Go Go.Sy Go.RowKit
set_option linter.unusedSimpArgs false
set_option linter.unusedVariables false
def s53 : Sig:=⟨[.one (.fz kI)],[.one (.own 3 kI)]⟩
def d53 : DC:=⟨s53,fun _=>True,fun l=>[af (l.getD 0 .u).ints]⟩
def l53 : List (Nat × Ct):=[]
def z53 : Cx:={ T:=ttA,C:=sigs l53,F:=[],hints:=[],sig:=s53}
def t53 : Tree :=
 (.ite (.eq (.len (.var 0)) (.int 0))
 (.both
 (.ret [.nil])
 (.need (.le (.len (.var 0)) (.int 17592186044416))
 (.ret [.app .nil (.var 0)])))
 (.need (.le (.len (.var 0)) (.int 17592186044416))
 (.ret [.app .nil (.var 0)])))
theorem run53 : run z53 6000 [.code (Try.f53.body.getD .skip),.fin (bt z53 Try.f53.results.toList 50)] { fn:=53,tmps:=z53.sig.aM ++ List.replicate (Try.f53.ntmps - z53.sig.aM.length) (.v (.one .undef)),stk:=[],h:=z53.sig.h0,nx:=z53.sig.ins.length,known:=[]}=t53:=by kernel_rfl
theorem ok53 : cB Try.prog 53 d53.ct:=by
 refine aD (d:=d53) (Z:=z53) (Γ:=gam l53) (fn:=Try.f53) (c:=Try.f53.body.getD .skip) (bg tok mixed all_nil bh) Try.func53 (by kernel_rfl) (by kernel_rfl) rfl run53 fun E hk hp=>?_
 obtain ⟨hk0,_⟩:=hk
 obtain ⟨l,e0,b0⟩:=iL (d:=E 0) hk0
 have b0 : l.length * 8≤140737488355328:=b0
 have el : aH E d53.sig.ins.length=[af l]:=by
  show [E 0]=_
  rw [e0]
 rw [el] at hp
 rw [el]
 simp only [d53,List.getD_cons_zero,bY]
 have hA : ∀ J,(Tree.need (.le (.len (.var 0)) (.int 17592186044416)) (.ret [.app .nil (.var 0)])).den (gam l53) (fun outs=>outs=[af l]) E J:=fun J=>by
  refine ag (by simp only [nrm,xdn,reduceIte,Nat.reduceLT,Nat.reduceSub,Nat.reduceAdd,e0,aw];omega) (aj ?_)
  simp only [nrm,xdn,reduceIte,Nat.reduceLT,Nat.reduceSub,Nat.reduceAdd,e0]
  exact congrArg (fun x=>[x]) (Dj l)
 unfold t53
 refine G0 (fun h=>pJ (aj ?_) (hA _)) (fun _=>hA _)
 simp only [nrm,xdn,reduceIte,Nat.reduceLT,Nat.reduceSub,Nat.reduceAdd,e0,aw] at h
 have : l=[]:=List.length_eq_zero_iff.1 (by omega)
 simp only [nrm,xdn,reduceIte,Nat.reduceLT,Nat.reduceSub,Nat.reduceAdd,this]
 rfl
def s205 : Sig:=⟨[.one (.fz kS)],[.one (.own 52 kS)]⟩
def d205 : DC:=⟨s205,fun _=>True,fun l=>[au (l.getD 0 .u).slots]⟩
def l205 : List (Nat × Ct):=[]
def z205 : Cx:={ T:=ttA,C:=sigs l205,F:=[],hints:=[],sig:=s205}
def t205 : Tree :=
 (.ite (.eq (.len (.var 0)) (.int 0))
 (.both
 (.ret [.nil])
 (.need (.le (.len (.var 0)) (.int 2932031007402))
 (.ret [.app .nil (.var 0)])))
 (.need (.le (.len (.var 0)) (.int 2932031007402))
 (.ret [.app .nil (.var 0)])))
theorem run205 : run z205 6000 [.code (Try.f205.body.getD .skip),.fin (bt z205 Try.f205.results.toList 50)] { fn:=205,tmps:=z205.sig.aM ++ List.replicate (Try.f205.ntmps - z205.sig.aM.length) (.v (.one .undef)),stk:=[],h:=z205.sig.h0,nx:=z205.sig.ins.length,known:=[]}=t205:=by kernel_rfl
theorem ok205 : cB Try.prog 205 d205.ct:=by
 refine aD (d:=d205) (Z:=z205) (Γ:=gam l205) (fn:=Try.f205) (c:=Try.f205.body.getD .skip) (bg tok mixed all_nil bh) Try.func205 (by kernel_rfl) (by kernel_rfl) rfl run205 fun E hk hp=>?_
 obtain ⟨hk0,_⟩:=hk
 obtain ⟨l,e0,b0⟩:=Jq (d:=E 0) hk0
 have b0 : l.length * 48≤140737488355328:=b0
 have el : aH E d205.sig.ins.length=[au l]:=by
  show [E 0]=_
  rw [e0]
 rw [el] at hp
 rw [el]
 simp only [d205,List.getD_cons_zero,kA]
 have hA : ∀ J,(Tree.need (.le (.len (.var 0)) (.int 2932031007402)) (.ret [.app .nil (.var 0)])).den (gam l205) (fun outs=>outs=[au l]) E J:=fun J=>by
  refine ag (by simp only [nrm,xdn,reduceIte,Nat.reduceLT,Nat.reduceSub,Nat.reduceAdd,e0,aN];omega) (aj ?_)
  simp only [nrm,xdn,reduceIte,Nat.reduceLT,Nat.reduceSub,Nat.reduceAdd,e0]
  exact congrArg (fun x=>[x]) (BU l)
 unfold t205
 refine G0 (fun h=>pJ (aj ?_) (hA _)) (fun _=>hA _)
 simp only [nrm,xdn,reduceIte,Nat.reduceLT,Nat.reduceSub,Nat.reduceAdd,e0,aN] at h
 have : l=[]:=List.length_eq_zero_iff.1 (by omega)
 simp only [nrm,xdn,reduceIte,Nat.reduceLT,Nat.reduceSub,Nat.reduceAdd,this]
 rfl
def s172 : Sig:=⟨[.one (.fz kK)],[.one (.own 31 kK)]⟩
def d172 : DC:=⟨s172,fun _=>True,fun l=>[bS (l.getD 0 .u).keys]⟩
def l172 : List (Nat × Ct):=[]
def z172 : Cx:={ T:=ttA,C:=sigs l172,F:=[],hints:=[],sig:=s172}
def t172 : Tree :=
 (.ite (.eq (.len (.var 0)) (.int 0))
 (.both
 (.ret [.nil])
 (.need (.le (.len (.var 0)) (.int 8796093022208))
 (.ret [.app .nil (.var 0)])))
 (.need (.le (.len (.var 0)) (.int 8796093022208))
 (.ret [.app .nil (.var 0)])))
theorem run172 : run z172 6000 [.code (Try.f172.body.getD .skip),.fin (bt z172 Try.f172.results.toList 50)] { fn:=172,tmps:=z172.sig.aM ++ List.replicate (Try.f172.ntmps - z172.sig.aM.length) (.v (.one .undef)),stk:=[],h:=z172.sig.h0,nx:=z172.sig.ins.length,known:=[]}=t172:=by kernel_rfl
theorem ok172 : cB Try.prog 172 d172.ct:=by
 refine aD (d:=d172) (Z:=z172) (Γ:=gam l172) (fn:=Try.f172) (c:=Try.f172.body.getD .skip) (bg tok mixed all_nil bh) Try.func172 (by kernel_rfl) (by kernel_rfl) rfl run172 fun E hk hp=>?_
 obtain ⟨hk0,_⟩:=hk
 obtain ⟨l,e0,b0⟩:=AI (d:=E 0) hk0
 have b0 : l.length * 16≤140737488355328:=b0
 have el : aH E d172.sig.ins.length=[bS l]:=by
  show [E 0]=_
  rw [e0]
 rw [el] at hp
 rw [el]
 simp only [d172,List.getD_cons_zero,jf]
 have hA : ∀ J,(Tree.need (.le (.len (.var 0)) (.int 8796093022208)) (.ret [.app .nil (.var 0)])).den (gam l172) (fun outs=>outs=[bS l]) E J:=fun J=>by
  refine ag (by simp only [nrm,xdn,reduceIte,Nat.reduceLT,Nat.reduceSub,Nat.reduceAdd,e0,bX];omega) (aj ?_)
  simp only [nrm,xdn,reduceIte,Nat.reduceLT,Nat.reduceSub,Nat.reduceAdd,e0]
  exact congrArg (fun x=>[x]) (Di l)
 unfold t172
 refine G0 (fun h=>pJ (aj ?_) (hA _)) (fun _=>hA _)
 simp only [nrm,xdn,reduceIte,Nat.reduceLT,Nat.reduceSub,Nat.reduceAdd,e0,bX] at h
 have : l=[]:=List.length_eq_zero_iff.1 (by omega)
 simp only [nrm,xdn,reduceIte,Nat.reduceLT,Nat.reduceSub,Nat.reduceAdd,this]
 rfl
def indexOf {α : Type} [DecidableEq α] (x : α) : List α→Nat→Int
 | [],_=>-1
 | a :: l,i=>if x=a then i else indexOf x l (i + 1)
theorem oC {α : Type} [DecidableEq α] (x : α) : ∀ (l : List α) (i : Nat),indexOf x l i < 0↔x ∉ l
 | [],i=>by simp [indexOf]
 | a :: l,i=>by
  simp only [indexOf,List.mem_cons]
  split
  ·rename_i h;simp [h]
  ·rename_i h
   rw [oC x l (i + 1)]
   simp [h]
theorem dL {α : Type} [Inhabited α] {l : List α} {i : Nat} (h : i < l.length) : l.drop i=l.getD i default :: l.drop (i + 1):=by
 rw [List.drop_eq_getElem_cons h,List.getD_eq_getElem?_getD,List.getElem?_eq_getElem h,Option.getD_some]
theorem wb {α : Type} [DecidableEq α] [Inhabited α] {x : α} {l : List α} {i : Nat} (h : i < l.length) : indexOf x (l.drop i) i=if x=l.getD i default then (i : Int) else indexOf x (l.drop (i + 1)) (i + 1):=by
 rw [dL h];rfl
def s179 : Sig:=⟨[.one (.fz kI),.one (.int .i64)],[.one (.int .i64)]⟩
def d179 : DC:=⟨s179,fun _=>True,fun l=>[.i (indexOf (l.getD 1 .u).int (l.getD 0 .u).ints 0)]⟩
def l179 : List (Nat × Ct):=[]
def z179 : Cx:={ T:=ttA,C:=sigs l179,F:=[],hints:=[⟨179,2,false,[(8,.lt)],[],[],[],0,0,false⟩],sig:=s179}
def t179 : Tree :=
 (.loop 2 [.int .i64] [.int 0]
 (.ite (.lt (.var 3) (.len (.var 0)))
 (.need (.le (.int 0) (.var 3))
 (.ite (.eq (.var 1) (.cell (.var 0) (.var 3) 0))
 (.ret [.var 3])
 (.need (.fit (.add (.var 3) (.int 1)))
 (.back 2 [.add (.var 3) (.int 1)]))))
 (.ret [.int (-1)])))
theorem run179 : run z179 6000 [.code (Try.f179.body.getD .skip),.fin (bt z179 Try.f179.results.toList 50)] { fn:=179,tmps:=z179.sig.aM ++ List.replicate (Try.f179.ntmps - z179.sig.aM.length) (.v (.one .undef)),stk:=[],h:=z179.sig.h0,nx:=z179.sig.ins.length,known:=[]}=t179:=by kernel_rfl
theorem ok179 : cB Try.prog 179 d179.ct:=by
 refine aD (d:=d179) (Z:=z179) (Γ:=gam l179) (fn:=Try.f179) (c:=Try.f179.body.getD .skip) (bg tok mixed all_nil bh) Try.func179 (by kernel_rfl) (by kernel_rfl) rfl run179 fun E hk hp=>?_
 obtain ⟨hk0,hk1,_⟩:=hk
 obtain ⟨l,e0,b0⟩:=iL (d:=E 0) hk0
 have b0 : l.length * 8≤140737488355328:=b0
 obtain ⟨x,e1⟩:=ok_int (d:=E 1) hk1
 have el : aH E d179.sig.ins.length=[af l,.i x]:=by
  show [E 0,E 1]=_
  rw [e0,e1]
 rw [el] at hp
 rw [el]
 simp only [d179,List.getD_cons_zero,List.getD_cons_succ,bY,CD.aR,List.getD_cons_zero]
 unfold t179
 refine bO (fun ds=>∃ i : Nat,ds=[.i i]∧i≤l.length∧indexOf x l 0=indexOf x (l.drop i) i) (fun ds=>l.length - (ds.getD 0 .u).int.toNat) ⟨0,rfl,by omega,rfl⟩ ?_
 rintro ds - ⟨i,rfl,hi,ht⟩
 refine G0 (fun h1=>?_) (fun h1=>?_)
 ·simp only [nrm,xdn,reduceIte,Nat.reduceLT,Nat.reduceSub,Nat.reduceAdd,e0,aw] at h1
  have hs:=wb (x:=x) (l:=l) (i:=i) (by omega)
  refine ag (by simp only [nrm,xdn,reduceIte,Nat.reduceLT,Nat.reduceSub,Nat.reduceAdd];omega) (G0 (fun h2=>?_) (fun h2=>?_))
  ·simp only [nrm,xdn,reduceIte,Nat.reduceLT,Nat.reduceSub,Nat.reduceAdd,e0,e1,Int.toNat_natCast,aG,Bool.and_eq_true,and_true] at h2
   refine aj ?_
   simp only [nrm,xdn,reduceIte,Nat.reduceLT,Nat.reduceSub,Nat.reduceAdd]
   rw [ht,hs,if_pos (show x=l.getD i default from h2)]
  ·simp only [nrm,xdn,reduceIte,Nat.reduceLT,Nat.reduceSub,Nat.reduceAdd,e0,e1,Int.toNat_natCast,aG] at h2
   refine G1 (by simp only [nrm,xdn,reduceIte,Nat.reduceLT,Nat.reduceSub,Nat.reduceAdd];omega) (aV ⟨⟨i + 1,?_,by omega,?_⟩,?_⟩)
   ·simp only [nrm,xdn,reduceIte,Nat.reduceLT,Nat.reduceSub,Nat.reduceAdd];rfl
   ·rw [ht,hs,if_neg (fun e=>by rw [e] at h2;simp at h2)]
   ·simp only [nrm,xdn,reduceIte,Nat.reduceLT,Nat.reduceSub,Nat.reduceAdd];omega
 ·simp only [nrm,xdn,reduceIte,Nat.reduceLT,Nat.reduceSub,Nat.reduceAdd,e0,aw] at h1
  refine aj ?_
  simp only [nrm,xdn,reduceIte,Nat.reduceLT,Nat.reduceSub,Nat.reduceAdd]
  rw [ht,List.drop_of_length_le (by omega)]
  rfl
def s98 : Sig:=⟨[.one (.fz kI),.one (.int .i64)],[.one (.bool)]⟩
def d98 : DC:=⟨s98,fun _=>True,fun l=>[.b (decide ((l.getD 1 .u).int∈(l.getD 0 .u).ints))]⟩
def l98 : List (Nat × Ct):=[(179,d179.ct)]
def z98 : Cx:={ T:=ttA,C:=sigs l98,F:=[],hints:=[],sig:=s98}
def t98 : Tree :=
 (.call 179 [.var 0,.var 1] 2
 (.ret [.le (.int 0) (.var 2)]))
theorem run98 : run z98 6000 [.code (Try.f98.body.getD .skip),.fin (bt z98 Try.f98.results.toList 50)] { fn:=98,tmps:=z98.sig.aM ++ List.replicate (Try.f98.ntmps - z98.sig.aM.length) (.v (.one .undef)),stk:=[],h:=z98.sig.h0,nx:=z98.sig.ins.length,known:=[]}=t98:=by kernel_rfl
theorem ok98 : cB Try.prog 98 d98.ct:=by
 refine aD (d:=d98) (Z:=z98) (Γ:=gam l98) (fn:=Try.f98) (c:=Try.f98.body.getD .skip) (bg tok mixed (all_cons ok179 all_nil) bh) Try.func98 (by kernel_rfl) (by kernel_rfl) rfl run98 fun E hk hp=>?_
 obtain ⟨hk0,hk1,_⟩:=hk
 obtain ⟨l,e0,b0⟩:=iL (d:=E 0) hk0
 have b0 : l.length * 8≤140737488355328:=b0
 obtain ⟨x,e1⟩:=ok_int (d:=E 1) hk1
 have el : aH E d98.sig.ins.length=[af l,.i x]:=by
  show [E 0,E 1]=_
  rw [e0,e1]
 rw [el] at hp
 rw [el]
 simp only [d98,List.getD_cons_zero,List.getD_cons_succ,bY,CD.aR,List.getD_cons_zero]
 unfold t98
 refine ai d179 [.i (indexOf x l 0)] rfl trivial (by simp only [nrm,xdn,reduceIte,Nat.reduceLT,Nat.reduceSub,Nat.reduceAdd,d179,e0,e1,bY]) (aj ?_)
 have h1:=oC x l 0
 simp only [nrm,xdn,reduceIte,Nat.reduceLT,Nat.reduceSub,Nat.reduceAdd,List.cons.injEq,CD.b.injEq,and_true,decide_eq_decide]
 constructor
 ·intro h
  exact Classical.not_not.1 fun hn=>absurd (h1.2 hn) (by omega)
 ·intro h
  rcases Decidable.em (indexOf x l 0 < 0) with h2 | h2
  ·exact absurd h (h1.1 h2)
  ·omega
end Go.Proofs.Ytpmamacjepcdmaa

namespace Go.Proofs.Ytpmamacjepcdmaa
open Go Go.Sy Go.RowKit
set_option linter.unusedSimpArgs false
set_option linter.unusedVariables false
theorem x8 {α : Type} {r : List α} {i j : Nat} (hij : i≤j) (hj : j≤r.length) (z : List α) :
  (((r.take i ++ ((r.drop j).take (r.length - j) ++ r.drop (i + (r.length - j)))).take (i + (r.length - j)) ++ z).take (i + (r.length - j)))=r.take i ++ r.drop j:=by
 have e1 : (r.drop j).take (r.length - j)=r.drop j:=List.take_of_length_le (by simp)
 have e2 : (r.take i ++ r.drop j).length=i + (r.length - j):=by simp;omega
 rw [e1,← List.append_assoc,List.take_left' e2,List.take_left' e2]
end Go.Proofs.Ytpmamacjepcdmaa
