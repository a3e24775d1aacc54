import Derived.Test.YtpmamacjepcdmaaProg
import Derived.Test.YtpmamacjepcdmaaSyMdl
import Derived.Test.YtpmamacjepcdmaaTTa2
namespace Go.Proofs.Ytpmamacjepcdmaa
open Go Go.Sy Go.RowKit
theorem tok : TOk Try.prog ttA:=tOk_of (by kernel_rfl) (by kernel_rfl) (by kernel_rfl)
theorem mixed : Try.prog.follows .mixedOrders=true:=by kernel_rfl
def kS : SK:=⟨48,[.int .i64,.int .i64,.int .i64,.int .i64,.bool,.int .i64]⟩
def kI : SK:=⟨8,[.int .i64]⟩
def kK : SK:=⟨16,[.int .i64,.int .i64]⟩
def kW : SK:=⟨32,[.int .i64,.int .i64,.int .i64,.int .i64]⟩
def kB : SK:=⟨1,[.bool]⟩
theorem lca : (∀ {α : Type} {a : α} {l m : List α},a :: l ++ m=a :: (l ++ m))∧(∀ {α : Type} {l : List α},[] ++ l=l):=⟨rfl,rfl⟩
end Go.Proofs.Ytpmamacjepcdmaa

namespace Go.Proofs.Ytpmamacjepcdmaa
open Go Go.Sy Go.RowKit
set_option linter.unusedSimpArgs false
set_option linter.unusedVariables false
theorem F7 {a b : Key} (h : a.a=b.a∧a.b=b.b) : a=b:=by
 obtain ⟨a2,a3⟩:=a
 obtain ⟨b2,b3⟩:=b
 obtain ⟨rfl,rfl⟩:=h
 rfl
def s53 : Sig:=⟨[.one (.fz kI)],[.one (.own 3 kI)]⟩
def d53 : DC:=⟨s53,fun _=>True,fun l=>[af (l.getD 0 .u).ints]⟩
def l53 : List (Nat × Ct):=[]
def z53 : Cx:={ T:=ttA,C:=sigs l53,F:=[],hints:=[],sig:=s53}
def t53 : Tree :=
 (.ite (.eq (.len (.var 0)) (.int 0))
 (.both
 (.ret [.nil])
 (.need (.le (.len (.var 0)) (.int 17592186044416))
 (.ret [.app .nil (.var 0)])))
 (.need (.le (.len (.var 0)) (.int 17592186044416))
 (.ret [.app .nil (.var 0)])))
theorem run53 : run z53 6000 [.code (Try.f53.body.getD .skip),.fin (bt z53 Try.f53.results.toList 50)] { fn:=53,tmps:=z53.sig.aM ++ List.replicate (Try.f53.ntmps - z53.sig.aM.length) (.v (.one .undef)),stk:=[],h:=z53.sig.h0,nx:=z53.sig.ins.length,known:=[]}=t53:=by kernel_rfl
theorem ok53 : cB Try.prog 53 d53.ct:=by
 refine aD (d:=d53) (Z:=z53) (Γ:=gam l53) (fn:=Try.f53) (c:=Try.f53.body.getD .skip) (bg tok mixed all_nil bh) Try.func53 (by kernel_rfl) (by kernel_rfl) rfl run53 fun E hk hp=>?_
 obtain ⟨hk0,_⟩:=hk
 obtain ⟨l,e0,b0⟩:=iL (d:=E 0) hk0
 have b0 : l.length * 8≤140737488355328:=b0
 have el : aH E d53.sig.ins.length=[af l]:=by
  show [E 0]=_
  rw [e0]
 rw [el] at hp
 rw [el]
 simp only [d53,List.getD_cons_zero,bY]
 have hA : ∀ J,(Tree.need (.le (.len (.var 0)) (.int 17592186044416)) (.ret [.app .nil (.var 0)])).den (gam l53) (fun outs=>outs=[af l]) E J:=fun J=>by
  refine ag (by simp only [nrm,xdn,reduceIte,Nat.reduceLT,Nat.reduceSub,Nat.reduceAdd,e0,aw];omega) (aj ?_)
  simp only [nrm,xdn,reduceIte,Nat.reduceLT,Nat.reduceSub,Nat.reduceAdd,e0]
  exact congrArg (fun x=>[x]) (Dj l)
 unfold t53
 refine G0 (fun h=>pJ (aj ?_) (hA _)) (fun _=>hA _)
 simp only [nrm,xdn,reduceIte,Nat.reduceLT,Nat.reduceSub,Nat.reduceAdd,e0,aw] at h
 have : l=[]:=List.length_eq_zero_iff.1 (by omega)
 simp only [nrm,xdn,reduceIte,Nat.reduceLT,Nat.reduceSub,Nat.reduceAdd,this]
 rfl
def s205 : Sig:=⟨[.one (.fz kS)],[.one (.own 52 kS)]⟩
def d205 : DC:=⟨s205,fun _=>True,fun l=>[au (l.getD 0 .u).slots]⟩
def l205 : List (Nat × Ct):=[]
def z205 : Cx:={ T:=ttA,C:=sigs l205,F:=[],hints:=[],sig:=s205}
def t205 : Tree :=
 (.ite (.eq (.len (.var 0)) (.int 0))
 (.both
 (.ret [.nil])
 (.need (.le (.len (.var 0)) (.int 2932031007402))
 (.ret [.app .nil (.var 0)])))
 (.need (.le (.len (.var 0)) (.int 2932031007402))
 (.ret [.app .nil (.var 0)])))
theorem run205 : run z205 6000 [.code (Try.f205.body.getD .skip),.fin (bt z205 Try.f205.results.toList 50)] { fn:=205,tmps:=z205.sig.aM ++ List.replicate (Try.f205.ntmps - z205.sig.aM.length) (.v (.one .undef)),stk:=[],h:=z205.sig.h0,nx:=z205.sig.ins.length,known:=[]}=t205:=by kernel_rfl
theorem ok205 : cB Try.prog 205 d205.ct:=by
 refine aD (d:=d205) (Z:=z205) (Γ:=gam l205) (fn:=Try.f205) (c:=Try.f205.body.getD .skip) (bg tok mixed all_nil bh) Try.func205 (by kernel_rfl) (by kernel_rfl) rfl run205 fun E hk hp=>?_
 obtain ⟨hk0,_⟩:=hk
 obtain ⟨l,e0,b0⟩:=Jq (d:=E 0) hk0
 have b0 : l.length * 48≤140737488355328:=b0
 have el : aH E d205.sig.ins.length=[au l]:=by
  show [E 0]=_
  rw [e0]
 rw [el] at hp
 rw [el]
 simp only [d205,List.getD_cons_zero,kA]
 have hA : ∀ J,(Tree.need (.le (.len (.var 0)) (.int 2932031007402)) (.ret [.app .nil (.var 0)])).den (gam l205) (fun outs=>outs=[au l]) E J:=fun J=>by
  refine ag (by simp only [nrm,xdn,reduceIte,Nat.reduceLT,Nat.reduceSub,Nat.reduceAdd,e0,aN];omega) (aj ?_)
  simp only [nrm,xdn,reduceIte,Nat.reduceLT,Nat.reduceSub,Nat.reduceAdd,e0]
  exact congrArg (fun x=>[x]) (BU l)
 unfold t205
 refine G0 (fun h=>pJ (aj ?_) (hA _)) (fun _=>hA _)
 simp only [nrm,xdn,reduceIte,Nat.reduceLT,Nat.reduceSub,Nat.reduceAdd,e0,aN] at h
 have : l=[]:=List.length_eq_zero_iff.1 (by omega)
 simp only [nrm,xdn,reduceIte,Nat.reduceLT,Nat.reduceSub,Nat.reduceAdd,this]
 rfl
def s172 : Sig:=⟨[.one (.fz kK)],[.one (.own 31 kK)]⟩
def d172 : DC:=⟨s172,fun _=>True,fun l=>[bS (l.getD 0 .u).keys]⟩
def l172 : List (Nat × Ct):=[]
def z172 : Cx:={ T:=ttA,C:=sigs l172,F:=[],hints:=[],sig:=s172}
def t172 : Tree :=
 (.ite (.eq (.len (.var 0)) (.int 0))
 (.both
 (.ret [.nil])
 (.need (.le (.len (.var 0)) (.int 8796093022208))
 (.ret [.app .nil (.var 0)])))
 (.need (.le (.len (.var 0)) (.int 8796093022208))
 (.ret [.app .nil (.var 0)])))
theorem run172 : run z172 6000 [.code (Try.f172.body.getD .skip),.fin (bt z172 Try.f172.results.toList 50)] { fn:=172,tmps:=z172.sig.aM ++ List.replicate (Try.f172.ntmps - z172.sig.aM.length) (.v (.one .undef)),stk:=[],h:=z172.sig.h0,nx:=z172.sig.ins.length,known:=[]}=t172:=by kernel_rfl
theorem ok172 : cB Try.prog 172 d172.ct:=by
 refine aD (d:=d172) (Z:=z172) (Γ:=gam l172) (fn:=Try.f172) (c:=Try.f172.body.getD .skip) (bg tok mixed all_nil bh) Try.func172 (by kernel_rfl) (by kernel_rfl) rfl run172 fun E hk hp=>?_
 obtain ⟨hk0,_⟩:=hk
 obtain ⟨l,e0,b0⟩:=AI (d:=E 0) hk0
 have b0 : l.length * 16≤140737488355328:=b0
 have el : aH E d172.sig.ins.length=[bS l]:=by
  show [E 0]=_
  rw [e0]
 rw [el] at hp
 rw [el]
 simp only [d172,List.getD_cons_zero,jf]
 have hA : ∀ J,(Tree.need (.le (.len (.var 0)) (.int 8796093022208)) (.ret [.app .nil (.var 0)])).den (gam l172) (fun outs=>outs=[bS l]) E J:=fun J=>by
  refine ag (by simp only [nrm,xdn,reduceIte,Nat.reduceLT,Nat.reduceSub,Nat.reduceAdd,e0,bX];omega) (aj ?_)
  simp only [nrm,xdn,reduceIte,Nat.reduceLT,Nat.reduceSub,Nat.reduceAdd,e0]
  exact congrArg (fun x=>[x]) (Di l)
 unfold t172
 refine G0 (fun h=>pJ (aj ?_) (hA _)) (fun _=>hA _)
 simp only [nrm,xdn,reduceIte,Nat.reduceLT,Nat.reduceSub,Nat.reduceAdd,e0,bX] at h
 have : l=[]:=List.length_eq_zero_iff.1 (by omega)
 simp only [nrm,xdn,reduceIte,Nat.reduceLT,Nat.reduceSub,Nat.reduceAdd,this]
 rfl
def indexOf {α : Type} [DecidableEq α] (x : α) : List α→Nat→Int
 | [],_=>-1
 | a :: l,i=>if x=a then i else indexOf x l (i + 1)
theorem oC {α : Type} [DecidableEq α] (x : α) : ∀ (l : List α) (i : Nat),indexOf x l i < 0↔x ∉ l
 | [],i=>by simp [indexOf]
 | a :: l,i=>by
  simp only [indexOf,List.mem_cons]
  split
  ·rename_i h;simp [h]
  ·rename_i h
   rw [oC x l (i + 1)]
   simp [h]
theorem dL {α : Type} [Inhabited α] {l : List α} {i : Nat} (h : i < l.length) : l.drop i=l.getD i default :: l.drop (i + 1):=by
 rw [List.drop_eq_getElem_cons h,List.getD_eq_getElem?_getD,List.getElem?_eq_getElem h,Option.getD_some]
theorem wb {α : Type} [DecidableEq α] [Inhabited α] {x : α} {l : List α} {i : Nat} (h : i < l.length) : indexOf x (l.drop i) i=if x=l.getD i default then (i : Int) else indexOf x (l.drop (i + 1)) (i + 1):=by
 rw [dL h];rfl
def s179 : Sig:=⟨[.one (.fz kI),.one (.int .i64)],[.one (.int .i64)]⟩
def d179 : DC:=⟨s179,fun _=>True,fun l=>[.i (indexOf (l.getD 1 .u).int (l.getD 0 .u).ints 0)]⟩
def l179 : List (Nat × Ct):=[]
def z179 : Cx:={ T:=ttA,C:=sigs l179,F:=[],hints:=[⟨179,2,false,[(8,.lt)],[],[],[],0,0,false⟩],sig:=s179}
def t179 : Tree :=
 (.loop 2 [.int .i64] [.int 0]
 (.ite (.lt (.var 3) (.len (.var 0)))
 (.need (.le (.int 0) (.var 3))
 (.ite (.eq (.var 1) (.cell (.var 0) (.var 3) 0))
 (.ret [.var 3])
 (.need (.fit (.add (.var 3) (.int 1)))
 (.back 2 [.add (.var 3) (.int 1)]))))
 (.ret [.int (-1)])))
theorem run179 : run z179 6000 [.code (Try.f179.body.getD .skip),.fin (bt z179 Try.f179.results.toList 50)] { fn:=179,tmps:=z179.sig.aM ++ List.replicate (Try.f179.ntmps - z179.sig.aM.length) (.v (.one .undef)),stk:=[],h:=z179.sig.h0,nx:=z179.sig.ins.length,known:=[]}=t179:=by kernel_rfl
theorem ok179 : cB Try.prog 179 d179.ct:=by
 refine aD (d:=d179) (Z:=z179) (Γ:=gam l179) (fn:=Try.f179) (c:=Try.f179.body.getD .skip) (bg tok mixed all_nil bh) Try.func179 (by kernel_rfl) (by kernel_rfl) rfl run179 fun E hk hp=>?_
 obtain ⟨hk0,hk1,_⟩:=hk
 obtain ⟨l,e0,b0⟩:=iL (d:=E 0) hk0
 have b0 : l.length * 8≤140737488355328:=b0
 obtain ⟨x,e1⟩:=ok_int (d:=E 1) hk1
 have el : aH E d179.sig.ins.length=[af l,.i x]:=by
  show [E 0,E 1]=_
  rw [e0,e1]
 rw [el] at hp
 rw [el]
 simp only [d179,List.getD_cons_zero,List.getD_cons_succ,bY,CD.aR,List.getD_cons_zero]
 unfold t179
 refine bO (fun ds=>∃ i : Nat,ds=[.i i]∧i≤l.length∧indexOf x l 0=indexOf x (l.drop i) i) (fun ds=>l.length - (ds.getD 0 .u).int.toNat) ⟨0,rfl,by omega,rfl⟩ ?_
 rintro ds - ⟨i,rfl,hi,ht⟩
 refine G0 (fun h1=>?_) (fun h1=>?_)
 ·simp only [nrm,xdn,reduceIte,Nat.reduceLT,Nat.reduceSub,Nat.reduceAdd,e0,aw] at h1
  have hs:=wb (x:=x) (l:=l) (i:=i) (by omega)
  refine ag (by simp only [nrm,xdn,reduceIte,Nat.reduceLT,Nat.reduceSub,Nat.reduceAdd];omega) (G0 (fun h2=>?_) (fun h2=>?_))
  ·simp only [nrm,xdn,reduceIte,Nat.reduceLT,Nat.reduceSub,Nat.reduceAdd,e0,e1,Int.toNat_natCast,aG,Bool.and_eq_true,and_true] at h2
   refine aj ?_
   simp only [nrm,xdn,reduceIte,Nat.reduceLT,Nat.reduceSub,Nat.reduceAdd]
   rw [ht,hs,if_pos (show x=l.getD i default from h2)]
  ·simp only [nrm,xdn,reduceIte,Nat.reduceLT,Nat.reduceSub,Nat.reduceAdd,e0,e1,Int.toNat_natCast,aG] at h2
   refine G1 (by simp only [nrm,xdn,reduceIte,Nat.reduceLT,Nat.reduceSub,Nat.reduceAdd];omega) (aV ⟨⟨i + 1,?_,by omega,?_⟩,?_⟩)
   ·simp only [nrm,xdn,reduceIte,Nat.reduceLT,Nat.reduceSub,Nat.reduceAdd];rfl
   ·rw [ht,hs,if_neg (fun e=>by rw [e] at h2;simp at h2)]
   ·simp only [nrm,xdn,reduceIte,Nat.reduceLT,Nat.reduceSub,Nat.reduceAdd];omega
 ·simp only [nrm,xdn,reduceIte,Nat.reduceLT,Nat.reduceSub,Nat.reduceAdd,e0,aw] at h1
  refine aj ?_
  simp only [nrm,xdn,reduceIte,Nat.reduceLT,Nat.reduceSub,Nat.reduceAdd]
  rw [ht,List.drop_of_length_le (by omega)]
  rfl
def s206 : Sig:=⟨[.one (.fz kK),.agg [.int .i64,.int .i64]],[.one (.int .i64)]⟩
def d206 : DC:=⟨s206,fun _=>True,fun l=>[.i (indexOf ⟨(l.getD 1 .u).int,(l.getD 2 .u).int⟩ (l.getD 0 .u).keys 0)]⟩
def l206 : List (Nat × Ct):=[]
def z206 : Cx:={ T:=ttA,C:=sigs l206,F:=[],hints:=[⟨206,2,false,[(8,.lt)],[],[],[],0,0,false⟩],sig:=s206}
def t206 : Tree :=
 (.loop 3 [.int .i64] [.int 0]
 (.ite (.lt (.var 4) (.len (.var 0)))
 (.need (.le (.int 0) (.var 4))
 (.ite (.and (.eq (.var 1) (.cell (.var 0) (.var 4) 0)) (.and (.eq (.var 2) (.cell (.var 0) (.var 4) 1)) (.bool true)))
 (.ret [.var 4])
 (.need (.fit (.add (.var 4) (.int 1)))
 (.back 3 [.add (.var 4) (.int 1)]))))
 (.ret [.int (-1)])))
theorem run206 : run z206 6000 [.code (Try.f206.body.getD .skip),.fin (bt z206 Try.f206.results.toList 50)] { fn:=206,tmps:=z206.sig.aM ++ List.replicate (Try.f206.ntmps - z206.sig.aM.length) (.v (.one .undef)),stk:=[],h:=z206.sig.h0,nx:=z206.sig.ins.length,known:=[]}=t206:=by kernel_rfl
theorem ok206 : cB Try.prog 206 d206.ct:=by
 refine aD (d:=d206) (Z:=z206) (Γ:=gam l206) (fn:=Try.f206) (c:=Try.f206.body.getD .skip) (bg tok mixed all_nil bh) Try.func206 (by kernel_rfl) (by kernel_rfl) rfl run206 fun E hk hp=>?_
 obtain ⟨hk0,hk1,hk2,_⟩:=hk
 obtain ⟨l,e0,b0⟩:=AI (d:=E 0) hk0
 have b0 : l.length * 16≤140737488355328:=b0
 obtain ⟨k,e1,e2⟩:=vM (d0:=E 1) (d1:=E 2) hk1 hk2
 have el : aH E d206.sig.ins.length=[bS l,.i k.a,.i k.b]:=by
  show [E 0,E 1,E 2]=_
  rw [e0,e1,e2]
 rw [el] at hp
 rw [el]
 simp only [d206,List.getD_cons_zero,List.getD_cons_succ,jf,CD.aR,eZ]
 unfold t206
 refine bO (fun ds=>∃ i : Nat,ds=[.i i]∧i≤l.length∧indexOf k l 0=indexOf k (l.drop i) i) (fun ds=>l.length - (ds.getD 0 .u).int.toNat) ⟨0,rfl,by omega,rfl⟩ ?_
 rintro ds - ⟨i,rfl,hi,ht⟩
 refine G0 (fun h1=>?_) (fun h1=>?_)
 ·simp only [nrm,xdn,reduceIte,Nat.reduceLT,Nat.reduceSub,Nat.reduceAdd,e0,bX] at h1
  have hs:=wb (x:=k) (l:=l) (i:=i) (by omega)
  refine ag (by simp only [nrm,xdn,reduceIte,Nat.reduceLT,Nat.reduceSub,Nat.reduceAdd];omega) (G0 (fun h2=>?_) (fun h2=>?_))
  ·simp only [nrm,xdn,reduceIte,Nat.reduceLT,Nat.reduceSub,Nat.reduceAdd,e0,e1,e2,Int.toNat_natCast,JB,JA,Bool.and_eq_true,and_true] at h2
   refine aj ?_
   simp only [nrm,xdn,reduceIte,Nat.reduceLT,Nat.reduceSub,Nat.reduceAdd]
   rw [ht,hs,if_pos (F7 h2)]
  ·simp only [nrm,xdn,reduceIte,Nat.reduceLT,Nat.reduceSub,Nat.reduceAdd,e0,e1,e2,Int.toNat_natCast,JB,JA] at h2
   refine G1 (by simp only [nrm,xdn,reduceIte,Nat.reduceLT,Nat.reduceSub,Nat.reduceAdd];omega) (aV ⟨⟨i + 1,?_,by omega,?_⟩,?_⟩)
   ·simp only [nrm,xdn,reduceIte,Nat.reduceLT,Nat.reduceSub,Nat.reduceAdd];rfl
   ·rw [ht,hs,if_neg (fun e=>by rw [e] at h2;simp at h2)]
   ·simp only [nrm,xdn,reduceIte,Nat.reduceLT,Nat.reduceSub,Nat.reduceAdd];omega
 ·simp only [nrm,xdn,reduceIte,Nat.reduceLT,Nat.reduceSub,Nat.reduceAdd,e0,bX] at h1
  refine aj ?_
  simp only [nrm,xdn,reduceIte,Nat.reduceLT,Nat.reduceSub,Nat.reduceAdd]
  rw [ht,List.drop_of_length_le (by omega)]
  rfl
def s98 : Sig:=⟨[.one (.fz kI),.one (.int .i64)],[.one (.bool)]⟩
def d98 : DC:=⟨s98,fun _=>True,fun l=>[.b (decide ((l.getD 1 .u).int∈(l.getD 0 .u).ints))]⟩
def l98 : List (Nat × Ct):=[(179,d179.ct)]
def z98 : Cx:={ T:=ttA,C:=sigs l98,F:=[],hints:=[],sig:=s98}
def t98 : Tree :=
 (.call 179 [.var 0,.var 1] 2
 (.ret [.le (.int 0) (.var 2)]))
theorem run98 : run z98 6000 [.code (Try.f98.body.getD .skip),.fin (bt z98 Try.f98.results.toList 50)] { fn:=98,tmps:=z98.sig.aM ++ List.replicate (Try.f98.ntmps - z98.sig.aM.length) (.v (.one .undef)),stk:=[],h:=z98.sig.h0,nx:=z98.sig.ins.length,known:=[]}=t98:=by kernel_rfl
theorem ok98 : cB Try.prog 98 d98.ct:=by
 refine aD (d:=d98) (Z:=z98) (Γ:=gam l98) (fn:=Try.f98) (c:=Try.f98.body.getD .skip) (bg tok mixed (all_cons ok179 all_nil) bh) Try.func98 (by kernel_rfl) (by kernel_rfl) rfl run98 fun E hk hp=>?_
 obtain ⟨hk0,hk1,_⟩:=hk
 obtain ⟨l,e0,b0⟩:=iL (d:=E 0) hk0
 have b0 : l.length * 8≤140737488355328:=b0
 obtain ⟨x,e1⟩:=ok_int (d:=E 1) hk1
 have el : aH E d98.sig.ins.length=[af l,.i x]:=by
  show [E 0,E 1]=_
  rw [e0,e1]
 rw [el] at hp
 rw [el]
 simp only [d98,List.getD_cons_zero,List.getD_cons_succ,bY,CD.aR,List.getD_cons_zero]
 unfold t98
 refine ai d179 [.i (indexOf x l 0)] rfl trivial (by simp only [nrm,xdn,reduceIte,Nat.reduceLT,Nat.reduceSub,Nat.reduceAdd,d179,e0,e1,bY]) (aj ?_)
 have h1:=oC x l 0
 simp only [nrm,xdn,reduceIte,Nat.reduceLT,Nat.reduceSub,Nat.reduceAdd,List.cons.injEq,CD.b.injEq,and_true,decide_eq_decide]
 constructor
 ·intro h
  exact Classical.not_not.1 fun hn=>absurd (h1.2 hn) (by omega)
 ·intro h
  rcases Decidable.em (indexOf x l 0 < 0) with h2 | h2
  ·exact absurd h (h1.1 h2)
  ·omega
def s169 : Sig:=⟨[.one (.fz kK),.agg [.int .i64,.int .i64]],[.one (.bool)]⟩
def d169 : DC:=⟨s169,fun _=>True,fun l=>[.b (decide ((⟨(l.getD 1 .u).int,(l.getD 2 .u).int⟩ : Key)∈(l.getD 0 .u).keys))]⟩
def l169 : List (Nat × Ct):=[(206,d206.ct)]
def z169 : Cx:={ T:=ttA,C:=sigs l169,F:=[],hints:=[],sig:=s169}
def t169 : Tree :=
 (.call 206 [.var 0,.var 1,.var 2] 3
 (.ret [.le (.int 0) (.var 3)]))
theorem run169 : run z169 6000 [.code (Try.f169.body.getD .skip),.fin (bt z169 Try.f169.results.toList 50)] { fn:=169,tmps:=z169.sig.aM ++ List.replicate (Try.f169.ntmps - z169.sig.aM.length) (.v (.one .undef)),stk:=[],h:=z169.sig.h0,nx:=z169.sig.ins.length,known:=[]}=t169:=by kernel_rfl
theorem ok169 : cB Try.prog 169 d169.ct:=by
 refine aD (d:=d169) (Z:=z169) (Γ:=gam l169) (fn:=Try.f169) (c:=Try.f169.body.getD .skip) (bg tok mixed (all_cons ok206 all_nil) bh) Try.func169 (by kernel_rfl) (by kernel_rfl) rfl run169 fun E hk hp=>?_
 obtain ⟨hk0,hk1,hk2,_⟩:=hk
 obtain ⟨l,e0,b0⟩:=AI (d:=E 0) hk0
 have b0 : l.length * 16≤140737488355328:=b0
 obtain ⟨k,e1,e2⟩:=vM (d0:=E 1) (d1:=E 2) hk1 hk2
 have el : aH E d169.sig.ins.length=[bS l,.i k.a,.i k.b]:=by
  show [E 0,E 1,E 2]=_
  rw [e0,e1,e2]
 rw [el] at hp
 rw [el]
 simp only [d169,List.getD_cons_zero,List.getD_cons_succ,jf,CD.aR,eZ]
 unfold t169
 refine ai d206 [.i (indexOf k l 0)] rfl trivial (by simp only [nrm,xdn,reduceIte,Nat.reduceLT,Nat.reduceSub,Nat.reduceAdd,d206,e0,e1,e2,jf,eZ]) (aj ?_)
 have h1:=oC k l 0
 simp only [nrm,xdn,reduceIte,Nat.reduceLT,Nat.reduceSub,Nat.reduceAdd,List.cons.injEq,CD.b.injEq,and_true,decide_eq_decide]
 constructor
 ·intro h
  exact Classical.not_not.1 fun hn=>absurd (h1.2 hn) (by omega)
 ·intro h
  rcases Decidable.em (indexOf k l 0 < 0) with h2 | h2
  ·exact absurd h (h1.1 h2)
  ·omega
end Go.Proofs.Ytpmamacjepcdmaa

namespace Go.Proofs.Ytpmamacjepcdmaa
open Go Go.Sy Go.RowKit
set_option linter.unusedSimpArgs false
set_option linter.unusedVariables false
abbrev Key.Ok (k : Key) : Prop:=0≤k.a∧k.a≤15∧0≤k.b∧k.b≤15
def checkKey (k : Key) : Int:=if Key.Ok k then 0 else 3
def aY (k : Key) (n : Int) : Int × Int:=if Key.Ok k then (if n < 1∨4 < n then (0,3) else ((k.a * 7 + k.b * 3 + k.a * k.b).tmod n,0)) else (0,3)
def bf (m : Mem) (c : Cal) : Int :=
 if c.kind=1∨c.kind=3 then checkKey c.k
 else if c.kind=2 then (if c.time < 1∨1000000 < c.time then 3 else checkKey c.k)
 else if c.kind=4∨c.kind=5 then (if c.bucket < 0∨m.heads.length≤c.bucket then 5 else 0)
 else if c.kind=6 then (if c.slot < 0∨m.slots.length≤c.slot then 5 else 0)
 else 4
def eO (m : Mem) (f : Frm) : Int :=
 if bf m f.c≠0 then bf m f.c
 else if f.pc < 0∨9 < f.pc∨f.n < 0∨1000000 < f.n then 3
 else if f.done=true then 3
 else if f.cur < -(m.heads.length : Int)∨m.slots.length < f.cur∨f.prev < 0∨m.slots.length < f.prev∨f.slot < -1∨(m.slots.length : Int) - 1 < f.slot then 5
 else if 100 < f.keys.length then 2
 else 0
def aa (m : Mem) (c : Cal) : Int:=if c.kind=4∨c.kind=5 then c.bucket else (aY c.k m.heads.length).1
def aX (c : Cal) : Frm:=⟨c,0,0,0,-1,0,[],false,0⟩
def ay (f : Frm) (e : Int) : Frm:={ f with done:=true,e:=e}
def s52 : Sig:=⟨[.agg [.int .i64,.int .i64]],[.one (.int .i64)]⟩
def d52 : DC:=⟨s52,fun _=>True,fun l=>[.i (checkKey (Key.of l))]⟩
def l52 : List (Nat × Ct):=[]
def z52 : Cx:={ T:=ttA,C:=sigs l52,F:=[],hints:=[⟨52,2,true,[],[],[],[],0,0,false⟩],sig:=s52}
def t52 : Tree :=
 (.ite (.lt (.var 0) (.int 0))
 (.ret [.int 3])
 (.ite (.lt (.int 15) (.var 0))
 (.ret [.int 3])
 (.ite (.lt (.var 1) (.int 0))
 (.ret [.int 3])
 (.ite (.lt (.int 15) (.var 1))
 (.ret [.int 3])
 (.ret [.int 0])))))
theorem run52 : run z52 6000 [.code (Try.f52.body.getD .skip),.fin (bt z52 Try.f52.results.toList 50)] { fn:=52,tmps:=z52.sig.aM ++ List.replicate (Try.f52.ntmps - z52.sig.aM.length) (.v (.one .undef)),stk:=[],h:=z52.sig.h0,nx:=z52.sig.ins.length,known:=[]}=t52:=by kernel_rfl
theorem ok52 : cB Try.prog 52 d52.ct:=by
 refine aD (d:=d52) (Z:=z52) (Γ:=gam l52) (fn:=Try.f52) (c:=Try.f52.body.getD .skip) (bg tok mixed all_nil bh) Try.func52 (by kernel_rfl) (by kernel_rfl) rfl run52 fun E hk hp=>?_
 obtain ⟨hk0,hk1,_⟩:=hk
 obtain ⟨k,e0,e1⟩:=vM (d0:=E 0) (d1:=E 1) hk0 hk1
 have el : aH E d52.sig.ins.length=[.i k.a,.i k.b]:=by
  show [E 0,E 1]=_
  rw [e0,e1]
 rw [el] at hp
 rw [el]
 rw [Env.bJ el]
 clear el e0 e1
 unfold t52
 repeat' (first | refine G0 (fun h=>?_) (fun h=>?_) | refine aj ?_)
 all_goals
  simp only [nrm,xdn,reduceIte,Nat.reduceLT,Nat.reduceSub,Nat.reduceAdd,d52,jK,eZ] at *
  simp only [checkKey]
  first | rw [if_pos (by omega)] | rw [if_neg (by omega)]
def s160 : Sig:=⟨[.agg [.fz kS,.fz kI,.fz kI,.fz kI,.int .i64],.one (.int .i64)],[.one (.bool)]⟩
def d160 : DC:=⟨s160,fun _=>True,fun l=>[.b (decide ((l.getD 5 .u).int≤(Mem.of l).slots.length∧-((Mem.of l).heads.length : Int)≤(l.getD 5 .u).int))]⟩
def l160 : List (Nat × Ct):=[]
def z160 : Cx:={ T:=ttA,C:=sigs l160,F:=[],hints:=[],sig:=s160}
def t160 : Tree :=
 (.ite (.le (.var 5) (.len (.var 0)))
 (.need (.fit (.sub (.int 0) (.len (.var 1))))
 (.ret [.le (.sub (.int 0) (.len (.var 1))) (.var 5)]))
 (.ret [.bool false]))
theorem run160 : run z160 6000 [.code (Try.f160.body.getD .skip),.fin (bt z160 Try.f160.results.toList 50)] { fn:=160,tmps:=z160.sig.aM ++ List.replicate (Try.f160.ntmps - z160.sig.aM.length) (.v (.one .undef)),stk:=[],h:=z160.sig.h0,nx:=z160.sig.ins.length,known:=[]}=t160:=by kernel_rfl
theorem ok160 : cB Try.prog 160 d160.ct:=by
 refine aD (d:=d160) (Z:=z160) (Γ:=gam l160) (fn:=Try.f160) (c:=Try.f160.body.getD .skip) (bg tok mixed all_nil bh) Try.func160 (by kernel_rfl) (by kernel_rfl) rfl run160 fun E hk hp=>?_
 obtain ⟨hk0,hk1,hk2,hk3,hk4,hk5,_⟩:=hk
 obtain ⟨m,e0,e1,e2,e3,e4,b0,b1,b2,b3⟩:=cv (d0:=E 0) (d1:=E 1) (d2:=E 2) (d3:=E 3) (d4:=E 4) hk0 hk1 hk2 hk3 hk4
 obtain ⟨x,e5⟩:=ok_int (d:=E 5) hk5
 have el : aH E d160.sig.ins.length=[au m.slots,af m.heads,af m.free,af m.locks,.i m.now,.i x]:=by
  show [E 0,E 1,E 2,E 3,E 4,E 5]=_
  rw [e0,e1,e2,e3,e4,e5]
 rw [el] at hp
 rw [el]
 rw [Env.bJ el]
 clear el e0 e1 e2 e3 e4 e5
 unfold t160
 repeat' (first | refine G0 (fun h=>?_) (fun h=>?_) | refine G1 ?_ ?_ | refine aj ?_)
 all_goals
  simp only [nrm,xdn,reduceIte,Nat.reduceLT,Nat.reduceSub,Nat.reduceAdd,d160,mem_of,aA,aN,aw] at *
  first
   | omega
   | (simp only [List.cons.injEq,CD.b.injEq,and_true,decide_eq_decide];omega)
   | (rw [decide_eq_false (by omega)])
def s40 : Sig:=⟨[.agg [.fz kS,.fz kI,.fz kI,.fz kI,.int .i64],.agg [.int .i64,.int .i64,.int .i64,.int .i64,.int .i64,.int .i64]],[.one (.int .i64)]⟩
def d40 : DC:=⟨s40,fun _=>True,fun l=>[.i (bf (Mem.of l) (Cal.of (l.drop 5)))]⟩
def l40 : List (Nat × Ct):=[(52,d52.ct)]
def z40 : Cx:={ T:=ttA,C:=sigs l40,F:=[],hints:=[],sig:=s40}
def t40 : Tree :=
 (.ite (.eq (.var 5) (.int 1))
 (.call 52 [.var 6,.var 7] 11
 (.ret [.var 11]))
 (.ite (.eq (.var 5) (.int 3))
 (.call 52 [.var 6,.var 7] 11
 (.ret [.var 11]))
 (.ite (.eq (.var 5) (.int 2))
 (.ite (.lt (.var 8) (.int 1))
 (.ret [.int 3])
 (.ite (.lt (.int 1000000) (.var 8))
 (.ret [.int 3])
 (.call 52 [.var 6,.var 7] 11
 (.ret [.var 11]))))
 (.ite (.eq (.var 5) (.int 4))
 (.ite (.lt (.var 9) (.int 0))
 (.ret [.int 5])
 (.ite (.le (.len (.var 1)) (.var 9))
 (.ret [.int 5])
 (.ret [.int 0])))
 (.ite (.eq (.var 5) (.int 5))
 (.ite (.lt (.var 9) (.int 0))
 (.ret [.int 5])
 (.ite (.le (.len (.var 1)) (.var 9))
 (.ret [.int 5])
 (.ret [.int 0])))
 (.ite (.eq (.var 5) (.int 6))
 (.ite (.lt (.var 10) (.int 0))
 (.ret [.int 5])
 (.ite (.le (.len (.var 0)) (.var 10))
 (.ret [.int 5])
 (.ret [.int 0])))
 (.ret [.int 4])))))))
theorem run40 : run z40 6000 [.code (Try.f40.body.getD .skip),.fin (bt z40 Try.f40.results.toList 50)] { fn:=40,tmps:=z40.sig.aM ++ List.replicate (Try.f40.ntmps - z40.sig.aM.length) (.v (.one .undef)),stk:=[],h:=z40.sig.h0,nx:=z40.sig.ins.length,known:=[]}=t40:=by kernel_rfl
theorem ok40 : cB Try.prog 40 d40.ct:=by
 refine aD (d:=d40) (Z:=z40) (Γ:=gam l40) (fn:=Try.f40) (c:=Try.f40.body.getD .skip) (bg tok mixed (all_cons ok52 all_nil) bh) Try.func40 (by kernel_rfl) (by kernel_rfl) rfl run40 fun E hk hp=>?_
 obtain ⟨hk0,hk1,hk2,hk3,hk4,hk5,hk6,hk7,hk8,hk9,hk10,_⟩:=hk
 obtain ⟨m,e0,e1,e2,e3,e4,b0,b1,b2,b3⟩:=cv (d0:=E 0) (d1:=E 1) (d2:=E 2) (d3:=E 3) (d4:=E 4) hk0 hk1 hk2 hk3 hk4
 obtain ⟨c,e5,e6,e7,e8,e9,e10⟩:=kR (d0:=E 5) (d1:=E 6) (d2:=E 7) (d3:=E 8) (d4:=E 9) (d5:=E 10) hk5 hk6 hk7 hk8 hk9 hk10
 have el : aH E d40.sig.ins.length=[au m.slots,af m.heads,af m.free,af m.locks,.i m.now,.i c.kind,.i c.k.a,.i c.k.b,.i c.time,.i c.bucket,.i c.slot]:=by
  show [E 0,E 1,E 2,E 3,E 4,E 5,E 6,E 7,E 8,E 9,E 10]=_
  rw [e0,e1,e2,e3,e4,e5,e6,e7,e8,e9,e10]
 rw [el] at hp
 rw [el]
 rw [Env.bJ el]
 clear el e0 e1 e2 e3 e4 e5 e6 e7 e8 e9 e10
 unfold t40
 repeat' (first | refine G0 (fun h=>?_) (fun h=>?_) | refine xX d52 rfl trivial ?_ | refine aj ?_)
 all_goals
  simp only [nrm,xdn,reduceIte,Nat.reduceLT,Nat.reduceSub,Nat.reduceAdd,d40,d52,mem_of,aA,fG,cz,jK,eZ,aN,aw,List.drop_succ_cons,List.drop_zero] at *
  simp only [bf]
  repeat (first | rw [if_pos (by omega)] | rw [if_neg (by omega)])
def s41 : Sig:=⟨[.agg [.int .i64,.int .i64,.int .i64,.int .i64,.int .i64,.int .i64]],[.agg [.int .i64,.int .i64,.int .i64,.int .i64,.int .i64,.int .i64,.int .i64,.int .i64,.int .i64,.int .i64,.int .i64,.fz kK,.bool,.int .i64]]⟩
def d41 : DC:=⟨s41,fun _=>True,fun l=>(aX (Cal.of l)).cds⟩
def l41 : List (Nat × Ct):=[]
def z41 : Cx:={ T:=ttA,C:=sigs l41,F:=[],hints:=[],sig:=s41}
def t41 : Tree :=
 (.ret [.var 0,.var 1,.var 2,.var 3,.var 4,.var 5,.int 0,.int 0,.int 0,.int (-1),.int 0,.nil,.bool false,.int 0])
theorem run41 : run z41 6000 [.code (Try.f41.body.getD .skip),.fin (bt z41 Try.f41.results.toList 50)] { fn:=41,tmps:=z41.sig.aM ++ List.replicate (Try.f41.ntmps - z41.sig.aM.length) (.v (.one .undef)),stk:=[],h:=z41.sig.h0,nx:=z41.sig.ins.length,known:=[]}=t41:=by kernel_rfl
theorem ok41 : cB Try.prog 41 d41.ct:=by
 refine aD (d:=d41) (Z:=z41) (Γ:=gam l41) (fn:=Try.f41) (c:=Try.f41.body.getD .skip) (bg tok mixed all_nil bh) Try.func41 (by kernel_rfl) (by kernel_rfl) rfl run41 fun E hk hp=>?_
 obtain ⟨hk0,hk1,hk2,hk3,hk4,hk5,_⟩:=hk
 obtain ⟨c,e0,e1,e2,e3,e4,e5⟩:=kR (d0:=E 0) (d1:=E 1) (d2:=E 2) (d3:=E 3) (d4:=E 4) (d5:=E 5) hk0 hk1 hk2 hk3 hk4 hk5
 have el : aH E d41.sig.ins.length=[.i c.kind,.i c.k.a,.i c.k.b,.i c.time,.i c.bucket,.i c.slot]:=by
  show [E 0,E 1,E 2,E 3,E 4,E 5]=_
  rw [e0,e1,e2,e3,e4,e5]
 rw [el] at hp
 rw [el]
 rw [Env.bJ el]
 clear el e0 e1 e2 e3 e4 e5
 unfold t41
 refine aj ?_
 simp only [nrm,xdn,reduceIte,Nat.reduceLT,Nat.reduceSub,Nat.reduceAdd,d41,fG,cz,aX,Frm.cds,keys_nil]
def s44 : Sig:=⟨[.agg [.int .i64,.int .i64,.int .i64,.int .i64,.int .i64,.int .i64,.int .i64,.int .i64,.int .i64,.int .i64,.int .i64,.fz kK,.bool,.int .i64],.one (.int .i64)],[.agg [.int .i64,.int .i64,.int .i64,.int .i64,.int .i64,.int .i64,.int .i64,.int .i64,.int .i64,.int .i64,.int .i64,.fz kK,.bool,.int .i64]]⟩
def d44 : DC:=⟨s44,fun _=>True,fun l=>(ay (Frm.of l) (l.getD 14 .u).int).cds⟩
def l44 : List (Nat × Ct):=[]
def z44 : Cx:={ T:=ttA,C:=sigs l44,F:=[],hints:=[],sig:=s44}
def t44 : Tree :=
 (.ret [.var 0,.var 1,.var 2,.var 3,.var 4,.var 5,.var 6,.var 7,.var 8,.var 9,.var 10,.var 11,.bool true,.var 14])
theorem run44 : run z44 6000 [.code (Try.f44.body.getD .skip),.fin (bt z44 Try.f44.results.toList 50)] { fn:=44,tmps:=z44.sig.aM ++ List.replicate (Try.f44.ntmps - z44.sig.aM.length) (.v (.one .undef)),stk:=[],h:=z44.sig.h0,nx:=z44.sig.ins.length,known:=[]}=t44:=by kernel_rfl
theorem ok44 : cB Try.prog 44 d44.ct:=by
 refine aD (d:=d44) (Z:=z44) (Γ:=gam l44) (fn:=Try.f44) (c:=Try.f44.body.getD .skip) (bg tok mixed all_nil bh) Try.func44 (by kernel_rfl) (by kernel_rfl) rfl run44 fun E hk hp=>?_
 obtain ⟨hk0,hk1,hk2,hk3,hk4,hk5,hk6,hk7,hk8,hk9,hk10,hk11,hk12,hk13,hk14,_⟩:=hk
 obtain ⟨f,e0,e1,e2,e3,e4,e5,e6,e7,e8,e9,e10,e11,e12,e13,b11⟩:=ja (d0:=E 0) (d1:=E 1) (d2:=E 2) (d3:=E 3) (d4:=E 4) (d5:=E 5) (d6:=E 6) (d7:=E 7) (d8:=E 8) (d9:=E 9) (d10:=E 10) (d11:=E 11) (d12:=E 12) (d13:=E 13) hk0 hk1 hk2 hk3 hk4 hk5 hk6 hk7 hk8 hk9 hk10 hk11 hk12 hk13
 obtain ⟨x,e14⟩:=ok_int (d:=E 14) hk14
 have el : aH E d44.sig.ins.length=[.i f.c.kind,.i f.c.k.a,.i f.c.k.b,.i f.c.time,.i f.c.bucket,.i f.c.slot,.i f.pc,.i f.cur,.i f.prev,.i f.slot,.i f.n,bS f.keys,.b f.done,.i f.e,.i x]:=by
  show [E 0,E 1,E 2,E 3,E 4,E 5,E 6,E 7,E 8,E 9,E 10,E 11,E 12,E 13,E 14]=_
  rw [e0,e1,e2,e3,e4,e5,e6,e7,e8,e9,e10,e11,e12,e13,e14]
 rw [el] at hp
 rw [el]
 rw [Env.bJ el]
 clear el e0 e1 e2 e3 e4 e5 e6 e7 e8 e9 e10 e11 e12 e13 e14
 unfold t44
 refine aj ?_
 simp only [nrm,xdn,reduceIte,Nat.reduceLT,Nat.reduceSub,Nat.reduceAdd,d44,dJ,ay,Frm.cds]
def s43 : Sig:=⟨[.agg [.fz kS,.fz kI,.fz kI,.fz kI,.int .i64],.agg [.int .i64,.int .i64,.int .i64,.int .i64,.int .i64,.int .i64,.int .i64,.int .i64,.int .i64,.int .i64,.int .i64,.fz kK,.bool,.int .i64]],[.one (.int .i64)]⟩
def d43 : DC:=⟨s43,fun _=>True,fun l=>[.i (eO (Mem.of l) (Frm.of (l.drop 5)))]⟩
def l43 : List (Nat × Ct):=[(40,d40.ct)]
def z43 : Cx:={ T:=ttA,C:=sigs l43,F:=[],hints:=[⟨43,7,true,[],[],[],[],0,0,false⟩],sig:=s43}
def t43 : Tree :=
 (.call 40 [.var 0,.var 1,.var 2,.var 3,.var 4,.var 5,.var 6,.var 7,.var 8,.var 9,.var 10] 19
 (.ite (.not (.eq (.var 19) (.int 0)))
 (.ret [.var 19])
 (.ite (.lt (.var 11) (.int 0))
 (.ret [.int 3])
 (.ite (.lt (.int 9) (.var 11))
 (.ret [.int 3])
 (.ite (.lt (.var 15) (.int 0))
 (.ret [.int 3])
 (.ite (.lt (.int 1000000) (.var 15))
 (.ret [.int 3])
 (.ite (.var 17)
 (.ret [.int 3])
 (.need (.fit (.sub (.int 0) (.len (.var 1))))
 (.need (.fit (.sub (.len (.var 0)) (.int 1)))
 (.ite (.lt (.var 12) (.sub (.int 0) (.len (.var 1))))
 (.ret [.int 5])
 (.ite (.lt (.len (.var 0)) (.var 12))
 (.ret [.int 5])
 (.ite (.lt (.var 13) (.int 0))
 (.ret [.int 5])
 (.ite (.lt (.len (.var 0)) (.var 13))
 (.ret [.int 5])
 (.ite (.lt (.var 14) (.int (-1)))
 (.ret [.int 5])
 (.ite (.lt (.sub (.len (.var 0)) (.int 1)) (.var 14))
 (.ret [.int 5])
 (.ite (.lt (.int 100) (.len (.var 16)))
 (.ret [.int 2])
 (.ret [.int 0])))))))))))))))))
theorem run43 : run z43 6000 [.code (Try.f43.body.getD .skip),.fin (bt z43 Try.f43.results.toList 50)] { fn:=43,tmps:=z43.sig.aM ++ List.replicate (Try.f43.ntmps - z43.sig.aM.length) (.v (.one .undef)),stk:=[],h:=z43.sig.h0,nx:=z43.sig.ins.length,known:=[]}=t43:=by kernel_rfl
theorem ok43 : cB Try.prog 43 d43.ct:=by
 refine aD (d:=d43) (Z:=z43) (Γ:=gam l43) (fn:=Try.f43) (c:=Try.f43.body.getD .skip) (bg tok mixed (all_cons ok40 all_nil) bh) Try.func43 (by kernel_rfl) (by kernel_rfl) rfl run43 fun E hk hp=>?_
 obtain ⟨hk0,hk1,hk2,hk3,hk4,hk5,hk6,hk7,hk8,hk9,hk10,hk11,hk12,hk13,hk14,hk15,hk16,hk17,hk18,_⟩:=hk
 obtain ⟨m,e0,e1,e2,e3,e4,b0,b1,b2,b3⟩:=cv (d0:=E 0) (d1:=E 1) (d2:=E 2) (d3:=E 3) (d4:=E 4) hk0 hk1 hk2 hk3 hk4
 obtain ⟨f,e5,e6,e7,e8,e9,e10,e11,e12,e13,e14,e15,e16,e17,e18,b16⟩:=ja (d0:=E 5) (d1:=E 6) (d2:=E 7) (d3:=E 8) (d4:=E 9) (d5:=E 10) (d6:=E 11) (d7:=E 12) (d8:=E 13) (d9:=E 14) (d10:=E 15) (d11:=E 16) (d12:=E 17) (d13:=E 18) hk5 hk6 hk7 hk8 hk9 hk10 hk11 hk12 hk13 hk14 hk15 hk16 hk17 hk18
 have el : aH E d43.sig.ins.length=[au m.slots,af m.heads,af m.free,af m.locks,.i m.now,.i f.c.kind,.i f.c.k.a,.i f.c.k.b,.i f.c.time,.i f.c.bucket,.i f.c.slot,.i f.pc,.i f.cur,.i f.prev,.i f.slot,.i f.n,bS f.keys,.b f.done,.i f.e]:=by
  show [E 0,E 1,E 2,E 3,E 4,E 5,E 6,E 7,E 8,E 9,E 10,E 11,E 12,E 13,E 14,E 15,E 16,E 17,E 18]=_
  rw [e0,e1,e2,e3,e4,e5,e6,e7,e8,e9,e10,e11,e12,e13,e14,e15,e16,e17,e18]
 rw [el] at hp
 rw [el]
 rw [Env.bJ el]
 clear el e0 e1 e2 e3 e4 e5 e6 e7 e8 e9 e10 e11 e12 e13 e14 e15 e16 e17 e18
 unfold t43
 have hc : d43.fn [au m.slots,af m.heads,af m.free,af m.locks,.i m.now,.i f.c.kind,.i f.c.k.a,.i f.c.k.b,.i f.c.time,.i f.c.bucket,.i f.c.slot,.i f.pc,.i f.cur,.i f.prev,.i f.slot,.i f.n,bS f.keys,.b f.done,.i f.e]=[.i (eO m f)]:=by
  simp only [d43,mem_of,aA,List.drop_succ_cons,List.drop_zero,dJ]
 rw [hc]
 refine ai d40 [.i (bf m f.c)] rfl trivial ?_ ?_
 ·simp only [nrm,xdn,reduceIte,Nat.reduceLT,Nat.reduceSub,Nat.reduceAdd,d40,mem_of,aA,fG,cz,List.drop_succ_cons,List.drop_zero]
 unfold eO
 repeat' (first | refine G0 (fun h=>?_) (fun h=>?_) | refine G1 ?_ ?_ | refine aj ?_)
 all_goals
  simp only [nrm,xdn,reduceIte,Nat.reduceLT,Nat.reduceSub,Nat.reduceAdd,aN,aw,bX,Bool.not_eq_true',Bool.not_eq_false',not_false_eq_true] at *
  first
   | omega
   | (repeat (first | rw [if_pos (by omega)] | rw [if_neg (by omega)] | rw [if_pos (by assumption)] | rw [if_neg (by simp [*])]))
def s97 : Sig:=⟨[.agg [.int .i64,.int .i64],.one (.int .i64)],[.one (.int .i64),.one (.int .i64)]⟩
def d97 : DC:=⟨s97,fun _=>True,fun l=>[.i (aY (Key.of l) (l.getD 2 .u).int).1,.i (aY (Key.of l) (l.getD 2 .u).int).2]⟩
theorem uQ {a b : Int} (h1 : 0≤a) (h2 : a≤15) (h3 : 0≤b) (h4 : b≤15) : 0≤a * b∧a * b≤225:=by
 have:=Int.mul_nonneg h1 h3
 have h5 : a * b≤15 * 15:=Int.mul_le_mul h2 h4 h3 (by omega)
 omega
def l97 : List (Nat × Ct):=[(52,d52.ct)]
def z97 : Cx:={ T:=ttA,C:=sigs l97,F:=[],hints:=[],sig:=s97}
def t97 : Tree :=
 (.call 52 [.var 0,.var 1] 3
 (.ite (.not (.eq (.var 3) (.int 0)))
 (.ret [.int 0,.var 3])
 (.ite (.lt (.var 2) (.int 1))
 (.ret [.int 0,.int 3])
 (.ite (.lt (.int 4) (.var 2))
 (.ret [.int 0,.int 3])
 (.need (.fit (.mul (.var 0) (.int 7)))
 (.need (.fit (.mul (.var 1) (.int 3)))
 (.need (.fit (.add (.mul (.var 0) (.int 7)) (.mul (.var 1) (.int 3))))
 (.need (.fit (.mul (.var 0) (.var 1)))
 (.need (.fit (.add (.add (.mul (.var 0) (.int 7)) (.mul (.var 1) (.int 3))) (.mul (.var 0) (.var 1))))
 (.need (.not (.eq (.var 2) (.int 0)))
 (.ret [.tmod (.add (.add (.mul (.var 0) (.int 7)) (.mul (.var 1) (.int 3))) (.mul (.var 0) (.var 1))) (.var 2),.int 0])))))))))))
theorem run97 : run z97 6000 [.code (Try.f97.body.getD .skip),.fin (bt z97 Try.f97.results.toList 50)] { fn:=97,tmps:=z97.sig.aM ++ List.replicate (Try.f97.ntmps - z97.sig.aM.length) (.v (.one .undef)),stk:=[],h:=z97.sig.h0,nx:=z97.sig.ins.length,known:=[]}=t97:=by kernel_rfl
theorem ok97 : cB Try.prog 97 d97.ct:=by
 refine aD (d:=d97) (Z:=z97) (Γ:=gam l97) (fn:=Try.f97) (c:=Try.f97.body.getD .skip) (bg tok mixed (all_cons ok52 all_nil) bh) Try.func97 (by kernel_rfl) (by kernel_rfl) rfl run97 fun E hk hp=>?_
 obtain ⟨hk0,hk1,hk2,_⟩:=hk
 obtain ⟨k,e0,e1⟩:=vM (d0:=E 0) (d1:=E 1) hk0 hk1
 obtain ⟨x,e2⟩:=ok_int (d:=E 2) hk2
 have el : aH E d97.sig.ins.length=[.i k.a,.i k.b,.i x]:=by
  show [E 0,E 1,E 2]=_
  rw [e0,e1,e2]
 rw [el] at hp
 rw [el]
 rw [Env.bJ el]
 clear el e0 e1 e2
 unfold t97
 have hc : d97.fn [.i k.a,.i k.b,.i x]=[.i (aY k x).1,.i (aY k x).2]:=by
  simp only [d97,jK,eZ,List.getD_cons_succ,List.getD_cons_zero,CD.aR]
 rw [hc]
 refine ai d52 [.i (checkKey k)] rfl trivial ?_ ?_
 ·simp only [nrm,xdn,reduceIte,Nat.reduceLT,Nat.reduceSub,Nat.reduceAdd,d52,jK,eZ]
 refine G0 (fun h=>?_) (fun h=>?_)
 ·simp only [nrm,xdn,reduceIte,Nat.reduceLT,Nat.reduceSub,Nat.reduceAdd,checkKey,Bool.not_eq_true'] at h
  have hk : ¬ Key.Ok k:=fun hk=>by rw [if_pos hk] at h;exact h rfl
  refine aj ?_
  simp only [nrm,xdn,reduceIte,Nat.reduceLT,Nat.reduceSub,Nat.reduceAdd,checkKey,aY,if_neg hk]
 ·simp only [nrm,xdn,reduceIte,Nat.reduceLT,Nat.reduceSub,Nat.reduceAdd,checkKey,Bool.not_eq_false'] at h
  have hk : Key.Ok k:=Decidable.byContradiction fun hk=>by rw [if_neg hk] at h;cases h
  have hb:=uQ hk.1 hk.2.1 hk.2.2.1 hk.2.2.2
  obtain ⟨k1,k2,k3,k4⟩:=id hk
  unfold aY
  rw [if_pos hk]
  repeat' (first | refine G0 (fun h=>?_) (fun h=>?_) | refine G1 ?_ ?_ | refine ag ?_ ?_ | refine aj ?_)
  all_goals simp only [nrm,xdn,reduceIte,Nat.reduceLT,Nat.reduceSub,Nat.reduceAdd,Bool.not_eq_true'] at *
  all_goals first
   | omega
   | (rw [if_pos (by omega)])
   | (rw [if_neg (by omega)])
def s48 : Sig:=⟨[.agg [.fz kS,.fz kI,.fz kI,.fz kI,.int .i64],.agg [.int .i64,.int .i64,.int .i64,.int .i64,.int .i64,.int .i64]],[.one (.int .i64)]⟩
def d48 : DC:=⟨s48,fun _=>True,fun l=>[.i (aa (Mem.of l) (Cal.of (l.drop 5)))]⟩
def l48 : List (Nat × Ct):=[(97,d97.ct)]
def z48 : Cx:={ T:=ttA,C:=sigs l48,F:=[],hints:=[],sig:=s48}
def t48 : Tree :=
 (.ite (.eq (.var 5) (.int 4))
 (.ret [.var 9])
 (.ite (.eq (.var 5) (.int 5))
 (.ret [.var 9])
 (.call 97 [.var 6,.var 7,.len (.var 1)] 11
 (.ret [.var 11]))))
theorem run48 : run z48 6000 [.code (Try.f48.body.getD .skip),.fin (bt z48 Try.f48.results.toList 50)] { fn:=48,tmps:=z48.sig.aM ++ List.replicate (Try.f48.ntmps - z48.sig.aM.length) (.v (.one .undef)),stk:=[],h:=z48.sig.h0,nx:=z48.sig.ins.length,known:=[]}=t48:=by kernel_rfl
theorem ok48 : cB Try.prog 48 d48.ct:=by
 refine aD (d:=d48) (Z:=z48) (Γ:=gam l48) (fn:=Try.f48) (c:=Try.f48.body.getD .skip) (bg tok mixed (all_cons ok97 all_nil) bh) Try.func48 (by kernel_rfl) (by kernel_rfl) rfl run48 fun E hk hp=>?_
 obtain ⟨hk0,hk1,hk2,hk3,hk4,hk5,hk6,hk7,hk8,hk9,hk10,_⟩:=hk
 obtain ⟨m,e0,e1,e2,e3,e4,b0,b1,b2,b3⟩:=cv (d0:=E 0) (d1:=E 1) (d2:=E 2) (d3:=E 3) (d4:=E 4) hk0 hk1 hk2 hk3 hk4
 obtain ⟨c,e5,e6,e7,e8,e9,e10⟩:=kR (d0:=E 5) (d1:=E 6) (d2:=E 7) (d3:=E 8) (d4:=E 9) (d5:=E 10) hk5 hk6 hk7 hk8 hk9 hk10
 have el : aH E d48.sig.ins.length=[au m.slots,af m.heads,af m.free,af m.locks,.i m.now,.i c.kind,.i c.k.a,.i c.k.b,.i c.time,.i c.bucket,.i c.slot]:=by
  show [E 0,E 1,E 2,E 3,E 4,E 5,E 6,E 7,E 8,E 9,E 10]=_
  rw [e0,e1,e2,e3,e4,e5,e6,e7,e8,e9,e10]
 rw [el] at hp
 rw [el]
 rw [Env.bJ el]
 clear el e0 e1 e2 e3 e4 e5 e6 e7 e8 e9 e10
 unfold t48
 have hc : d48.fn [au m.slots,af m.heads,af m.free,af m.locks,.i m.now,.i c.kind,.i c.k.a,.i c.k.b,.i c.time,.i c.bucket,.i c.slot]=[.i (aa m c)]:=by
  simp only [d48,mem_of,aA,List.drop_succ_cons,List.drop_zero,fG,cz]
 rw [hc]
 unfold aa
 refine G0 (fun h=>?_) (fun h=>G0 (fun h'=>?_) (fun h'=>?_))
 ·simp only [nrm,xdn,reduceIte,Nat.reduceLT,Nat.reduceSub,Nat.reduceAdd] at h
  rw [if_pos (.inl h)]
  refine aj ?_
  simp only [nrm,xdn,reduceIte,Nat.reduceLT,Nat.reduceSub,Nat.reduceAdd]
 ·simp only [nrm,xdn,reduceIte,Nat.reduceLT,Nat.reduceSub,Nat.reduceAdd] at h'
  rw [if_pos (.inr h')]
  refine aj ?_
  simp only [nrm,xdn,reduceIte,Nat.reduceLT,Nat.reduceSub,Nat.reduceAdd]
 ·simp only [nrm,xdn,reduceIte,Nat.reduceLT,Nat.reduceSub,Nat.reduceAdd] at h h'
  rw [if_neg (by omega)]
  refine ai d97 [.i (aY c.k m.heads.length).1,.i (aY c.k m.heads.length).2] rfl trivial ?_ (aj ?_)
  ·simp only [nrm,xdn,reduceIte,Nat.reduceLT,Nat.reduceSub,Nat.reduceAdd,d97,jK,eZ,aw]
  ·simp only [nrm,xdn,reduceIte,Nat.reduceLT,Nat.reduceSub,Nat.reduceAdd]
end Go.Proofs.Ytpmamacjepcdmaa
