import Derived.Test.YtpmamacjepcdmaaCRef
namespace Go.Proofs.Ytpmamacjepcdmaa
open Go Go.Sy Go.RowKit
set_option linter.unusedSimpArgs false
set_option linter.unusedVariables false
end Go.Proofs.Ytpmamacjepcdmaa

namespace Go.Proofs.Ytpmamacjepcdmaa
open Go Go.Sy Go.RowKit
set_option linter.unusedSimpArgs false
set_option linter.unusedVariables false
end Go.Proofs.Ytpmamacjepcdmaa

namespace Go.Proofs.Ytpmamacjepcdmaa
open Go Go.Sy Go.RowKit
set_option linter.unusedSimpArgs false
set_option linter.unusedVariables false
theorem fj {Γ : Gam} {R : List CD→Prop} {E : Env} {J : JJ} {id id2 : Nat} {cur : List X} {Y Y2 : List CD→Prop} (hne : id≠id2) (h : Y (cur.map (X.den E))) : (Tree.back id cur).den Γ R E ((J.put id Y).put id2 Y2):=by
 show ((J.put id Y).put id2 Y2).b id _
 simp only [JJ.put,if_neg hne,if_true]
 exact h
def walk (m : Mem) : Nat→Int→Option (List Int × Int)
 | 0,_=>none
 | f + 1,n=>if n≤0 then some ([],n) else (walk m f (msl m (n - 1).toNat).next).map fun p=>((n - 1) :: p.1,p.2)
theorem oP {m : Mem} {f : Nat} {n : Int} (h : n≤0) : walk m (f + 1) n=some ([],n):=by simp only [walk,if_pos h]
theorem oO {m : Mem} {f : Nat} {n : Int} (h : ¬ n≤0) : walk m (f + 1) n=(walk m f (msl m (n - 1).toNat).next).map fun p=>((n - 1) :: p.1,p.2):=by simp only [walk,if_neg h]
def aO (m : Mem) (b : Int) : Int:=m.heads.getD b.toNat 0
def walked (m : Mem) (b : Int) : Option (List Int × Int):=walk m (m.slots.length + 1) (aO m b)
def cQ (m : Mem) (b : Int) : Option (List Int):=match walked m b with
 | some p=>if p.2=-1 - b then some p.1 else none
 | none=>none
def bP (m : Mem) (b : Int) : List Int × Int:=match cQ m b with
 | some l=>(l,0)
 | none=>([],4)
theorem bB.nx {m : Mem} (h : bB m) (i : Nat) : (msl m i).next≤m.slots.length:=by
 rcases Nat.lt_or_ge i m.slots.length with hl | hg
 ·exact (h.sl hl).n0
 ·unfold msl
  rw [List.getD_eq_getElem?_getD,List.getElem?_eq_none hg]
  show (0 : Int)≤_
  omega
theorem bB.hd {m : Mem} (h : bB m) (b : Int) : aO m b≤m.slots.length:=by
 unfold aO
 rcases Nat.lt_or_ge b.toNat m.heads.length with hl | hg
 ·exact (h.head _ hl).n0
 ·rw [List.getD_eq_getElem?_getD,List.getElem?_eq_none hg]
  show (0 : Int)≤_
  omega
theorem wK {m : Mem} (hm : bB m) : ∀ (f : Nat) (n : Int) (l : List Int) (e : Int),n≤m.slots.length→walk m f n=some (l,e)→l.length < f∧∀ a∈l,0≤a∧a < m.slots.length
 | 0,_,_,_,_,h=>by cases h
 | f + 1,n,l,e,hn,h=>by
  by_cases h0 : n≤0
  ·rw [oP h0] at h
   cases h
   exact ⟨by simp,fun _ h=>by cases h⟩
  ·rw [oO h0] at h
   cases hw : walk m f (msl m (n - 1).toNat).next with
   | none=>rw [hw] at h;cases h
   | some p =>
    rw [hw] at h
    cases h
    obtain ⟨i1,i2⟩:=wK hm f _ p.1 p.2 (hm.nx _) hw
    refine ⟨by simp;omega,fun a ha=>?_⟩
    rcases List.mem_cons.1 ha with rfl | ha
    ·omega
    ·exact i2 a ha
theorem mG {m : Mem} {b : Int} {l : List Int} (h : cQ m b=some l) : walked m b=some (l,-1 - b):=by
 unfold cQ at h
 cases hw : walked m b with
 | none=>rw [hw] at h;cases h
 | some p =>
  rw [hw] at h
  dsimp only at h
  split at h
  ·rename_i he;cases h;rw [← he]
  ·cases h
theorem rm {m : Mem} (hm : bB m) {b : Int} {l : List Int} (h : cQ m b=some l) : l.length≤m.slots.length∧∀ a∈l,0≤a∧a < m.slots.length:=by
 have:=wK hm _ _ l _ (hm.hd b) (mG h)
 exact ⟨by omega,this.2⟩
def eY (m : Mem) (b : Int) (ks : List Key) (a : Int) : Int :=
 if (msl m a.toNat).refs=0∨(msl m a.toNat).inn=false then 5 else if (aY (msl m a.toNat).k m.heads.length).1≠b then 4 else if (msl m a.toNat).k∈ks then 6 else 0
def bQ (m : Mem) (b : Int) : List Int→List Key→Int × List Key
 | [],ks=>(0,ks)
 | a :: l,ks=>if eY m b ks a≠0 then (eY m b ks a,ks) else bQ m b l ((msl m a.toNat).k :: ks)
def dk (m : Mem) : Nat→Nat→List Key→Int
 | 0,_,_=>0
 | n + 1,b,ks=>match cQ m b with
  | none=>4
  | some l=>if (bQ m b l ks).1≠0 then (bQ m b l ks).1 else dk m n (b + 1) (bQ m b l ks).2
def bU (m : Mem) : Int:=if cP m≠0 then cP m else dk m m.heads.length 0 []
theorem tU {m : Mem} {b : Int} {l : List Int} {ks : List Key} {i : Nat} (h : i < l.length) : bQ m b (l.drop i) ks=if eY m b ks (l.getD i 0)≠0 then (eY m b ks (l.getD i 0),ks) else bQ m b (l.drop (i + 1)) ((msl m (l.getD i 0).toNat).k :: ks):=by
 rw [dL h];rfl
theorem mE {m : Mem} {n b : Nat} {ks : List Key} {l : List Int} (h : cQ m b=some l) : dk m (n + 1) b ks=if (bQ m b l ks).1≠0 then (bQ m b l ks).1 else dk m n (b + 1) (bQ m b l ks).2:=by
 simp only [dk,h]
theorem mF {m : Mem} {n b : Nat} {ks : List Key} (h : cQ m b=none) : dk m (n + 1) b ks=4:=by
 simp only [dk,h]
def Aw (L : List Key) : CD:=.l (L.map fun k=>[.i k.a,.i k.b,.b true])
theorem ou (a b : Int) : ∀ L : List Key,((CD.find (Aw L).rows [.i a,.i b] 2).getD []).getD 2 (.b false)=.b (decide ((⟨a,b⟩ : Key)∈L))
 | []=>rfl
 | x :: L=>by
  have ih:=ou a b L
  simp only [Aw,CD.ax,CD.find,List.map_cons,List.find?_cons,List.take_succ_cons,List.take_zero,kJ,CD.eqs,Bool.and_true] at ih ⊢
  cases h : ((x.a ==a) && (x.b ==b)) with
  | true =>
   simp only [Bool.and_eq_true,beq_iff_eq] at h
   have e : (⟨a,b⟩ : Key)=x:=by rw [← h.1,← h.2]
   simp [e]
  | false =>
   have hne : (⟨a,b⟩ : Key)≠x:=fun e=>by subst e;simp at h
   simp only [ih,List.mem_cons,hne,false_or]
def s168 : Sig:=⟨[.agg [.fz kS,.fz kI,.fz kI,.fz kI,.int .i64],.one (.int .i64)],[.one (.own 3 kI),.one (.int .i64)]⟩
def d168 : DC:=⟨s168,fun l=>bB (Mem.of l)∧0≤(l.getD 5 .u).int∧(l.getD 5 .u).int < (Mem.of l).heads.length,fun l=>[af (bP (Mem.of l) (l.getD 5 .u).int).1,.i (bP (Mem.of l) (l.getD 5 .u).int).2]⟩
theorem fn168 (m : Mem) (b : Int) : d168.fn [au m.slots,af m.heads,af m.free,af m.ae,.i m.now,.i b]=[af (bP m b).1,.i (bP m b).2]:=by simp only [d168,mem_of,aA,List.getD_cons_zero,List.getD_cons_succ,CD.aR]
theorem pre168 {m : Mem} {b : Int} (h : bB m) (h1 : 0≤b) (h2 : b < m.heads.length) : d168.pre [au m.slots,af m.heads,af m.free,af m.ae,.i m.now,.i b]:=by
 simp only [d168,mem_of,aA,List.getD_cons_zero,List.getD_cons_succ,CD.aR]
 exact ⟨h,h1,h2⟩
def l168 : List (Nat × Ct):=[]
def z168 : Cx:={ T:=ttA,C:=sigs l168,F:=[],hints:=[⟨168,3,false,[(7,.lt),(6,.own 3 kI)],[],[],[],0,0,false⟩],sig:=s168}
def t168 : Tree :=
 (.need (.le (.int 0) (.var 5))
 (.need (.lt (.var 5) (.len (.var 1)))
 (.loop 6 [.sl 8 [.int .i64],.int .i64] [.nil,.cell (.var 1) (.var 5) 0]
 (.ite (.lt (.int 0) (.var 8))
 (.ite (.eq (.len (.var 7)) (.len (.var 0)))
 (.ret [.nil,.int 4])
 (.need (.fit (.sub (.var 8) (.int 1)))
 (.need (.le (.add (.len (.var 7)) (.int 1)) (.int 17592186044416))
 (.need (.le (.int 0) (.sub (.var 8) (.int 1)))
 (.need (.lt (.sub (.var 8) (.int 1)) (.len (.var 0)))
 (.back 6 [.app (.var 7) (.cons (.sub (.var 8) (.int 1)) .row0),.cell (.var 0) (.sub (.var 8) (.int 1)) 5]))))))
 (.need (.fit (.sub (.int (-1)) (.var 5)))
 (.ite (.not (.eq (.var 8) (.sub (.int (-1)) (.var 5))))
 (.ret [.nil,.int 4])
 (.ret [.var 7,.int 0])))))))
theorem run168 : run z168 6000 [.code (Try.f168.body.getD .skip),.fin (bt z168 Try.f168.results.toList 50)] { fn:=168,tmps:=z168.sig.aM ++ List.replicate (Try.f168.ntmps - z168.sig.aM.length) (.v (.one .undef)),stk:=[],h:=z168.sig.h0,nx:=z168.sig.ins.length,known:=[]}=t168:=by kernel_rfl
theorem ok168 : cB Try.prog 168 d168.ct:=by
 refine aD (d:=d168) (Z:=z168) (Γ:=gam l168) (fn:=Try.f168) (c:=Try.f168.body.getD .skip) (bg tok mixed all_nil bh) Try.func168 (by kernel_rfl) (by kernel_rfl) rfl run168 fun E hk hp=>?_
 obtain ⟨hk0,hk1,hk2,hk3,hk4,hk5,_⟩:=hk
 obtain ⟨m,e0,e1,e2,e3,e4,b0,b1,b2,b3⟩:=cv (d0:=E 0) (d1:=E 1) (d2:=E 2) (d3:=E 3) (d4:=E 4) hk0 hk1 hk2 hk3 hk4
 obtain ⟨x,e5⟩:=ok_int (d:=E 5) hk5
 have el : aH E d168.sig.ins.length=[au m.slots,af m.heads,af m.free,af m.ae,.i m.now,.i x]:=by
  show [E 0,E 1,E 2,E 3,E 4,E 5]=_
  rw [e0,e1,e2,e3,e4,e5]
 rw [el] at hp
 rw [el]
 rw [Env.bJ el]
 clear el e0 e1 e2 e3 e4 e5
 rw [fn168]
 simp only [d168,mem_of,aA,List.getD_cons_zero,List.getD_cons_succ,CD.aR] at hp
 obtain ⟨hm,hx0,hx1⟩:=hp
 have hns:=hm.ns
 unfold t168
 refine ag (by simp only [nrm,xdn,reduceIte,Nat.reduceLT,Nat.reduceSub,Nat.reduceAdd];omega) (ag (by simp only [nrm,xdn,reduceIte,Nat.reduceLT,Nat.reduceSub,Nat.reduceAdd,aw];omega) ?_)
 refine bO (fun ds=>∃ (acc : List Int) (n : Int),ds=[af acc,.i n]∧acc.length≤m.slots.length∧n≤m.slots.length∧walked m x=(walk m (m.slots.length - acc.length + 1) n).map fun p=>(acc ++ p.1,p.2)) (fun ds=>m.slots.length - (ds.getD 0 .u).rows.length)
  ⟨[],aO m x,?_,by simp,hm.hd x,?_⟩ ?_
 ·simp only [nrm,xdn,reduceIte,Nat.reduceLT,Nat.reduceSub,Nat.reduceAdd,iK (show x.toNat < m.heads.length by omega)];rfl
 ·simp only [List.length_nil,Nat.sub_zero,List.nil_append]
  show walk m _ _=_
  cases walk m (m.slots.length + 1) (aO m x) <;> rfl
 rintro ds - ⟨acc,n,rfl,hl,hn,hw⟩
 refine G0 (fun h=>G0 (fun h'=>aj ?_) (fun h'=>?_)) (fun h=>G1 (by simp only [nrm,xdn,reduceIte,Nat.reduceLT,Nat.reduceSub,Nat.reduceAdd];omega) (G0 (fun h'=>aj ?_) (fun h'=>aj ?_)))
 ·simp only [nrm,xdn,reduceIte,Nat.reduceLT,Nat.reduceSub,Nat.reduceAdd,aw,aN] at h h'
  have e : m.slots.length - acc.length=0:=by omega
  rw [e,oO (by omega)] at hw
  have : bP m x=([],4):=by unfold bP cQ;rw [hw];rfl
  rw [this]
  simp only [nrm,xdn,reduceIte,Nat.reduceLT,Nat.reduceSub,Nat.reduceAdd];rfl
 ·simp only [nrm,xdn,reduceIte,Nat.reduceLT,Nat.reduceSub,Nat.reduceAdd,aw,aN] at h h'
  refine G1 (by simp only [nrm,xdn,reduceIte,Nat.reduceLT,Nat.reduceSub,Nat.reduceAdd];omega) (eh (by simp only [nrm,xdn,reduceIte,Nat.reduceLT,Nat.reduceSub,Nat.reduceAdd,aw];omega) (ag (by simp only [nrm,xdn,reduceIte,Nat.reduceLT,Nat.reduceSub,Nat.reduceAdd];omega) (ag (by simp only [nrm,xdn,reduceIte,Nat.reduceLT,Nat.reduceSub,Nat.reduceAdd,aN];omega) (aV ⟨⟨acc ++ [n - 1],(msl m (n - 1).toNat).next,?_,by simp;omega,hm.nx _,?_⟩,?_⟩))))
  ·simp only [nrm,xdn,reduceIte,Nat.reduceLT,Nat.reduceSub,Nat.reduceAdd,CD.row,List.headD_cons,gV,qa (show (n - 1).toNat < m.slots.length by omega)];rfl
  ·rw [hw,oO (by omega),show m.slots.length - acc.length=m.slots.length - (acc ++ [n - 1]).length + 1 from by simp;omega]
   cases walk m (m.slots.length - (acc ++ [n - 1]).length + 1) (msl m (n - 1).toNat).next with
   | none=>rfl
   | some p=>simp
  ·simp only [nrm,xdn,reduceIte,Nat.reduceLT,Nat.reduceSub,Nat.reduceAdd,CD.row,List.headD_cons,gV,aw,List.length_append];omega
 ·simp only [nrm,xdn,reduceIte,Nat.reduceLT,Nat.reduceSub,Nat.reduceAdd,Bool.not_eq_true'] at h h'
  rw [oP (by omega)] at hw
  have : bP m x=([],4):=by
   unfold bP cQ
   rw [hw]
   simp only [Option.map_some]
   rw [if_neg (by omega)]
  rw [this]
  simp only [nrm,xdn,reduceIte,Nat.reduceLT,Nat.reduceSub,Nat.reduceAdd];rfl
 ·simp only [nrm,xdn,reduceIte,Nat.reduceLT,Nat.reduceSub,Nat.reduceAdd,Bool.not_eq_false'] at h h'
  rw [oP (by omega)] at hw
  have : bP m x=(acc,0):=by
   unfold bP cQ
   rw [hw]
   simp only [Option.map_some,List.append_nil]
   rw [if_pos (by omega)]
  rw [this]
  simp only [nrm,xdn,reduceIte,Nat.reduceLT,Nat.reduceSub,Nat.reduceAdd]
end Go.Proofs.Ytpmamacjepcdmaa
