import Derived.Test.YtpmamacjepcdmaaCFit
namespace Go.Proofs.Ytpmamacjepcdmaa
open Go Go.Sy Go.RowKit
set_option linter.unusedSimpArgs false
set_option linter.unusedVariables false
def chN (m o : Mem) : Nat→Nat
 | 0=>0
 | n + 1=>chN m o n + if msl m n=msl o n then 0 else 1
theorem GV (m o : Mem) : ∀ n,chN m o n≤n
 | 0=>Nat.le_refl _
 | n + 1=>by
  have:=GV m o n
  unfold chN
  split <;> omega
theorem Gw {m o : Mem} : ∀ {n : Nat},(∀ j,j < n→msl m j=msl o j)→chN m o n=0
 | 0,_=>rfl
 | n + 1,h=>by
  unfold chN
  rw [if_pos (h n (by omega)),Gw fun j hj=>h j (by omega)]
theorem GJ {m o : Mem} {i : Nat} (h : ∀ j,j≠i→msl m j=msl o j) : ∀ n,chN m o n≤1
 | 0=>Nat.zero_le _
 | n + 1=>by
  unfold chN
  by_cases e : n=i
  ·have z : chN m o n=0:=Gw fun j hj=>h j (by omega)
   rw [z];split <;> omega
  ·rw [if_pos (h n e)];have:=GJ h n;omega
theorem Touch.one {m x : Mem} {b n : Int} (h : Touch m x b n) (k : Nat) : chN m x k≤1:=by
 obtain ⟨i,g,e⟩:=h.sl
 refine GJ (i:=i) (fun j hj=>?_) k
 show m.slots.getD j default=x.slots.getD j default
 rw [e,getD_modify,if_neg (fun y=>hj y.1.symm)]
theorem slot_t {s t : bp} (h : ((s.refs ==t.refs) && ((s.k.a ==t.k.a) && ((s.k.b ==t.k.b) && ((s.till ==t.till) && ((s.inn ==t.inn) && ((s.next ==t.next) && true))))))=true) : s=t:=by
 simp only [Bool.and_true,Bool.and_eq_true,beq_iff_eq] at h
 obtain ⟨a,⟨b,c⟩,d,e,f⟩:=s
 obtain ⟨a',⟨b',c'⟩,d',e',f'⟩:=t
 simp only at h
 obtain ⟨rfl,rfl,rfl,rfl,rfl,rfl⟩:=h
 rfl
theorem slot_f {s t : bp} (h : ((s.refs ==t.refs) && ((s.k.a ==t.k.a) && ((s.k.b ==t.k.b) && ((s.till ==t.till) && ((s.inn ==t.inn) && ((s.next ==t.next) && true))))))=false) : s≠t:=fun e=>by
 rw [e] at h;simp at h
def s122 : Sig:=⟨[.agg [.fz kS,.fz kI,.fz kI,.fz kI,.int .i64],.agg [.fz kS,.fz kI,.fz kI,.fz kI,.int .i64]],[.one (.int .i64)]⟩
def d122 : DC:=⟨s122,fun l=>(Mem.of l).slots.length≤(Mem.of (l.drop 5)).slots.length,fun l=>[.i (chN (Mem.of l) (Mem.of (l.drop 5)) (Mem.of l).slots.length)]⟩
theorem fn122 (m o : Mem) : d122.fn [au m.slots,af m.heads,af m.free,af m.locks,.i m.now,au o.slots,af o.heads,af o.free,af o.locks,.i o.now]=[.i (chN m o m.slots.length)]:=by
 simp only [d122,mem_of,aA,List.drop_succ_cons,List.drop_zero]
theorem pre122 {m o : Mem} (h : m.slots.length≤o.slots.length) : d122.pre [au m.slots,af m.heads,af m.free,af m.locks,.i m.now,au o.slots,af o.heads,af o.free,af o.locks,.i o.now]:=by
 simp only [d122,mem_of,aA,List.drop_succ_cons,List.drop_zero]
 exact h
def l122 : List (Nat × Ct):=[]
def z122 : Cx:={ T:=ttA,C:=sigs l122,F:=[],hints:=[⟨122,3,false,[(10,.lt),(5,.lt)],[],[],[],0,0,false⟩],sig:=s122}
def t122 : Tree :=
 (.loop 10 [.int .i64,.int .i64] [.int 0,.int 0]
 (.ite (.lt (.var 12) (.len (.var 0)))
 (.need (.le (.int 0) (.var 12))
 (.need (.lt (.var 12) (.len (.var 5)))
 (.ite (.not (.and (.eq (.cell (.var 0) (.var 12) 0) (.cell (.var 5) (.var 12) 0)) (.and (.eq (.cell (.var 0) (.var 12) 1) (.cell (.var 5) (.var 12) 1)) (.and (.eq (.cell (.var 0) (.var 12) 2) (.cell (.var 5) (.var 12) 2)) (.and (.eq (.cell (.var 0) (.var 12) 3) (.cell (.var 5) (.var 12) 3)) (.and (.beq (.cell (.var 0) (.var 12) 4) (.cell (.var 5) (.var 12) 4)) (.and (.eq (.cell (.var 0) (.var 12) 5) (.cell (.var 5) (.var 12) 5)) (.bool true))))))))
 (.need (.fit (.add (.var 11) (.int 1)))
 (.need (.fit (.add (.var 12) (.int 1)))
 (.back 10 [.add (.var 11) (.int 1),.add (.var 12) (.int 1)])))
 (.need (.fit (.add (.var 12) (.int 1)))
 (.back 10 [.var 11,.add (.var 12) (.int 1)])))))
 (.ret [.var 11])))
theorem run122 : run z122 6000 [.code (Try.f122.body.getD .skip),.fin (bt z122 Try.f122.results.toList 50)] { fn:=122,tmps:=z122.sig.aM ++ List.replicate (Try.f122.ntmps - z122.sig.aM.length) (.v (.one .undef)),stk:=[],h:=z122.sig.h0,nx:=z122.sig.ins.length,known:=[]}=t122:=by kernel_rfl
theorem ok122 : cB Try.prog 122 d122.ct:=by
 refine aD (d:=d122) (Z:=z122) (Γ:=gam l122) (fn:=Try.f122) (c:=Try.f122.body.getD .skip) (bg tok mixed all_nil bh) Try.func122 (by kernel_rfl) (by kernel_rfl) rfl run122 fun E hk hp=>?_
 obtain ⟨hk0,hk1,hk2,hk3,hk4,hk5,hk6,hk7,hk8,hk9,_⟩:=hk
 obtain ⟨m,e0,e1,e2,e3,e4,b0,b1,b2,b3⟩:=cv (d0:=E 0) (d1:=E 1) (d2:=E 2) (d3:=E 3) (d4:=E 4) hk0 hk1 hk2 hk3 hk4
 obtain ⟨m2,e5,e6,e7,e8,e9,b5,b6,b7,b8⟩:=cv (d0:=E 5) (d1:=E 6) (d2:=E 7) (d3:=E 8) (d4:=E 9) hk5 hk6 hk7 hk8 hk9
 have el : aH E d122.sig.ins.length=[au m.slots,af m.heads,af m.free,af m.locks,.i m.now,au m2.slots,af m2.heads,af m2.free,af m2.locks,.i m2.now]:=by
  show [E 0,E 1,E 2,E 3,E 4,E 5,E 6,E 7,E 8,E 9]=_
  rw [e0,e1,e2,e3,e4,e5,e6,e7,e8,e9]
 rw [el] at hp
 rw [el]
 rw [Env.bJ el]
 clear el e0 e1 e2 e3 e4 e5 e6 e7 e8 e9
 rename_i n0
 rw [fn122]
 simp only [d122,mem_of,aA,List.drop_succ_cons,List.drop_zero] at hp
 unfold t122
 refine bO (fun ds=>∃ j : Nat,ds=[.i (chN m m2 j),.i j]∧j≤m.slots.length) (fun ds=>m.slots.length - (ds.getD 1 .u).int.toNat) ⟨0,rfl,by omega⟩ ?_
 rintro ds - ⟨j,rfl,hj⟩
 have hle:=GV m m2 j
 refine G0 (fun hlt=>?_) (fun hge=>aj ?_)
 ·simp only [nrm,xdn,reduceIte,Nat.reduceLT,Nat.reduceSub,Nat.reduceAdd,aN] at hlt
  refine eh (by simp only [nrm,xdn,reduceIte,Nat.reduceLT,Nat.reduceSub,Nat.reduceAdd];omega) (lv (by simp only [nrm,xdn,reduceIte,Nat.reduceLT,Nat.reduceSub,Nat.reduceAdd,aN];omega) (G0 (fun h=>?_) (fun h=>?_)))
  ·simp only [nrm,xdn,reduceIte,Nat.reduceLT,Nat.reduceSub,Nat.reduceAdd,cX,cG,cF,cy,cx,cE,Int.toNat_natCast,Bool.not_eq_true'] at h
   replace h:=slot_f (s:=msl m j) (t:=msl m2 j) h
   refine G1 (by simp only [nrm,xdn,reduceIte,Nat.reduceLT,Nat.reduceSub,Nat.reduceAdd];omega) (G1 (by simp only [nrm,xdn,reduceIte,Nat.reduceLT,Nat.reduceSub,Nat.reduceAdd];omega) (aV ⟨⟨j + 1,?_,by omega⟩,?_⟩))
   ·simp only [nrm,xdn,reduceIte,Nat.reduceLT,Nat.reduceSub,Nat.reduceAdd,chN,if_neg h];rfl
   ·simp only [nrm,xdn,reduceIte,Nat.reduceLT,Nat.reduceSub,Nat.reduceAdd];omega
  ·simp only [nrm,xdn,reduceIte,Nat.reduceLT,Nat.reduceSub,Nat.reduceAdd,cX,cG,cF,cy,cx,cE,Int.toNat_natCast,Bool.not_eq_false'] at h
   replace h:=slot_t (s:=msl m j) (t:=msl m2 j) h
   refine G1 (by simp only [nrm,xdn,reduceIte,Nat.reduceLT,Nat.reduceSub,Nat.reduceAdd];omega) (aV ⟨⟨j + 1,?_,by omega⟩,?_⟩)
   ·simp only [nrm,xdn,reduceIte,Nat.reduceLT,Nat.reduceSub,Nat.reduceAdd,chN,if_pos h];rfl
   ·simp only [nrm,xdn,reduceIte,Nat.reduceLT,Nat.reduceSub,Nat.reduceAdd];omega
 ·simp only [nrm,xdn,reduceIte,Nat.reduceLT,Nat.reduceSub,Nat.reduceAdd,aN] at hge ⊢
  rw [show j=m.slots.length from by omega]
theorem GD (l : List Int) : d39.fn [af l,af l]=[.b true]:=by
 show [CD.b (decide _)]=_
 simp
theorem fs51 (m : Mem) : d51.fn [au m.slots,af m.heads,af m.free,af m.locks,.i m.now]=[.i (cP m)]:=by simp only [d51,mem_of,aA]
end Go.Proofs.Ytpmamacjepcdmaa
