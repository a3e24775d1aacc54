import Derived.Test.YtpmamacjepcdmaaCMemBack
namespace Go.Proofs.Ytpmamacjepcdmaa
open Go Go.Sy Go.RowKit
set_option linter.unusedSimpArgs false
set_option linter.unusedVariables false
def Lw (x n : Int) : Int:=if x.tmod n < 0 then x.tmod n + n else x.tmod n
theorem FU (x n : Int) (h : 0 < n) : -n < x.tmod n∧x.tmod n < n:=⟨Int.lt_tmod_of_pos x h,Int.tmod_lt_of_pos x h⟩
theorem Gb (x n : Int) (h : 0 < n) : 0≤Lw x n∧Lw x n < n:=by
 have:=FU x n h
 unfold Lw
 split <;> omega
def s69 : Sig:=⟨[.one (.int .i64),.one (.int .i64)],[.one (.int .i64)]⟩
def d69 : DC:=⟨s69,fun l=>0 < (l.getD 1 .u).int∧(l.getD 1 .u).int≤1000,fun l=>[.i (Lw (l.getD 0 .u).int (l.getD 1 .u).int)]⟩
def l69 : List (Nat × Ct):=[]
def z69 : Cx:={ T:=ttA,C:=sigs l69,F:=[],hints:=[],sig:=s69}
def t69 : Tree :=
 (.need (.not (.eq (.var 1) (.int 0)))
 (.ite (.lt (.tmod (.var 0) (.var 1)) (.int 0))
 (.need (.fit (.add (.tmod (.var 0) (.var 1)) (.var 1)))
 (.ret [.add (.tmod (.var 0) (.var 1)) (.var 1)]))
 (.ret [.tmod (.var 0) (.var 1)])))
theorem run69 : run z69 6000 [.code (Try.f69.body.getD .skip),.fin (bt z69 Try.f69.results.toList 50)] { fn:=69,tmps:=z69.sig.aM ++ List.replicate (Try.f69.ntmps - z69.sig.aM.length) (.v (.one .undef)),stk:=[],h:=z69.sig.h0,nx:=z69.sig.ins.length,known:=[]}=t69:=by kernel_rfl
theorem ok69 : cB Try.prog 69 d69.ct:=by
 refine aD (d:=d69) (Z:=z69) (Γ:=gam l69) (fn:=Try.f69) (c:=Try.f69.body.getD .skip) (bg tok mixed all_nil bh) Try.func69 (by kernel_rfl) (by kernel_rfl) rfl run69 fun E hk hp=>?_
 obtain ⟨hk0,hk1,_⟩:=hk
 obtain ⟨x,e0⟩:=ok_int (d:=E 0) hk0
 obtain ⟨x2,e1⟩:=ok_int (d:=E 1) hk1
 have el : aH E d69.sig.ins.length=[.i x,.i x2]:=by
  show [E 0,E 1]=_
  rw [e0,e1]
 rw [el] at hp
 rw [el]
 rw [Env.bJ el]
 clear el e0 e1
 simp only [d69,List.getD_cons_zero,List.getD_cons_succ,CD.aR] at hp ⊢
 have hb:=FU x x2 hp.1
 unfold Lw
 unfold t69
 refine ag (by simp only [nrm,xdn,reduceIte,Nat.reduceLT,Nat.reduceSub,Nat.reduceAdd,Bool.not_eq_true'];omega) (G0 (fun h=>G1 (by simp only [nrm,xdn,reduceIte,Nat.reduceLT,Nat.reduceSub,Nat.reduceAdd];omega) (aj ?_)) (fun h=>aj ?_))
 ·simp only [nrm,xdn,reduceIte,Nat.reduceLT,Nat.reduceSub,Nat.reduceAdd] at h ⊢
  rw [if_pos h]
 ·simp only [nrm,xdn,reduceIte,Nat.reduceLT,Nat.reduceSub,Nat.reduceAdd] at h ⊢
  rw [if_neg h]
def more (m : Mem) (a : Int) (n : Int) : Mem:=cm m a.toNat (bx n) m.free
def less (m : Mem) (a : Int) (j : Int) : Mem:=cm m a.toNat (bx (-j)) (if j < (msl m a.toNat).refs then m.free else m.free ++ [a])
theorem H2 {m : Mem} {a : Int} (hm : bB m) (h0 : 0≤a) (h1 : a < m.slots.length) (h2 : 1≤(msl m a.toNat).refs) (n : Int) : (msl (more m a n) a.toNat).refs=(msl m a.toNat).refs + n:=by
 unfold more
 rw [gJ,if_pos ⟨rfl,by omega⟩];rfl
theorem Js {m : Mem} {a : Int} (hm : bB m) (h0 : 0≤a) (h1 : a < m.slots.length) (h2 : 1≤(msl m a.toNat).refs) {n : Int} (h : 1≤(msl m a.toNat).refs + n) (h' : (msl m a.toNat).refs + n≤1000) : bB (more m a n):=AA hm (by omega) h2 h h'
theorem F0 {m : Mem} {a : Int} (hm : bB m) (h0 : 0≤a) (h1 : a < m.slots.length) (h2 : 1≤(msl m a.toNat).refs) {n : Int} (h : 1≤(msl m a.toNat).refs + n) (h' : (msl m a.toNat).refs + n < 1000) : held (more m a n) a=(more m a (n + 1),0):=by
 have:=K4 (Js hm h0 h1 h2 h (by omega)) h0 (by unfold more;rw [nB];exact h1) (by rw [H2 hm h0 h1 h2];exact h) (by rw [H2 hm h0 h1 h2];exact h')
 rw [this]
 unfold more
 rw [wO]
 rfl
theorem FZ {m : Mem} {a : Int} (hm : bB m) (h0 : 0≤a) (h1 : a < m.slots.length) (h2 : 1≤(msl m a.toNat).refs) {n : Int} (h' : (msl m a.toNat).refs + n=1000) : held (more m a n) a=(Mem.none,8) :=
 JM (Js hm h0 h1 h2 (by omega) (by omega)) h0 (by unfold more;rw [nB];exact h1) (by rw [H2 hm h0 h1 h2];omega)
theorem Kg {m : Mem} {a : Int} (hm : bB m) (h0 : 0≤a) (h1 : a < m.slots.length) (h2 : 1≤(msl m a.toNat).refs) {n : Int} (h : 2≤(msl m a.toNat).refs + n) (h' : (msl m a.toNat).refs + n≤1000) : Gt (more m a n) a=(more m a (n - 1),0):=by
 have:=F6 (Js hm h0 h1 h2 (by omega) h') h0 (by unfold more;rw [nB];exact h1) (by rw [H2 hm h0 h1 h2];exact h)
 rw [this]
 unfold more
 rw [wO]
 rfl
theorem KH {m : Mem} {a : Int} (hm : bB m) (h0 : 0≤a) (h1 : a < m.slots.length) (h2 : 1≤(msl m a.toNat).refs) : more m a 0=m:=wN m a.toNat
theorem KJ {m : Mem} {a : Int} (hm : bB m) (h0 : 0≤a) (h1 : a < m.slots.length) (h2 : 1≤(msl m a.toNat).refs) : less m a 0=m:=by
 unfold less
 rw [if_pos (by omega)]
 exact wN m a.toNat
theorem KK {m : Mem} {a : Int} (hm : bB m) (h0 : 0≤a) (h1 : a < m.slots.length) (h2 : 1≤(msl m a.toNat).refs) {j : Int} (h : j < (msl m a.toNat).refs) : less m a j=more m a (-j):=by
 unfold less more
 rw [if_pos h]
theorem FF {m : Mem} {a : Int} (hm : bB m) (h0 : 0≤a) (h1 : a < m.slots.length) (h2 : 1≤(msl m a.toNat).refs) {j : Int} (hj : 0≤j) (h : j < (msl m a.toNat).refs) : Gt (less m a j) a=(less m a (j + 1),0):=by
 have hr:=hm.refs h0 h1
 rw [KK hm h0 h1 h2 h]
 by_cases h3 : 2≤(msl m a.toNat).refs + -j
 ·rw [Kg hm h0 h1 h2 h3 (by omega),KK hm h0 h1 h2 (by omega)]
  rw [show -j - 1=-(j + 1) by omega]
 ·have hok:=Js hm h0 h1 h2 (n:=-j) (by omega) (by omega)
  have:=FE hok h0 (by unfold more;rw [nB];exact h1) (by rw [H2 hm h0 h1 h2];omega)
  rw [this]
  unfold more less
  rw [wO,if_neg (by omega)]
  rw [show -j + -1=-(j + 1) by omega]
  rfl
theorem KL {m : Mem} {a : Int} (hm : bB m) (h0 : 0≤a) (h1 : a < m.slots.length) (h2 : 1≤(msl m a.toNat).refs) : bB (less m a (msl m a.toNat).refs)∧(msl (less m a (msl m a.toNat).refs) a.toNat).refs=0∧(less m a (msl m a.toNat).refs).free=m.free ++ [a]∧(less m a (msl m a.toNat).refs).slots.length=m.slots.length:=by
 have hr:=hm.refs h0 h1
 refine ⟨?_,?_,?_,?_⟩
 ·have hok:=Js hm h0 h1 h2 (n:=-((msl m a.toNat).refs - 1)) (by omega) (by omega)
  have:=DQ hok h0 (by unfold more;rw [nB];exact h1) (by rw [H2 hm h0 h1 h2];omega)
  unfold more at this
  rw [wO] at this
  unfold less
  rw [if_neg (by omega)]
  rw [show -((msl m a.toNat).refs - 1) + -1=-(msl m a.toNat).refs by omega] at this
  exact this
 ·unfold less
  rw [gJ,if_pos ⟨rfl,by omega⟩]
  show (msl m a.toNat).refs + -(msl m a.toNat).refs=0
  omega
 ·unfold less
  rw [if_neg (by omega)];rfl
 ·unfold less
  exact nB _ _ _ _
def s10 : Sig:=⟨[.agg [.fz kS,.fz kI,.fz kI,.fz kI,.int .i64],.one (.int .i64),.one (.int .i64)],[.one (.bool)]⟩
def d10 : DC:=⟨s10,fun _=>True,fun _=>[.b true]⟩
def l10 : List (Nat × Ct):=[(63,d63.ct),(50,d50.ct),(69,d69.ct),(64,d64.ct),(59,d59.ct)]
def z10 : Cx:={ T:=ttA,C:=sigs l10,F:=[],hints:=[⟨10,6,false,[(29,.lt),(9,.lt)],[(1,0,.fz kS),(1,1,.fz kI),(1,2,.fz kI),(1,3,.fz kI),(1,4,.lt)],[],[],0,0,false⟩,⟨10,14,false,[(59,.lt)],[(1,0,.fz kS),(1,1,.fz kI),(1,2,.fz kI),(1,3,.fz kI),(1,4,.lt)],[],[],0,0,false⟩,⟨10,22,false,[(80,.lt)],[(1,0,.fz kS),(1,1,.fz kI),(1,2,.fz kI),(1,3,.fz kI),(1,4,.lt)],[],[],0,0,false⟩],sig:=s10}
def t10 : Tree :=
 (.call 63 [.var 0,.var 1,.var 2,.var 3,.var 4,.var 5] 7
 (.call 50 [] 13
 (.ite (.not (.var 13))
 (.call 50 [] 14
 (.ret [.var 14]))
 (.ite (.not (.eq (.var 12) (.int 0)))
 (.call 50 [] 14
 (.ret [.var 14]))
 (.call 69 [.var 6,.int 20] 14
 (.loop 15 [.int .i64,.int .i64,.sl 48 [.int .i64,.int .i64,.int .i64,.int .i64,.bool,.int .i64],.sl 8 [.int .i64],.sl 8 [.int .i64],.sl 8 [.int .i64],.int .i64] [.int 1,.int 0,.var 7,.var 8,.var 9,.var 10,.var 11]
 (.ite (.lt (.var 17) (.var 14))
 (.call 63 [.var 18,.var 19,.var 20,.var 21,.var 22,.var 5] 23
 (.ite (.not (.eq (.var 28) (.int 0)))
 (.need (.le (.int 0) (.var 5))
 (.need (.lt (.var 5) (.len (.var 18)))
 (.need (.lt (.var 5) (.len (.var 0)))
 (.need (.fit (.add (.cell (.var 0) (.var 5) 0) (.var 16)))
 (.ite (.not (.eq (.cell (.var 18) (.var 5) 0) (.add (.cell (.var 0) (.var 5) 0) (.var 16))))
 (.ret [.bool false])
 (.loop 29 [.int .i64,.sl 48 [.int .i64,.int .i64,.int .i64,.int .i64,.bool,.int .i64],.sl 8 [.int .i64],.sl 8 [.int .i64],.sl 8 [.int .i64],.int .i64] [.int 0,.var 18,.var 19,.var 20,.var 21,.var 22]
 (.ite (.lt (.var 30) (.var 16))
 (.call 64 [.var 31,.var 32,.var 33,.var 34,.var 35,.var 5] 36
 (.ite (.not (.eq (.var 41) (.int 0)))
 (.ret [.bool false])
 (.need (.fit (.add (.var 30) (.int 1)))
 (.back 29 [.add (.var 30) (.int 1),.var 36,.var 37,.var 38,.var 39,.var 40]))))
 (.call 59 [.var 31,.var 32,.var 33,.var 34,.var 35,.var 0,.var 1,.var 2,.var 3,.var 4] 36
 (.ite (.not (.var 36))
 (.ret [.bool false])
 (.loop 37 [.int .i64,.sl 48 [.int .i64,.int .i64,.int .i64,.int .i64,.bool,.int .i64],.sl 8 [.int .i64],.sl 8 [.int .i64],.sl 8 [.int .i64],.int .i64] [.int 0,.var 31,.var 32,.var 33,.var 34,.var 35]
 (.ite (.lt (.var 38) (.cell (.var 0) (.var 5) 0))
 (.call 64 [.var 39,.var 40,.var 41,.var 42,.var 43,.var 5] 44
 (.ite (.not (.eq (.var 49) (.int 0)))
 (.ret [.bool false])
 (.need (.fit (.add (.var 38) (.int 1)))
 (.back 37 [.add (.var 38) (.int 1),.var 44,.var 45,.var 46,.var 47,.var 48]))))
 (.call 63 [.var 39,.var 40,.var 41,.var 42,.var 43,.var 5] 44
 (.call 64 [.var 39,.var 40,.var 41,.var 42,.var 43,.var 5] 50
 (.ite (.eq (.var 49) (.int 8))
 (.ite (.eq (.var 55) (.int 8))
 (.need (.fit (.add (.len (.var 2)) (.int 1)))
 (.ite (.eq (.len (.var 41)) (.add (.len (.var 2)) (.int 1)))
 (.need (.lt (.len (.var 2)) (.len (.var 41)))
 (.ret [.eq (.cell (.var 41) (.len (.var 2)) 0) (.var 5)]))
 (.ret [.bool false])))
 (.ret [.bool false]))
 (.ret [.bool false])))))))))))))))
 (.need (.fit (.add (.var 16) (.int 1)))
 (.need (.fit (.add (.var 17) (.int 1)))
 (.back 15 [.add (.var 16) (.int 1),.add (.var 17) (.int 1),.var 23,.var 24,.var 25,.var 26,.var 27])))))
 (.need (.le (.int 0) (.var 5))
 (.need (.lt (.var 5) (.len (.var 18)))
 (.need (.lt (.var 5) (.len (.var 0)))
 (.need (.fit (.add (.cell (.var 0) (.var 5) 0) (.var 16)))
 (.ite (.not (.eq (.cell (.var 18) (.var 5) 0) (.add (.cell (.var 0) (.var 5) 0) (.var 16))))
 (.ret [.bool false])
 (.loop 23 [.int .i64,.sl 48 [.int .i64,.int .i64,.int .i64,.int .i64,.bool,.int .i64],.sl 8 [.int .i64],.sl 8 [.int .i64],.sl 8 [.int .i64],.int .i64] [.int 0,.var 18,.var 19,.var 20,.var 21,.var 22]
 (.ite (.lt (.var 24) (.var 16))
 (.call 64 [.var 25,.var 26,.var 27,.var 28,.var 29,.var 5] 30
 (.ite (.not (.eq (.var 35) (.int 0)))
 (.ret [.bool false])
 (.need (.fit (.add (.var 24) (.int 1)))
 (.back 23 [.add (.var 24) (.int 1),.var 30,.var 31,.var 32,.var 33,.var 34]))))
 (.call 59 [.var 25,.var 26,.var 27,.var 28,.var 29,.var 0,.var 1,.var 2,.var 3,.var 4] 30
 (.ite (.not (.var 30))
 (.ret [.bool false])
 (.loop 31 [.int .i64,.sl 48 [.int .i64,.int .i64,.int .i64,.int .i64,.bool,.int .i64],.sl 8 [.int .i64],.sl 8 [.int .i64],.sl 8 [.int .i64],.int .i64] [.int 0,.var 25,.var 26,.var 27,.var 28,.var 29]
 (.ite (.lt (.var 32) (.cell (.var 0) (.var 5) 0))
 (.call 64 [.var 33,.var 34,.var 35,.var 36,.var 37,.var 5] 38
 (.ite (.not (.eq (.var 43) (.int 0)))
 (.ret [.bool false])
 (.need (.fit (.add (.var 32) (.int 1)))
 (.back 31 [.add (.var 32) (.int 1),.var 38,.var 39,.var 40,.var 41,.var 42]))))
 (.call 63 [.var 33,.var 34,.var 35,.var 36,.var 37,.var 5] 38
 (.call 64 [.var 33,.var 34,.var 35,.var 36,.var 37,.var 5] 44
 (.ite (.eq (.var 43) (.int 8))
 (.ite (.eq (.var 49) (.int 8))
 (.need (.fit (.add (.len (.var 2)) (.int 1)))
 (.ite (.eq (.len (.var 35)) (.add (.len (.var 2)) (.int 1)))
 (.need (.lt (.len (.var 2)) (.len (.var 35)))
 (.ret [.eq (.cell (.var 35) (.len (.var 2)) 0) (.var 5)]))
 (.ret [.bool false])))
 (.ret [.bool false]))
 (.ret [.bool false]))))))))))))))))))))))
theorem run10 : run z10 6000 [.code (Try.f10.body.getD .skip),.fin (bt z10 Try.f10.results.toList 50)] { fn:=10,tmps:=z10.sig.aM ++ List.replicate (Try.f10.ntmps - z10.sig.aM.length) (.v (.one .undef)),stk:=[],h:=z10.sig.h0,nx:=z10.sig.ins.length,known:=[]}=t10:=by kernel_rfl
theorem ok10 : cB Try.prog 10 d10.ct:=by
 refine aD (d:=d10) (Z:=z10) (Γ:=gam l10) (fn:=Try.f10) (c:=Try.f10.body.getD .skip) (bg tok mixed (all_cons ok63 (all_cons ok50 (all_cons ok69 (all_cons ok64 (all_cons ok59 all_nil))))) bh) Try.func10 (by kernel_rfl) (by kernel_rfl) rfl run10 fun E hk hp=>?_
 obtain ⟨hk0,hk1,hk2,hk3,hk4,hk5,hk6,_⟩:=hk
 obtain ⟨m,e0,e1,e2,e3,e4,b0,b1,b2,b3⟩:=cv (d0:=E 0) (d1:=E 1) (d2:=E 2) (d3:=E 3) (d4:=E 4) hk0 hk1 hk2 hk3 hk4
 obtain ⟨x,e5⟩:=ok_int (d:=E 5) hk5
 obtain ⟨x2,e6⟩:=ok_int (d:=E 6) hk6
 have el : aH E d10.sig.ins.length=[au m.slots,af m.heads,af m.free,af m.locks,.i m.now,.i x,.i x2]:=by
  show [E 0,E 1,E 2,E 3,E 4,E 5,E 6]=_
  rw [e0,e1,e2,e3,e4,e5,e6]
 rw [el] at hp
 rw [el]
 rw [Env.bJ el]
 clear el e0 e1 e2 e3 e4 e5 e6
 simp only [d10]
 unfold t10
 have done : ∀ (lo : Nat) (E' : Env) (J : JJ),(Tree.call 50 [] lo (.ret [.var lo])).den (gam l10) (fun outs=>outs=[.b true]) E' J:=fun lo E' J=>by
  refine ai d50 [.b true] rfl trivial rfl (aj ?_)
  simp only [nrm,xdn,reduceIte,Nat.reduceLT,Nat.reduceSub,Nat.reduceAdd]
 refine ai d63 ((held m x).1.cds ++ [.i (held m x).2]) rfl trivial (by simp only [nrm,xdn,reduceIte,Nat.reduceLT,Nat.reduceSub,Nat.reduceAdd,Mem.cds,lca,fn63]) ?_
 refine ai d50 [.b true] rfl trivial rfl (G0 (fun h=>absurd h (by simp only [nrm,xdn,reduceIte,Nat.reduceLT,Nat.reduceSub,Nat.reduceAdd,Mem.cds,lca];decide)) (fun _=>G0 (fun _=>done _ _ _) (fun h=>?_)))
 simp only [nrm,xdn,reduceIte,Nat.reduceLT,Nat.reduceSub,Nat.reduceAdd,Mem.cds,lca,Bool.not_eq_false'] at h
 obtain ⟨hm,h0,h1,h2,h3⟩:=FG h
 have hns:=hm.ns
 have hnf:=hm.nf
 have hR:=H2 hm h0 h1 h2
 have hL : ∀ n,(more m x n).slots.length=m.slots.length:=fun n=>nB _ _ _ _
 have hx1 : (held m x).1=more m x 1:=by rw [K4 hm h0 h1 h2 h3];rfl
 rw [hx1,h]
 refine ai d69 [.i (Lw x2 20)] rfl ?_ (by simp only [nrm,xdn,reduceIte,Nat.reduceLT,Nat.reduceSub,Nat.reduceAdd,Mem.cds,lca,d69]) ?_
 ·simp only [nrm,xdn,reduceIte,Nat.reduceLT,Nat.reduceSub,Nat.reduceAdd,Mem.cds,lca,d69];decide
 have hat:=Gb x2 20 (by decide)
 refine bO (fun ds=>∃ n i : Nat,ds=.i n :: .i i :: (more m x n).cds∧1≤n∧n=i + 1∧(i : Int)≤Lw x2 20∧(msl m x.toNat).refs + n≤1000) (fun ds=>(Lw x2 20).toNat - (ds.getD 1 .u).int.toNat)
  ⟨1,0,?_,by omega,rfl,by omega,by omega⟩ ?_
 ·simp only [nrm,xdn,reduceIte,Nat.reduceLT,Nat.reduceSub,Nat.reduceAdd,Mem.cds,lca];rfl
 rintro ds - ⟨n,i,rfl,hn,hni,hi,hrn⟩
 refine G0 (fun hlt=>?_) (fun _=>?_)
 ·simp only [nrm,xdn,reduceIte,Nat.reduceLT,Nat.reduceSub,Nat.reduceAdd,Mem.cds,lca] at hlt
  by_cases hlate : (msl m x.toNat).refs + (n : Int)=1000
  ·refine ai d63 (Mem.none.cds ++ [.i 8]) rfl trivial (by simp only [nrm,xdn,reduceIte,Nat.reduceLT,Nat.reduceSub,Nat.reduceAdd,Mem.cds,lca,fn63,FZ hm h0 h1 h2 hlate]) ?_
   refine G0 (fun _=>?_) (fun h=>absurd h (by simp only [nrm,xdn,reduceIte,Nat.reduceLT,Nat.reduceSub,Nat.reduceAdd,Mem.cds,lca];decide))
   have hcell : ((more m x n).slots.getD x.toNat default).refs=(msl m x.toNat).refs + n:=hR n
   have hms : m.slots.getD x.toNat default=msl m x.toNat:=rfl
   refine eh (by simp only [nrm,xdn,reduceIte,Nat.reduceLT,Nat.reduceSub,Nat.reduceAdd,Mem.cds,lca];omega) (lv (by simp only [nrm,xdn,reduceIte,Nat.reduceLT,Nat.reduceSub,Nat.reduceAdd,Mem.cds,lca,aN,hL];omega) (lv (by simp only [nrm,xdn,reduceIte,Nat.reduceLT,Nat.reduceSub,Nat.reduceAdd,Mem.cds,lca,aN];omega) (G1 (by simp only [nrm,xdn,reduceIte,Nat.reduceLT,Nat.reduceSub,Nat.reduceAdd,Mem.cds,lca,cX,hms];omega) (G0 (fun h=>absurd h ?_) (fun _=>?_)))))
   ·simp only [nrm,xdn,reduceIte,Nat.reduceLT,Nat.reduceSub,Nat.reduceAdd,Mem.cds,lca,cX,hms,hcell];simp
   refine bO (fun ds=>∃ j : Nat,ds=.i j :: (more m x ((n : Int) - j)).cds∧j≤n) (fun ds=>n - (ds.getD 0 .u).int.toNat) ⟨0,?_,by omega⟩ ?_
   ·simp only [nrm,xdn,reduceIte,Nat.reduceLT,Nat.reduceSub,Nat.reduceAdd,Mem.cds,lca,Int.natCast_zero,Int.sub_zero]
   rintro ds - ⟨j,rfl,hj⟩
   refine G0 (fun hlt=>?_) (fun hge=>?_)
   ·simp only [nrm,xdn,reduceIte,Nat.reduceLT,Nat.reduceSub,Nat.reduceAdd,Mem.cds,lca] at hlt
    refine ai d64 ((more m x ((n : Int) - j - 1)).cds ++ [.i 0]) rfl trivial (by simp only [nrm,xdn,reduceIte,Nat.reduceLT,Nat.reduceSub,Nat.reduceAdd,Mem.cds,lca,fn64,Kg hm h0 h1 h2 (n:=(n : Int) - j) (by omega) (by omega)]) ?_
    refine G0 (fun h=>absurd h (by simp only [nrm,xdn,reduceIte,Nat.reduceLT,Nat.reduceSub,Nat.reduceAdd,Mem.cds,lca];decide)) (fun _=>G1 (by simp only [nrm,xdn,reduceIte,Nat.reduceLT,Nat.reduceSub,Nat.reduceAdd,Mem.cds,lca];omega) (aV ⟨⟨j + 1,?_,by omega⟩,?_⟩))
    ·simp only [nrm,xdn,reduceIte,Nat.reduceLT,Nat.reduceSub,Nat.reduceAdd,Mem.cds,lca,Int.natCast_add,Int.natCast_one,Int.sub_sub]
    ·simp only [nrm,xdn,reduceIte,Nat.reduceLT,Nat.reduceSub,Nat.reduceAdd,Mem.cds,lca];omega
   simp only [nrm,xdn,reduceIte,Nat.reduceLT,Nat.reduceSub,Nat.reduceAdd,Mem.cds,lca] at hge
   have hjn : (n : Int) - j=0:=by omega
   rw [hjn,KH hm h0 h1 h2]
   refine ai d59 [.b true] rfl trivial (by simp only [nrm,xdn,reduceIte,Nat.reduceLT,Nat.reduceSub,Nat.reduceAdd,Mem.cds,lca,fn59,decide_true]) ?_
   refine G0 (fun h=>absurd h (by simp only [nrm,xdn,reduceIte,Nat.reduceLT,Nat.reduceSub,Nat.reduceAdd,Mem.cds,lca];decide)) (fun _=>?_)
   refine bO (fun ds=>∃ q : Nat,ds=.i q :: (less m x q).cds∧(q : Int)≤(msl m x.toNat).refs) (fun ds=>(msl m x.toNat).refs.toNat - (ds.getD 0 .u).int.toNat) ⟨0,?_,by omega⟩ ?_
   ·rw [Int.natCast_zero,KJ hm h0 h1 h2]
    simp only [nrm,xdn,reduceIte,Nat.reduceLT,Nat.reduceSub,Nat.reduceAdd,Mem.cds,lca]
   rintro ds - ⟨q,rfl,hq⟩
   refine G0 (fun hlt=>?_) (fun hge=>?_)
   ·simp only [nrm,xdn,reduceIte,Nat.reduceLT,Nat.reduceSub,Nat.reduceAdd,Mem.cds,lca,cX,hms] at hlt
    refine ai d64 ((less m x ((q : Int) + 1)).cds ++ [.i 0]) rfl trivial (by simp only [nrm,xdn,reduceIte,Nat.reduceLT,Nat.reduceSub,Nat.reduceAdd,Mem.cds,lca,fn64,FF hm h0 h1 h2 (j:=q) (by omega) (by omega)]) ?_
    refine G0 (fun h=>absurd h (by simp only [nrm,xdn,reduceIte,Nat.reduceLT,Nat.reduceSub,Nat.reduceAdd,Mem.cds,lca];decide)) (fun _=>G1 (by simp only [nrm,xdn,reduceIte,Nat.reduceLT,Nat.reduceSub,Nat.reduceAdd,Mem.cds,lca];omega) (aV ⟨⟨q + 1,?_,by omega⟩,?_⟩))
    ·simp only [nrm,xdn,reduceIte,Nat.reduceLT,Nat.reduceSub,Nat.reduceAdd,Mem.cds,lca,Int.natCast_add,Int.natCast_one]
    ·simp only [nrm,xdn,reduceIte,Nat.reduceLT,Nat.reduceSub,Nat.reduceAdd,Mem.cds,lca];omega
   simp only [nrm,xdn,reduceIte,Nat.reduceLT,Nat.reduceSub,Nat.reduceAdd,Mem.cds,lca,cX,hms] at hge
   have hqr : (q : Int)=(msl m x.toNat).refs:=by omega
   rw [hqr]
   obtain ⟨hlok,hlr,hlf,hll⟩:=KL hm h0 h1 h2
   refine ai d63 (Mem.none.cds ++ [.i 8]) rfl trivial (by simp only [nrm,xdn,reduceIte,Nat.reduceLT,Nat.reduceSub,Nat.reduceAdd,Nat.lt_irrefl,Nat.sub_self,Mem.cds,lca,fn63,JM hlok h0 (by rw [hll];exact h1) (.inl hlr)]) ?_
   refine ai d64 (Mem.none.cds ++ [.i 8]) rfl trivial (by simp only [nrm,xdn,reduceIte,Nat.reduceLT,Nat.reduceSub,Nat.reduceAdd,Nat.lt_irrefl,Nat.sub_self,Mem.cds,lca,fn64,Lo hlok h0 (by rw [hll];exact h1) hlr]) ?_
   refine G0 (fun _=>G0 (fun _=>?_) (fun h=>absurd h (by simp only [nrm,xdn,reduceIte,Nat.reduceLT,Nat.reduceSub,Nat.reduceAdd,Mem.cds,lca];decide))) (fun h=>absurd h (by simp only [nrm,xdn,reduceIte,Nat.reduceLT,Nat.reduceSub,Nat.reduceAdd,Mem.cds,lca];decide))
   refine G1 (by simp only [nrm,xdn,reduceIte,Nat.reduceLT,Nat.reduceSub,Nat.reduceAdd,Mem.cds,lca,aw];omega) (G0 (fun _=>?_) (fun h=>absurd h (by simp only [nrm,xdn,reduceIte,Nat.reduceLT,Nat.reduceSub,Nat.reduceAdd,Mem.cds,lca,aw,hlf,List.length_append];simp)))
   refine lv (by simp only [nrm,xdn,reduceIte,Nat.reduceLT,Nat.reduceSub,Nat.reduceAdd,Mem.cds,lca,aw,hlf,List.length_append];omega) (aj ?_)
   simp only [nrm,xdn,reduceIte,Nat.reduceLT,Nat.reduceSub,Nat.reduceAdd,Mem.cds,lca,aw,aG,hlf,Int.toNat_natCast]
   simp [List.getD_eq_getElem?_getD]
  ·refine ai d63 ((more m x ((n : Int) + 1)).cds ++ [.i 0]) rfl trivial (by simp only [nrm,xdn,reduceIte,Nat.reduceLT,Nat.reduceSub,Nat.reduceAdd,Mem.cds,lca,fn63,F0 hm h0 h1 h2 (n:=n) (by omega) (by omega)]) ?_
   refine G0 (fun h=>absurd h (by simp only [nrm,xdn,reduceIte,Nat.reduceLT,Nat.reduceSub,Nat.reduceAdd,Mem.cds,lca];decide)) (fun _=>?_)
   refine G1 (by simp only [nrm,xdn,reduceIte,Nat.reduceLT,Nat.reduceSub,Nat.reduceAdd,Mem.cds,lca];omega) (G1 (by simp only [nrm,xdn,reduceIte,Nat.reduceLT,Nat.reduceSub,Nat.reduceAdd,Mem.cds,lca];omega) (aV ⟨⟨n + 1,i + 1,?_,by omega,by omega,by omega,by omega⟩,?_⟩))
   ·simp only [nrm,xdn,reduceIte,Nat.reduceLT,Nat.reduceSub,Nat.reduceAdd,Mem.cds,lca];rfl
   ·simp only [nrm,xdn,reduceIte,Nat.reduceLT,Nat.reduceSub,Nat.reduceAdd,Mem.cds,lca];omega
 ·have hcell : ((more m x n).slots.getD x.toNat default).refs=(msl m x.toNat).refs + n:=hR n
  have hms : m.slots.getD x.toNat default=msl m x.toNat:=rfl
  refine eh (by simp only [nrm,xdn,reduceIte,Nat.reduceLT,Nat.reduceSub,Nat.reduceAdd,Mem.cds,lca];omega) (lv (by simp only [nrm,xdn,reduceIte,Nat.reduceLT,Nat.reduceSub,Nat.reduceAdd,Mem.cds,lca,aN,hL];omega) (lv (by simp only [nrm,xdn,reduceIte,Nat.reduceLT,Nat.reduceSub,Nat.reduceAdd,Mem.cds,lca,aN];omega) (G1 (by simp only [nrm,xdn,reduceIte,Nat.reduceLT,Nat.reduceSub,Nat.reduceAdd,Mem.cds,lca,cX,hms];omega) (G0 (fun h=>absurd h ?_) (fun _=>?_)))))
  ·simp only [nrm,xdn,reduceIte,Nat.reduceLT,Nat.reduceSub,Nat.reduceAdd,Mem.cds,lca,cX,hms,hcell];simp
  refine bO (fun ds=>∃ j : Nat,ds=.i j :: (more m x ((n : Int) - j)).cds∧j≤n) (fun ds=>n - (ds.getD 0 .u).int.toNat) ⟨0,?_,by omega⟩ ?_
  ·simp only [nrm,xdn,reduceIte,Nat.reduceLT,Nat.reduceSub,Nat.reduceAdd,Mem.cds,lca,Int.natCast_zero,Int.sub_zero]
  rintro ds - ⟨j,rfl,hj⟩
  refine G0 (fun hlt=>?_) (fun hge=>?_)
  ·simp only [nrm,xdn,reduceIte,Nat.reduceLT,Nat.reduceSub,Nat.reduceAdd,Mem.cds,lca] at hlt
   refine ai d64 ((more m x ((n : Int) - j - 1)).cds ++ [.i 0]) rfl trivial (by simp only [nrm,xdn,reduceIte,Nat.reduceLT,Nat.reduceSub,Nat.reduceAdd,Mem.cds,lca,fn64,Kg hm h0 h1 h2 (n:=(n : Int) - j) (by omega) (by omega)]) ?_
   refine G0 (fun h=>absurd h (by simp only [nrm,xdn,reduceIte,Nat.reduceLT,Nat.reduceSub,Nat.reduceAdd,Mem.cds,lca];decide)) (fun _=>G1 (by simp only [nrm,xdn,reduceIte,Nat.reduceLT,Nat.reduceSub,Nat.reduceAdd,Mem.cds,lca];omega) (aV ⟨⟨j + 1,?_,by omega⟩,?_⟩))
   ·simp only [nrm,xdn,reduceIte,Nat.reduceLT,Nat.reduceSub,Nat.reduceAdd,Mem.cds,lca,Int.natCast_add,Int.natCast_one,Int.sub_sub]
   ·simp only [nrm,xdn,reduceIte,Nat.reduceLT,Nat.reduceSub,Nat.reduceAdd,Mem.cds,lca];omega
  simp only [nrm,xdn,reduceIte,Nat.reduceLT,Nat.reduceSub,Nat.reduceAdd,Mem.cds,lca] at hge
  have hjn : (n : Int) - j=0:=by omega
  rw [hjn,KH hm h0 h1 h2]
  refine ai d59 [.b true] rfl trivial (by simp only [nrm,xdn,reduceIte,Nat.reduceLT,Nat.reduceSub,Nat.reduceAdd,Mem.cds,lca,fn59,decide_true]) ?_
  refine G0 (fun h=>absurd h (by simp only [nrm,xdn,reduceIte,Nat.reduceLT,Nat.reduceSub,Nat.reduceAdd,Mem.cds,lca];decide)) (fun _=>?_)
  refine bO (fun ds=>∃ q : Nat,ds=.i q :: (less m x q).cds∧(q : Int)≤(msl m x.toNat).refs) (fun ds=>(msl m x.toNat).refs.toNat - (ds.getD 0 .u).int.toNat) ⟨0,?_,by omega⟩ ?_
  ·rw [Int.natCast_zero,KJ hm h0 h1 h2]
   simp only [nrm,xdn,reduceIte,Nat.reduceLT,Nat.reduceSub,Nat.reduceAdd,Mem.cds,lca]
  rintro ds - ⟨q,rfl,hq⟩
  refine G0 (fun hlt=>?_) (fun hge=>?_)
  ·simp only [nrm,xdn,reduceIte,Nat.reduceLT,Nat.reduceSub,Nat.reduceAdd,Mem.cds,lca,cX,hms] at hlt
   refine ai d64 ((less m x ((q : Int) + 1)).cds ++ [.i 0]) rfl trivial (by simp only [nrm,xdn,reduceIte,Nat.reduceLT,Nat.reduceSub,Nat.reduceAdd,Mem.cds,lca,fn64,FF hm h0 h1 h2 (j:=q) (by omega) (by omega)]) ?_
   refine G0 (fun h=>absurd h (by simp only [nrm,xdn,reduceIte,Nat.reduceLT,Nat.reduceSub,Nat.reduceAdd,Mem.cds,lca];decide)) (fun _=>G1 (by simp only [nrm,xdn,reduceIte,Nat.reduceLT,Nat.reduceSub,Nat.reduceAdd,Mem.cds,lca];omega) (aV ⟨⟨q + 1,?_,by omega⟩,?_⟩))
   ·simp only [nrm,xdn,reduceIte,Nat.reduceLT,Nat.reduceSub,Nat.reduceAdd,Mem.cds,lca,Int.natCast_add,Int.natCast_one]
   ·simp only [nrm,xdn,reduceIte,Nat.reduceLT,Nat.reduceSub,Nat.reduceAdd,Mem.cds,lca];omega
  simp only [nrm,xdn,reduceIte,Nat.reduceLT,Nat.reduceSub,Nat.reduceAdd,Mem.cds,lca,cX,hms] at hge
  have hqr : (q : Int)=(msl m x.toNat).refs:=by omega
  rw [hqr]
  obtain ⟨hlok,hlr,hlf,hll⟩:=KL hm h0 h1 h2
  refine ai d63 (Mem.none.cds ++ [.i 8]) rfl trivial (by simp only [nrm,xdn,reduceIte,Nat.reduceLT,Nat.reduceSub,Nat.reduceAdd,Nat.lt_irrefl,Nat.sub_self,Mem.cds,lca,fn63,JM hlok h0 (by rw [hll];exact h1) (.inl hlr)]) ?_
  refine ai d64 (Mem.none.cds ++ [.i 8]) rfl trivial (by simp only [nrm,xdn,reduceIte,Nat.reduceLT,Nat.reduceSub,Nat.reduceAdd,Nat.lt_irrefl,Nat.sub_self,Mem.cds,lca,fn64,Lo hlok h0 (by rw [hll];exact h1) hlr]) ?_
  refine G0 (fun _=>G0 (fun _=>?_) (fun h=>absurd h (by simp only [nrm,xdn,reduceIte,Nat.reduceLT,Nat.reduceSub,Nat.reduceAdd,Mem.cds,lca];decide))) (fun h=>absurd h (by simp only [nrm,xdn,reduceIte,Nat.reduceLT,Nat.reduceSub,Nat.reduceAdd,Mem.cds,lca];decide))
  refine G1 (by simp only [nrm,xdn,reduceIte,Nat.reduceLT,Nat.reduceSub,Nat.reduceAdd,Mem.cds,lca,aw];omega) (G0 (fun _=>?_) (fun h=>absurd h (by simp only [nrm,xdn,reduceIte,Nat.reduceLT,Nat.reduceSub,Nat.reduceAdd,Mem.cds,lca,aw,hlf,List.length_append];simp)))
  refine lv (by simp only [nrm,xdn,reduceIte,Nat.reduceLT,Nat.reduceSub,Nat.reduceAdd,Mem.cds,lca,aw,hlf,List.length_append];omega) (aj ?_)
  simp only [nrm,xdn,reduceIte,Nat.reduceLT,Nat.reduceSub,Nat.reduceAdd,Mem.cds,lca,aw,aG,hlf,Int.toNat_natCast]
  simp [List.getD_eq_getElem?_getD]
end Go.Proofs.Ytpmamacjepcdmaa
