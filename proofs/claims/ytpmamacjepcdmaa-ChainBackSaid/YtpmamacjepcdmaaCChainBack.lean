import Derived.Test.YtpmamacjepcdmaaCChainLaws5
namespace Go.Proofs.Ytpmamacjepcdmaa
open Go Go.Sy Go.RowKit
set_option linter.unusedSimpArgs false
set_option linter.unusedVariables false
theorem Jg {m : Mem} (hC : aK m) {k : Key} (h : (EA m k).2.2=0) : ∃ f∈aq m,f.k=k:=by
 by_cases hk : Key.Ok k
 ·refine Classical.byContradiction fun hn=>?_
  rw [HM hC hk fun i hi e=>hn ⟨_,He hi,e⟩] at h
  cases h
 ·have hb:=HL (n:=m.heads.length) hk
  unfold EA at h
  rw [if_neg (fun hx=>hx ((rN m).2 hC)),hb,if_pos (by decide)] at h
  cases h
theorem Jw {m : Mem} (hC : aK m) {f : cI} (hf : f∈aq m) : Key.Ok f.k:=by
 obtain ⟨h1,h2,h3,_⟩:=jj hC hf
 rw [← h3]
 exact (hC.mem.sl (i:=f.slot.toNat) (by omega)).k
theorem Ht {m : Mem} (hC : aK m) : jM m=(aq m,0):=by
 unfold jM
 rw [if_neg (fun hx=>hx ((rN m).2 hC))]
def s14 : Sig:=⟨[.agg [.fz kS,.fz kI,.fz kI,.fz kI,.int .i64],.one (.int .i64),.agg [.int .i64,.int .i64]],[.one (.bool)]⟩
def d14 : DC:=⟨s14,fun _=>True,fun _=>[.b true]⟩
def l14 : List (Nat × Ct):=[(71,d71.ct),(73,d73.ct),(82,d82.ct),(93,d93.ct),(83,d83.ct)]
noncomputable def z14 : Cx:={ T:=ttA,C:=sigs l14,F:=[(90,Try.f90),(91,Try.f91),(92,Try.f92),(85,Try.f85),(94,Try.f94),(95,Try.f95),(96,Try.f96)],hints:=[⟨85,2,false,[(8,.lt)],[],[],[],0,0,false⟩],sig:=s14}
def t14 : Tree :=
 (.call 71 [.var 0,.var 1,.var 2,.var 3,.var 4] 8
 (.call 73 [] 10
 (.ite (.not (.var 10))
 (.call 73 [] 11
 (.ret [.var 11]))
 (.ite (.not (.eq (.var 9) (.int 0)))
 (.call 73 [] 11
 (.ret [.var 11]))
 (.call 82 [.var 0,.var 1,.var 2,.var 3,.var 4,.var 5] 11
 (.ite (.eq (.var 16) (.int 0))
 (.need (.le (.int 0) (.var 5))
 (.need (.lt (.var 5) (.len (.var 0)))
 (.call 71 [.var 11,.var 12,.var 13,.var 14,.var 15] 17
 (.ite (.not (.eq (.var 18) (.int 0)))
 (.ret [.bool false])
 (.need (.fit (.add (.len (.var 8)) (.int 1)))
 (.ite (.not (.eq (.len (.var 17)) (.add (.len (.var 8)) (.int 1))))
 (.ret [.bool false])
 (.loop 19 [.int .i64] [.int 0]
 (.ite (.lt (.var 20) (.len (.var 8)))
 (.need (.le (.int 0) (.var 20))
 (.ite (.and (.eq (.cell (.var 8) (.var 20) 0) (.cell (.var 0) (.var 5) 1)) (.and (.eq (.cell (.var 8) (.var 20) 1) (.cell (.var 0) (.var 5) 2)) (.bool true)))
 (.ret [.bool false])
 (.need (.fit (.add (.var 20) (.int 1)))
 (.back 19 [.add (.var 20) (.int 1)]))))
 (.call 93 [.var 17,.cell (.var 0) (.var 5) 1,.cell (.var 0) (.var 5) 2,.var 5,.cell (.var 0) (.var 5) 3] 21
 (.ite (.not (.var 21))
 (.ret [.bool false])
 (.loop 22 [.int .i64] [.int 0]
 (.ite (.lt (.var 23) (.len (.var 8)))
 (.need (.le (.int 0) (.var 23))
 (.call 93 [.var 17,.cell (.var 8) (.var 23) 0,.cell (.var 8) (.var 23) 1,.cell (.var 8) (.var 23) 2,.cell (.var 8) (.var 23) 3] 24
 (.ite (.not (.var 24))
 (.ret [.bool false])
 (.need (.fit (.add (.var 23) (.int 1)))
 (.back 22 [.add (.var 23) (.int 1)])))))
 (.call 83 [.var 0,.var 1,.var 2,.var 3,.var 4,.var 6,.var 7] 24
 (.ite (.not (.eq (.var 30) (.int 0)))
 (.ite (.not (.eq (.var 30) (.int 5)))
 (.ret [.bool true])
 (.loop 31 [.int .i64] [.int 0]
 (.ite (.lt (.var 32) (.len (.var 8)))
 (.need (.le (.int 0) (.var 32))
 (.ite (.and (.eq (.cell (.var 8) (.var 32) 0) (.var 6)) (.and (.eq (.cell (.var 8) (.var 32) 1) (.var 7)) (.bool true)))
 (.ret [.not (.le (.int 0) (.var 32))])
 (.need (.fit (.add (.var 32) (.int 1)))
 (.back 31 [.add (.var 32) (.int 1)]))))
 (.ret [.bool true]))))
 (.call 71 [.var 24,.var 25,.var 26,.var 27,.var 28] 31
 (.ite (.not (.eq (.var 32) (.int 0)))
 (.ret [.bool false])
 (.need (.fit (.sub (.len (.var 8)) (.int 1)))
 (.ite (.not (.eq (.len (.var 31)) (.sub (.len (.var 8)) (.int 1))))
 (.ret [.bool false])
 (.loop 33 [.int .i64] [.int 0]
 (.ite (.lt (.var 34) (.len (.var 31)))
 (.need (.le (.int 0) (.var 34))
 (.ite (.and (.eq (.cell (.var 31) (.var 34) 0) (.var 6)) (.and (.eq (.cell (.var 31) (.var 34) 1) (.var 7)) (.bool true)))
 (.ret [.bool false])
 (.need (.fit (.add (.var 34) (.int 1)))
 (.back 33 [.add (.var 34) (.int 1)]))))
 (.loop 35 [.int .i64] [.int 0]
 (.ite (.lt (.var 36) (.len (.var 8)))
 (.need (.le (.int 0) (.var 36))
 (.ite (.and (.eq (.cell (.var 8) (.var 36) 0) (.var 6)) (.and (.eq (.cell (.var 8) (.var 36) 1) (.var 7)) (.bool true)))
 (.loop 37 [.int .i64] [.int 0]
 (.ite (.lt (.var 38) (.len (.var 31)))
 (.need (.le (.int 0) (.var 38))
 (.call 93 [.var 8,.cell (.var 31) (.var 38) 0,.cell (.var 31) (.var 38) 1,.cell (.var 31) (.var 38) 2,.cell (.var 31) (.var 38) 3] 39
 (.ite (.not (.var 39))
 (.ret [.bool false])
 (.need (.fit (.add (.var 38) (.int 1)))
 (.back 37 [.add (.var 38) (.int 1)])))))
 (.call 82 [.var 24,.var 25,.var 26,.var 27,.var 28,.var 29] 39
 (.call 71 [.var 39,.var 40,.var 41,.var 42,.var 43] 45
 (.ite (.eq (.var 44) (.int 0))
 (.ite (.eq (.var 46) (.int 0))
 (.ite (.eq (.len (.var 45)) (.len (.var 8)))
 (.loop 47 [.int .i64] [.int 0]
 (.ite (.lt (.var 48) (.len (.var 8)))
 (.need (.le (.int 0) (.var 48))
 (.call 93 [.var 45,.cell (.var 8) (.var 48) 0,.cell (.var 8) (.var 48) 1,.cell (.var 8) (.var 48) 2,.cell (.var 8) (.var 48) 3] 49
 (.ite (.not (.var 49))
 (.ret [.not (.le (.int 0) (.var 48))])
 (.need (.fit (.add (.var 48) (.int 1)))
 (.back 47 [.add (.var 48) (.int 1)])))))
 (.ret [.bool true])))
 (.ret [.bool false]))
 (.ret [.bool false]))
 (.ret [.bool false]))))))
 (.need (.fit (.add (.var 36) (.int 1)))
 (.back 35 [.add (.var 36) (.int 1)]))))
 (.ret [.bool false])))))))))))))))))))))))
 (.call 83 [.var 0,.var 1,.var 2,.var 3,.var 4,.var 6,.var 7] 17
 (.ite (.not (.eq (.var 23) (.int 0)))
 (.ite (.not (.eq (.var 23) (.int 5)))
 (.ret [.bool true])
 (.loop 24 [.int .i64] [.int 0]
 (.ite (.lt (.var 25) (.len (.var 8)))
 (.need (.le (.int 0) (.var 25))
 (.ite (.and (.eq (.cell (.var 8) (.var 25) 0) (.var 6)) (.and (.eq (.cell (.var 8) (.var 25) 1) (.var 7)) (.bool true)))
 (.ret [.not (.le (.int 0) (.var 25))])
 (.need (.fit (.add (.var 25) (.int 1)))
 (.back 24 [.add (.var 25) (.int 1)]))))
 (.ret [.bool true]))))
 (.call 71 [.var 17,.var 18,.var 19,.var 20,.var 21] 24
 (.ite (.not (.eq (.var 25) (.int 0)))
 (.ret [.bool false])
 (.need (.fit (.sub (.len (.var 8)) (.int 1)))
 (.ite (.not (.eq (.len (.var 24)) (.sub (.len (.var 8)) (.int 1))))
 (.ret [.bool false])
 (.loop 26 [.int .i64] [.int 0]
 (.ite (.lt (.var 27) (.len (.var 24)))
 (.need (.le (.int 0) (.var 27))
 (.ite (.and (.eq (.cell (.var 24) (.var 27) 0) (.var 6)) (.and (.eq (.cell (.var 24) (.var 27) 1) (.var 7)) (.bool true)))
 (.ret [.bool false])
 (.need (.fit (.add (.var 27) (.int 1)))
 (.back 26 [.add (.var 27) (.int 1)]))))
 (.loop 28 [.int .i64] [.int 0]
 (.ite (.lt (.var 29) (.len (.var 8)))
 (.need (.le (.int 0) (.var 29))
 (.ite (.and (.eq (.cell (.var 8) (.var 29) 0) (.var 6)) (.and (.eq (.cell (.var 8) (.var 29) 1) (.var 7)) (.bool true)))
 (.loop 30 [.int .i64] [.int 0]
 (.ite (.lt (.var 31) (.len (.var 24)))
 (.need (.le (.int 0) (.var 31))
 (.call 93 [.var 8,.cell (.var 24) (.var 31) 0,.cell (.var 24) (.var 31) 1,.cell (.var 24) (.var 31) 2,.cell (.var 24) (.var 31) 3] 32
 (.ite (.not (.var 32))
 (.ret [.bool false])
 (.need (.fit (.add (.var 31) (.int 1)))
 (.back 30 [.add (.var 31) (.int 1)])))))
 (.call 82 [.var 17,.var 18,.var 19,.var 20,.var 21,.var 22] 32
 (.call 71 [.var 32,.var 33,.var 34,.var 35,.var 36] 38
 (.ite (.eq (.var 37) (.int 0))
 (.ite (.eq (.var 39) (.int 0))
 (.ite (.eq (.len (.var 38)) (.len (.var 8)))
 (.loop 40 [.int .i64] [.int 0]
 (.ite (.lt (.var 41) (.len (.var 8)))
 (.need (.le (.int 0) (.var 41))
 (.call 93 [.var 38,.cell (.var 8) (.var 41) 0,.cell (.var 8) (.var 41) 1,.cell (.var 8) (.var 41) 2,.cell (.var 8) (.var 41) 3] 42
 (.ite (.not (.var 42))
 (.ret [.not (.le (.int 0) (.var 41))])
 (.need (.fit (.add (.var 41) (.int 1)))
 (.back 40 [.add (.var 41) (.int 1)])))))
 (.ret [.bool true])))
 (.ret [.bool false]))
 (.ret [.bool false]))
 (.ret [.bool false]))))))
 (.need (.fit (.add (.var 29) (.int 1)))
 (.back 28 [.add (.var 29) (.int 1)]))))
 (.ret [.bool false])))))))))))))))))
theorem run14 : run z14 6000 [.code (Try.f14.body.getD .skip),.fin (bt z14 Try.f14.results.toList 50)] { fn:=14,tmps:=z14.sig.aM ++ List.replicate (Try.f14.ntmps - z14.sig.aM.length) (.v (.one .undef)),stk:=[],h:=z14.sig.h0,nx:=z14.sig.ins.length,known:=[]}=t14:=by kernel_rfl
set_option maxHeartbeats 2000000 in
theorem ok14 : cB Try.prog 14 d14.ct:=by
 refine aD (d:=d14) (Z:=z14) (Γ:=gam l14) (fn:=Try.f14) (c:=Try.f14.body.getD .skip) (bg tok mixed (all_cons ok71 (all_cons ok73 (all_cons ok82 (all_cons ok93 (all_cons ok83 all_nil))))) (dX (c:=Try.f90.body.getD .skip) Try.func90 (by kernel_rfl) (by kernel_rfl) (dX (c:=Try.f91.body.getD .skip) Try.func91 (by kernel_rfl) (by kernel_rfl) (dX (c:=Try.f92.body.getD .skip) Try.func92 (by kernel_rfl) (by kernel_rfl) (dX (c:=Try.f85.body.getD .skip) Try.func85 (by kernel_rfl) (by kernel_rfl) (dX (c:=Try.f94.body.getD .skip) Try.func94 (by kernel_rfl) (by kernel_rfl) (dX (c:=Try.f95.body.getD .skip) Try.func95 (by kernel_rfl) (by kernel_rfl) (dX (c:=Try.f96.body.getD .skip) Try.func96 (by kernel_rfl) (by kernel_rfl) bh)))))))) Try.func14 (by kernel_rfl) (by kernel_rfl) rfl run14 fun E hk hp=>?_
 obtain ⟨hk0,hk1,hk2,hk3,hk4,hk5,hk6,hk7,_⟩:=hk
 obtain ⟨m,e0,e1,e2,e3,e4,b0,b1,b2,b3⟩:=cv (d0:=E 0) (d1:=E 1) (d2:=E 2) (d3:=E 3) (d4:=E 4) hk0 hk1 hk2 hk3 hk4
 obtain ⟨x,e5⟩:=ok_int (d:=E 5) hk5
 obtain ⟨k,e6,e7⟩:=vM (d0:=E 6) (d1:=E 7) hk6 hk7
 have el : aH E d14.sig.ins.length=[au m.slots,af m.heads,af m.free,af m.locks,.i m.now,.i x,.i k.a,.i k.b]:=by
  show [E 0,E 1,E 2,E 3,E 4,E 5,E 6,E 7]=_
  rw [e0,e1,e2,e3,e4,e5,e6,e7]
 rw [el] at hp
 rw [el]
 rw [Env.bJ el]
 clear el e0 e1 e2 e3 e4 e5 e6 e7
 simp only [d14]
 unfold t14
 refine ai d71 [eM (jM m).1,.i (jM m).2] rfl trivial (by simp only [nrm,xdn,reduceIte,Nat.reduceLT,Nat.reduceSub,Nat.reduceAdd,fn71]) ?_
 refine ai d73 [.b true] rfl trivial rfl ?_
 refine Fk (by simp only [nrm,xdn,reduceIte,Nat.reduceLT,Nat.reduceSub,Nat.reduceAdd,Mem.cds,lca,decide_true,Bool.not_true,not_true_eq_false,decide_false,beq_self_eq_true]) ?_
 refine G0 (fun h=>?_) (fun h=>?_)
 ·refine ai d73 [.b true] rfl trivial rfl (aj ?_)
  simp only [nrm,xdn,reduceIte,Nat.reduceLT,Nat.reduceSub,Nat.reduceAdd]
 simp only [nrm,xdn,reduceIte,Nat.reduceLT,Nat.reduceSub,Nat.reduceAdd,Bool.not_eq_false'] at h
 have hC : aK m:=by
  refine (rN m).1 (Classical.byContradiction fun hx=>?_)
  unfold jM at h
  rw [if_pos hx] at h
  exact hx h
 rw [Ht hC]
 have hm:=hC.mem
 have hns:=hm.ns
 have hfl:=pC hm
 refine ai d82 ((linked m x).1.cds ++ [.i (linked m x).2]) rfl trivial (by simp only [nrm,xdn,reduceIte,Nat.reduceLT,Nat.reduceSub,Nat.reduceAdd,fn82]) (G0 (fun a=>?_) (fun a=>?_))
 ·simp only [nrm,xdn,reduceIte,Nat.reduceLT,Nat.reduceSub,Nat.reduceAdd,Mem.cds,lca] at a
  obtain ⟨_,x1,x2,x3,x4,x5⟩:=KI a
  obtain ⟨q1,q2,q3,q4,q5⟩:=zx hC x1 x2 x3 x4
  rw [x5]
  generalize link m x (bk m (kys m x))=w at *
  have hm0 : m.slots.getD x.toNat default=msl m x.toNat:=rfl
  refine ag (by simp only [nrm,xdn,reduceIte,Nat.reduceLT,Nat.reduceSub,Nat.reduceAdd];omega) (ag (by simp only [nrm,xdn,reduceIte,Nat.reduceLT,Nat.reduceSub,Nat.reduceAdd,aN];omega) ?_)
  refine ai d71 [eM (aq w),.i 0] rfl trivial (by simp only [nrm,xdn,reduceIte,Nat.reduceLT,Nat.reduceSub,Nat.reduceAdd,Mem.cds,lca,fn71,Ht q1]) ?_
  refine Fk (by simp only [nrm,xdn,reduceIte,Nat.reduceLT,Nat.reduceSub,Nat.reduceAdd,Mem.cds,lca,decide_true,Bool.not_true,not_true_eq_false,decide_false,beq_self_eq_true]) ?_
  refine G1 (by simp only [nrm,xdn,reduceIte,Nat.reduceLT,Nat.reduceSub,Nat.reduceAdd,iT];omega) (Fk (by simp only [nrm,xdn,reduceIte,Nat.reduceLT,Nat.reduceSub,Nat.reduceAdd,iT,Bool.not_eq_false',decide_eq_true_eq];omega) ?_)
  refine bO (fun ds=>∃ i : Nat,ds=[.i i]∧i≤(aq m).length) (fun ds=>(aq m).length - (ds.getD 0 .u).int.toNat) ⟨0,rfl,by omega⟩ ?_
  rintro ds - ⟨i,rfl,hi⟩
  refine G0 (fun hlt=>?_) (fun hge=>?_)
  ·simp only [nrm,xdn,reduceIte,Nat.reduceLT,Nat.reduceSub,Nat.reduceAdd,iT] at hlt
   have hg:=q5 _ (He (l:=aq m) (i:=i) (by omega))
   refine ag (by simp only [nrm,xdn,reduceIte,Nat.reduceLT,Nat.reduceSub,Nat.reduceAdd];omega) (G0 (fun c=>?_) (fun c=>?_))
   ·simp only [nrm,xdn,reduceIte,Nat.reduceLT,Nat.reduceSub,Nat.reduceAdd,Int.toNat_natCast,Hb,Ha,cG,cF,hm0,Bool.and_eq_true,and_true] at c
    exact absurd (HW c.1 c.2) hg
   ·
    refine G1 (by simp only [nrm,xdn,reduceIte,Nat.reduceLT,Nat.reduceSub,Nat.reduceAdd];omega) (aV ⟨⟨i + 1,?_,by omega⟩,?_⟩)
    ·simp only [nrm,xdn,reduceIte,Nat.reduceLT,Nat.reduceSub,Nat.reduceAdd];rfl
    ·simp only [nrm,xdn,reduceIte,Nat.reduceLT,Nat.reduceSub,Nat.reduceAdd];omega
  clear hge hi
  have q3' : (⟨(msl m x.toNat).k,x,(msl m x.toNat).till⟩ : cI)∈aq w:=q3
  refine ai d93 [.b true] rfl trivial (by simp only [nrm,xdn,reduceIte,Nat.reduceLT,Nat.reduceSub,Nat.reduceAdd,Int.toNat_natCast,d93,G6,cG,cF,cy,hm0,eZ,q3',decide_true]) ?_
  refine Fk (by simp only [nrm,xdn,reduceIte,Nat.reduceLT,Nat.reduceSub,Nat.reduceAdd,Mem.cds,lca,decide_true,Bool.not_true,not_true_eq_false,decide_false,beq_self_eq_true]) ?_
  refine bO (fun ds=>∃ i : Nat,ds=[.i i]∧i≤(aq m).length) (fun ds=>(aq m).length - (ds.getD 0 .u).int.toNat) ⟨0,rfl,by omega⟩ ?_
  rintro ds - ⟨i,rfl,hi⟩
  refine G0 (fun hlt=>?_) (fun hge=>?_)
  ·simp only [nrm,xdn,reduceIte,Nat.reduceLT,Nat.reduceSub,Nat.reduceAdd,iT] at hlt
   have hg:=q4 _ (He (l:=aq m) (i:=i) (by omega))
   refine ag (by simp only [nrm,xdn,reduceIte,Nat.reduceLT,Nat.reduceSub,Nat.reduceAdd];omega) (ai d93 [.b true] rfl trivial (by simp only [nrm,xdn,reduceIte,Nat.reduceLT,Nat.reduceSub,Nat.reduceAdd,Int.toNat_natCast,d93,G6,Hb,Ha,Hh,Hx,HX,hg,decide_true]) ?_)
   refine Fk (by simp only [nrm,xdn,reduceIte,Nat.reduceLT,Nat.reduceSub,Nat.reduceAdd,Mem.cds,lca,decide_true,Bool.not_true,not_true_eq_false,decide_false,beq_self_eq_true]) ?_
   refine G1 (by simp only [nrm,xdn,reduceIte,Nat.reduceLT,Nat.reduceSub,Nat.reduceAdd];omega) (aV ⟨⟨i + 1,?_,by omega⟩,?_⟩)
   ·simp only [nrm,xdn,reduceIte,Nat.reduceLT,Nat.reduceSub,Nat.reduceAdd];rfl
   ·simp only [nrm,xdn,reduceIte,Nat.reduceLT,Nat.reduceSub,Nat.reduceAdd];omega
  clear hge hi
  refine ai d83 ((EA m k).1.cds ++ [.i (EA m k).2.1,.i (EA m k).2.2]) rfl trivial (by simp only [nrm,xdn,reduceIte,Nat.reduceLT,Nat.reduceSub,Nat.reduceAdd,fn83,eZ]) (G0 (fun c1=>G0 (fun c2=>?_) (fun c2=>?_)) (fun c1=>?_))
  ·refine aj ?_
   simp only [nrm,xdn,reduceIte,Nat.reduceLT,Nat.reduceSub,Nat.reduceAdd]
  ·simp only [nrm,xdn,reduceIte,Nat.reduceLT,Nat.reduceSub,Nat.reduceAdd,Mem.cds,lca,Bool.not_eq_false'] at c2
   have hno : ∀ f∈aq m,f.k≠k:=fun f hf e=>by
    subst e
    rw [Hy hC hf (Jw hC hf)] at c2
    cases c2
   refine bO (fun ds=>∃ i : Nat,ds=[.i i]∧i≤(aq m).length) (fun ds=>(aq m).length - (ds.getD 0 .u).int.toNat) ⟨0,rfl,by omega⟩ ?_
   rintro ds - ⟨i,rfl,hi⟩
   refine G0 (fun hlt=>?_) (fun hge=>?_)
   ·simp only [nrm,xdn,reduceIte,Nat.reduceLT,Nat.reduceSub,Nat.reduceAdd,iT] at hlt
    have hf:=He (l:=aq m) (i:=i) (by omega)
    refine ag (by simp only [nrm,xdn,reduceIte,Nat.reduceLT,Nat.reduceSub,Nat.reduceAdd];omega) (G0 (fun c=>?_) (fun c=>?_))
    ·simp only [nrm,xdn,reduceIte,Nat.reduceLT,Nat.reduceSub,Nat.reduceAdd,Int.toNat_natCast,Hb,Ha,Bool.and_eq_true,and_true] at c
     exact absurd (HW c.1 c.2) (hno _ hf)
    ·
     refine G1 (by simp only [nrm,xdn,reduceIte,Nat.reduceLT,Nat.reduceSub,Nat.reduceAdd];omega) (aV ⟨⟨i + 1,?_,by omega⟩,?_⟩)
     ·simp only [nrm,xdn,reduceIte,Nat.reduceLT,Nat.reduceSub,Nat.reduceAdd];rfl
     ·simp only [nrm,xdn,reduceIte,Nat.reduceLT,Nat.reduceSub,Nat.reduceAdd];omega
   ·refine aj ?_
    simp only [nrm,xdn,reduceIte,Nat.reduceLT,Nat.reduceSub,Nat.reduceAdd]
  simp only [nrm,xdn,reduceIte,Nat.reduceLT,Nat.reduceSub,Nat.reduceAdd,Mem.cds,lca,Bool.not_eq_false'] at c1
  obtain ⟨f,hf,e⟩:=Jg hC c1
  subst e
  have hk:=Jw hC hf
  obtain ⟨b1,b2,b3⟩:=jq hm hk
  obtain ⟨t1,t2,t3,_,_,_,t7⟩:=jj hC hf
  have hbn : (((bk m f.k).toNat : Nat) : Int)=bk m f.k:=by omega
  obtain ⟨y,hy,yC,ylen,yin,_,_,yr,yl,zC,zlen,zin⟩:=KQ hC (b:=(bk m f.k).toNat) (by omega) t7
  rw [hbn] at hy
  rw [t3] at yin
  rw [Hy hC hf hk,← hy]
  generalize f.slot=t at *
  generalize hz : link y t (bk y (kys y t))=z at *
  refine ai d71 [eM (aq y),.i 0] rfl trivial (by simp only [nrm,xdn,reduceIte,Nat.reduceLT,Nat.reduceSub,Nat.reduceAdd,Mem.cds,lca,fn71,Ht yC]) ?_
  refine Fk (by simp only [nrm,xdn,reduceIte,Nat.reduceLT,Nat.reduceSub,Nat.reduceAdd,Mem.cds,lca,decide_true,Bool.not_true,not_true_eq_false,decide_false,beq_self_eq_true]) ?_
  refine G1 (by simp only [nrm,xdn,reduceIte,Nat.reduceLT,Nat.reduceSub,Nat.reduceAdd,iT];omega) (Fk (by simp only [nrm,xdn,reduceIte,Nat.reduceLT,Nat.reduceSub,Nat.reduceAdd,iT,Bool.not_eq_false',decide_eq_true_eq];omega) ?_)
  refine bO (fun ds=>∃ i : Nat,ds=[.i i]∧i≤(aq y).length) (fun ds=>(aq y).length - (ds.getD 0 .u).int.toNat) ⟨0,rfl,by omega⟩ ?_
  rintro ds - ⟨i,rfl,hi⟩
  refine G0 (fun hlt=>?_) (fun hge=>?_)
  ·simp only [nrm,xdn,reduceIte,Nat.reduceLT,Nat.reduceSub,Nat.reduceAdd,iT] at hlt
   have hg:=He (l:=aq y) (i:=i) (by omega)
   refine ag (by simp only [nrm,xdn,reduceIte,Nat.reduceLT,Nat.reduceSub,Nat.reduceAdd];omega) (G0 (fun c=>?_) (fun c=>?_))
   ·simp only [nrm,xdn,reduceIte,Nat.reduceLT,Nat.reduceSub,Nat.reduceAdd,Int.toNat_natCast,Hb,Ha,Bool.and_eq_true,and_true] at c
    exact absurd (HW c.1 c.2) (yin _ hg).2
   ·
    refine G1 (by simp only [nrm,xdn,reduceIte,Nat.reduceLT,Nat.reduceSub,Nat.reduceAdd];omega) (aV ⟨⟨i + 1,?_,by omega⟩,?_⟩)
    ·simp only [nrm,xdn,reduceIte,Nat.reduceLT,Nat.reduceSub,Nat.reduceAdd];rfl
    ·simp only [nrm,xdn,reduceIte,Nat.reduceLT,Nat.reduceSub,Nat.reduceAdd];omega
  clear hge hi
  refine bO (fun ds=>∃ i : Nat,ds=[.i i]∧i≤(aq m).length∧∀ j,j < i→((aq m).getD j default).k≠f.k) (fun ds=>(aq m).length - (ds.getD 0 .u).int.toNat) ⟨0,rfl,by omega,by omega⟩ ?_
  rintro ds - ⟨i,rfl,hi,hno⟩
  refine G0 (fun hlt=>?_) (fun hge=>?_)
  ·simp only [nrm,xdn,reduceIte,Nat.reduceLT,Nat.reduceSub,Nat.reduceAdd,iT] at hlt
   refine ag (by simp only [nrm,xdn,reduceIte,Nat.reduceLT,Nat.reduceSub,Nat.reduceAdd];omega) (G0 (fun c=>?_) (fun c=>?_))
   ·clear hno hlt hi c
    refine bO (fun ds=>∃ i : Nat,ds=[.i i]∧i≤(aq y).length) (fun ds=>(aq y).length - (ds.getD 0 .u).int.toNat) ⟨0,rfl,by omega⟩ ?_
    rintro ds - ⟨i,rfl,hi⟩
    refine G0 (fun hlt=>?_) (fun hge=>?_)
    ·simp only [nrm,xdn,reduceIte,Nat.reduceLT,Nat.reduceSub,Nat.reduceAdd,iT] at hlt
     have hg:=(yin _ (He (l:=aq y) (i:=i) (by omega))).1
     refine ag (by simp only [nrm,xdn,reduceIte,Nat.reduceLT,Nat.reduceSub,Nat.reduceAdd];omega) (ai d93 [.b true] rfl trivial (by simp only [nrm,xdn,reduceIte,Nat.reduceLT,Nat.reduceSub,Nat.reduceAdd,Int.toNat_natCast,d93,G6,Hb,Ha,Hh,Hx,HX,hg,decide_true]) ?_)
     refine Fk (by simp only [nrm,xdn,reduceIte,Nat.reduceLT,Nat.reduceSub,Nat.reduceAdd,Mem.cds,lca,decide_true,Bool.not_true,not_true_eq_false,decide_false,beq_self_eq_true]) ?_
     refine G1 (by simp only [nrm,xdn,reduceIte,Nat.reduceLT,Nat.reduceSub,Nat.reduceAdd];omega) (aV ⟨⟨i + 1,?_,by omega⟩,?_⟩)
     ·simp only [nrm,xdn,reduceIte,Nat.reduceLT,Nat.reduceSub,Nat.reduceAdd];rfl
     ·simp only [nrm,xdn,reduceIte,Nat.reduceLT,Nat.reduceSub,Nat.reduceAdd];omega
    clear hge hi
    refine ai d82 (z.cds ++ [.i 0]) rfl trivial (by simp only [nrm,xdn,reduceIte,Nat.reduceLT,Nat.reduceSub,Nat.reduceAdd,Mem.cds,lca,fn82,yl]) ?_
    refine ai d71 [eM (aq z),.i 0] rfl trivial (by simp only [nrm,xdn,reduceIte,Nat.reduceLT,Nat.reduceSub,Nat.reduceAdd,Mem.cds,lca,fn71,Ht zC]) ?_
    refine Bf (by simp only [nrm,xdn,reduceIte,Nat.reduceLT,Nat.reduceSub,Nat.reduceAdd,Mem.cds,lca]) ?_
    refine Bf (by simp only [nrm,xdn,reduceIte,Nat.reduceLT,Nat.reduceSub,Nat.reduceAdd,Mem.cds,lca]) ?_
    refine Bf (by simp only [nrm,xdn,reduceIte,Nat.reduceLT,Nat.reduceSub,Nat.reduceAdd,iT,zlen]) ?_
    refine bO (fun ds=>∃ i : Nat,ds=[.i i]∧i≤(aq m).length) (fun ds=>(aq m).length - (ds.getD 0 .u).int.toNat) ⟨0,rfl,by omega⟩ ?_
    rintro ds - ⟨i,rfl,hi⟩
    refine G0 (fun hlt=>?_) (fun hge=>?_)
    ·simp only [nrm,xdn,reduceIte,Nat.reduceLT,Nat.reduceSub,Nat.reduceAdd,iT] at hlt
     have hg:=zin _ (He (l:=aq m) (i:=i) (by omega))
     refine ag (by simp only [nrm,xdn,reduceIte,Nat.reduceLT,Nat.reduceSub,Nat.reduceAdd];omega) (ai d93 [.b true] rfl trivial (by simp only [nrm,xdn,reduceIte,Nat.reduceLT,Nat.reduceSub,Nat.reduceAdd,Int.toNat_natCast,d93,G6,Hb,Ha,Hh,Hx,HX,hg,decide_true]) ?_)
     refine Fk (by simp only [nrm,xdn,reduceIte,Nat.reduceLT,Nat.reduceSub,Nat.reduceAdd,Mem.cds,lca,decide_true,Bool.not_true,not_true_eq_false,decide_false,beq_self_eq_true]) ?_
     refine G1 (by simp only [nrm,xdn,reduceIte,Nat.reduceLT,Nat.reduceSub,Nat.reduceAdd];omega) (aV ⟨⟨i + 1,?_,by omega⟩,?_⟩)
     ·simp only [nrm,xdn,reduceIte,Nat.reduceLT,Nat.reduceSub,Nat.reduceAdd];rfl
     ·simp only [nrm,xdn,reduceIte,Nat.reduceLT,Nat.reduceSub,Nat.reduceAdd];omega
    ·refine aj ?_
     simp only [nrm,xdn,reduceIte,Nat.reduceLT,Nat.reduceSub,Nat.reduceAdd]
   ·simp only [nrm,xdn,reduceIte,Nat.reduceLT,Nat.reduceSub,Nat.reduceAdd,Int.toNat_natCast,Hb,Ha,Bool.and_eq_false_iff,or_false,Bool.true_eq_false] at c
    refine G1 (by simp only [nrm,xdn,reduceIte,Nat.reduceLT,Nat.reduceSub,Nat.reduceAdd];omega) (aV ⟨⟨i + 1,?_,by omega,fun j hj=>?_⟩,?_⟩)
    ·simp only [nrm,xdn,reduceIte,Nat.reduceLT,Nat.reduceSub,Nat.reduceAdd];rfl
    ·rcases Nat.lt_or_ge j i with hl | hg
     ·exact hno j hl
     ·have : j=i:=by omega
      subst this
      intro e
      rw [e] at c
      rcases c with c | c <;> exact c rfl
    ·simp only [nrm,xdn,reduceIte,Nat.reduceLT,Nat.reduceSub,Nat.reduceAdd];omega
  ·simp only [nrm,xdn,reduceIte,Nat.reduceLT,Nat.reduceSub,Nat.reduceAdd,iT] at hge
   obtain ⟨j,hj,e⟩:=HQ hf
   exact absurd (by rw [← e]) (hno j (by omega))
 ·
  refine ai d83 ((EA m k).1.cds ++ [.i (EA m k).2.1,.i (EA m k).2.2]) rfl trivial (by simp only [nrm,xdn,reduceIte,Nat.reduceLT,Nat.reduceSub,Nat.reduceAdd,fn83,eZ]) (G0 (fun c1=>G0 (fun c2=>?_) (fun c2=>?_)) (fun c1=>?_))
  ·refine aj ?_
   simp only [nrm,xdn,reduceIte,Nat.reduceLT,Nat.reduceSub,Nat.reduceAdd]
  ·simp only [nrm,xdn,reduceIte,Nat.reduceLT,Nat.reduceSub,Nat.reduceAdd,Mem.cds,lca,Bool.not_eq_false'] at c2
   have hno : ∀ f∈aq m,f.k≠k:=fun f hf e=>by
    subst e
    rw [Hy hC hf (Jw hC hf)] at c2
    cases c2
   refine bO (fun ds=>∃ i : Nat,ds=[.i i]∧i≤(aq m).length) (fun ds=>(aq m).length - (ds.getD 0 .u).int.toNat) ⟨0,rfl,by omega⟩ ?_
   rintro ds - ⟨i,rfl,hi⟩
   refine G0 (fun hlt=>?_) (fun hge=>?_)
   ·simp only [nrm,xdn,reduceIte,Nat.reduceLT,Nat.reduceSub,Nat.reduceAdd,iT] at hlt
    have hf:=He (l:=aq m) (i:=i) (by omega)
    refine ag (by simp only [nrm,xdn,reduceIte,Nat.reduceLT,Nat.reduceSub,Nat.reduceAdd];omega) (G0 (fun c=>?_) (fun c=>?_))
    ·simp only [nrm,xdn,reduceIte,Nat.reduceLT,Nat.reduceSub,Nat.reduceAdd,Int.toNat_natCast,Hb,Ha,Bool.and_eq_true,and_true] at c
     exact absurd (HW c.1 c.2) (hno _ hf)
    ·
     refine G1 (by simp only [nrm,xdn,reduceIte,Nat.reduceLT,Nat.reduceSub,Nat.reduceAdd];omega) (aV ⟨⟨i + 1,?_,by omega⟩,?_⟩)
     ·simp only [nrm,xdn,reduceIte,Nat.reduceLT,Nat.reduceSub,Nat.reduceAdd];rfl
     ·simp only [nrm,xdn,reduceIte,Nat.reduceLT,Nat.reduceSub,Nat.reduceAdd];omega
   ·refine aj ?_
    simp only [nrm,xdn,reduceIte,Nat.reduceLT,Nat.reduceSub,Nat.reduceAdd]
  simp only [nrm,xdn,reduceIte,Nat.reduceLT,Nat.reduceSub,Nat.reduceAdd,Mem.cds,lca,Bool.not_eq_false'] at c1
  obtain ⟨f,hf,e⟩:=Jg hC c1
  subst e
  have hk:=Jw hC hf
  obtain ⟨b1,b2,b3⟩:=jq hm hk
  obtain ⟨t1,t2,t3,_,_,_,t7⟩:=jj hC hf
  have hbn : (((bk m f.k).toNat : Nat) : Int)=bk m f.k:=by omega
  obtain ⟨y,hy,yC,ylen,yin,_,_,yr,yl,zC,zlen,zin⟩:=KQ hC (b:=(bk m f.k).toNat) (by omega) t7
  rw [hbn] at hy
  rw [t3] at yin
  rw [Hy hC hf hk,← hy]
  generalize f.slot=t at *
  generalize hz : link y t (bk y (kys y t))=z at *
  refine ai d71 [eM (aq y),.i 0] rfl trivial (by simp only [nrm,xdn,reduceIte,Nat.reduceLT,Nat.reduceSub,Nat.reduceAdd,Mem.cds,lca,fn71,Ht yC]) ?_
  refine Fk (by simp only [nrm,xdn,reduceIte,Nat.reduceLT,Nat.reduceSub,Nat.reduceAdd,Mem.cds,lca,decide_true,Bool.not_true,not_true_eq_false,decide_false,beq_self_eq_true]) ?_
  refine G1 (by simp only [nrm,xdn,reduceIte,Nat.reduceLT,Nat.reduceSub,Nat.reduceAdd,iT];omega) (Fk (by simp only [nrm,xdn,reduceIte,Nat.reduceLT,Nat.reduceSub,Nat.reduceAdd,iT,Bool.not_eq_false',decide_eq_true_eq];omega) ?_)
  refine bO (fun ds=>∃ i : Nat,ds=[.i i]∧i≤(aq y).length) (fun ds=>(aq y).length - (ds.getD 0 .u).int.toNat) ⟨0,rfl,by omega⟩ ?_
  rintro ds - ⟨i,rfl,hi⟩
  refine G0 (fun hlt=>?_) (fun hge=>?_)
  ·simp only [nrm,xdn,reduceIte,Nat.reduceLT,Nat.reduceSub,Nat.reduceAdd,iT] at hlt
   have hg:=He (l:=aq y) (i:=i) (by omega)
   refine ag (by simp only [nrm,xdn,reduceIte,Nat.reduceLT,Nat.reduceSub,Nat.reduceAdd];omega) (G0 (fun c=>?_) (fun c=>?_))
   ·simp only [nrm,xdn,reduceIte,Nat.reduceLT,Nat.reduceSub,Nat.reduceAdd,Int.toNat_natCast,Hb,Ha,Bool.and_eq_true,and_true] at c
    exact absurd (HW c.1 c.2) (yin _ hg).2
   ·
    refine G1 (by simp only [nrm,xdn,reduceIte,Nat.reduceLT,Nat.reduceSub,Nat.reduceAdd];omega) (aV ⟨⟨i + 1,?_,by omega⟩,?_⟩)
    ·simp only [nrm,xdn,reduceIte,Nat.reduceLT,Nat.reduceSub,Nat.reduceAdd];rfl
    ·simp only [nrm,xdn,reduceIte,Nat.reduceLT,Nat.reduceSub,Nat.reduceAdd];omega
  clear hge hi
  refine bO (fun ds=>∃ i : Nat,ds=[.i i]∧i≤(aq m).length∧∀ j,j < i→((aq m).getD j default).k≠f.k) (fun ds=>(aq m).length - (ds.getD 0 .u).int.toNat) ⟨0,rfl,by omega,by omega⟩ ?_
  rintro ds - ⟨i,rfl,hi,hno⟩
  refine G0 (fun hlt=>?_) (fun hge=>?_)
  ·simp only [nrm,xdn,reduceIte,Nat.reduceLT,Nat.reduceSub,Nat.reduceAdd,iT] at hlt
   refine ag (by simp only [nrm,xdn,reduceIte,Nat.reduceLT,Nat.reduceSub,Nat.reduceAdd];omega) (G0 (fun c=>?_) (fun c=>?_))
   ·clear hno hlt hi c
    refine bO (fun ds=>∃ i : Nat,ds=[.i i]∧i≤(aq y).length) (fun ds=>(aq y).length - (ds.getD 0 .u).int.toNat) ⟨0,rfl,by omega⟩ ?_
    rintro ds - ⟨i,rfl,hi⟩
    refine G0 (fun hlt=>?_) (fun hge=>?_)
    ·simp only [nrm,xdn,reduceIte,Nat.reduceLT,Nat.reduceSub,Nat.reduceAdd,iT] at hlt
     have hg:=(yin _ (He (l:=aq y) (i:=i) (by omega))).1
     refine ag (by simp only [nrm,xdn,reduceIte,Nat.reduceLT,Nat.reduceSub,Nat.reduceAdd];omega) (ai d93 [.b true] rfl trivial (by simp only [nrm,xdn,reduceIte,Nat.reduceLT,Nat.reduceSub,Nat.reduceAdd,Int.toNat_natCast,d93,G6,Hb,Ha,Hh,Hx,HX,hg,decide_true]) ?_)
     refine Fk (by simp only [nrm,xdn,reduceIte,Nat.reduceLT,Nat.reduceSub,Nat.reduceAdd,Mem.cds,lca,decide_true,Bool.not_true,not_true_eq_false,decide_false,beq_self_eq_true]) ?_
     refine G1 (by simp only [nrm,xdn,reduceIte,Nat.reduceLT,Nat.reduceSub,Nat.reduceAdd];omega) (aV ⟨⟨i + 1,?_,by omega⟩,?_⟩)
     ·simp only [nrm,xdn,reduceIte,Nat.reduceLT,Nat.reduceSub,Nat.reduceAdd];rfl
     ·simp only [nrm,xdn,reduceIte,Nat.reduceLT,Nat.reduceSub,Nat.reduceAdd];omega
    clear hge hi
    refine ai d82 (z.cds ++ [.i 0]) rfl trivial (by simp only [nrm,xdn,reduceIte,Nat.reduceLT,Nat.reduceSub,Nat.reduceAdd,Mem.cds,lca,fn82,yl]) ?_
    refine ai d71 [eM (aq z),.i 0] rfl trivial (by simp only [nrm,xdn,reduceIte,Nat.reduceLT,Nat.reduceSub,Nat.reduceAdd,Mem.cds,lca,fn71,Ht zC]) ?_
    refine Bf (by simp only [nrm,xdn,reduceIte,Nat.reduceLT,Nat.reduceSub,Nat.reduceAdd,Mem.cds,lca]) ?_
    refine Bf (by simp only [nrm,xdn,reduceIte,Nat.reduceLT,Nat.reduceSub,Nat.reduceAdd,Mem.cds,lca]) ?_
    refine Bf (by simp only [nrm,xdn,reduceIte,Nat.reduceLT,Nat.reduceSub,Nat.reduceAdd,iT,zlen]) ?_
    refine bO (fun ds=>∃ i : Nat,ds=[.i i]∧i≤(aq m).length) (fun ds=>(aq m).length - (ds.getD 0 .u).int.toNat) ⟨0,rfl,by omega⟩ ?_
    rintro ds - ⟨i,rfl,hi⟩
    refine G0 (fun hlt=>?_) (fun hge=>?_)
    ·simp only [nrm,xdn,reduceIte,Nat.reduceLT,Nat.reduceSub,Nat.reduceAdd,iT] at hlt
     have hg:=zin _ (He (l:=aq m) (i:=i) (by omega))
     refine ag (by simp only [nrm,xdn,reduceIte,Nat.reduceLT,Nat.reduceSub,Nat.reduceAdd];omega) (ai d93 [.b true] rfl trivial (by simp only [nrm,xdn,reduceIte,Nat.reduceLT,Nat.reduceSub,Nat.reduceAdd,Int.toNat_natCast,d93,G6,Hb,Ha,Hh,Hx,HX,hg,decide_true]) ?_)
     refine Fk (by simp only [nrm,xdn,reduceIte,Nat.reduceLT,Nat.reduceSub,Nat.reduceAdd,Mem.cds,lca,decide_true,Bool.not_true,not_true_eq_false,decide_false,beq_self_eq_true]) ?_
     refine G1 (by simp only [nrm,xdn,reduceIte,Nat.reduceLT,Nat.reduceSub,Nat.reduceAdd];omega) (aV ⟨⟨i + 1,?_,by omega⟩,?_⟩)
     ·simp only [nrm,xdn,reduceIte,Nat.reduceLT,Nat.reduceSub,Nat.reduceAdd];rfl
     ·simp only [nrm,xdn,reduceIte,Nat.reduceLT,Nat.reduceSub,Nat.reduceAdd];omega
    ·refine aj ?_
     simp only [nrm,xdn,reduceIte,Nat.reduceLT,Nat.reduceSub,Nat.reduceAdd]
   ·simp only [nrm,xdn,reduceIte,Nat.reduceLT,Nat.reduceSub,Nat.reduceAdd,Int.toNat_natCast,Hb,Ha,Bool.and_eq_false_iff,or_false,Bool.true_eq_false] at c
    refine G1 (by simp only [nrm,xdn,reduceIte,Nat.reduceLT,Nat.reduceSub,Nat.reduceAdd];omega) (aV ⟨⟨i + 1,?_,by omega,fun j hj=>?_⟩,?_⟩)
    ·simp only [nrm,xdn,reduceIte,Nat.reduceLT,Nat.reduceSub,Nat.reduceAdd];rfl
    ·rcases Nat.lt_or_ge j i with hl | hg
     ·exact hno j hl
     ·have : j=i:=by omega
      subst this
      intro e
      rw [e] at c
      rcases c with c | c <;> exact c rfl
    ·simp only [nrm,xdn,reduceIte,Nat.reduceLT,Nat.reduceSub,Nat.reduceAdd];omega
  ·simp only [nrm,xdn,reduceIte,Nat.reduceLT,Nat.reduceSub,Nat.reduceAdd,iT] at hge
   obtain ⟨j,hj,e⟩:=HQ hf
   exact absurd (by rw [← e]) (hno j (by omega))
end Go.Proofs.Ytpmamacjepcdmaa
