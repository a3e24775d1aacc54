import Derived.Test.YtpmamacjepcdmaaCAdded
import Derived.Test.YtpmamacjepcdmaaCAloneDrop
namespace Go.Proofs.Ytpmamacjepcdmaa
open Go Go.Sy Go.RowKit
set_option linter.unusedSimpArgs false
set_option linter.unusedVariables false
theorem GD (l : List Int) : d39.fn [af l,af l]=[.b true]:=by
 show [CD.b (decide _)]=_
 simp
theorem Ht {m : Mem} (hC : aK m) : jM m=(aq m,0):=by
 unfold jM
 rw [if_neg (fun hx=>hx ((rN m).2 hC))]
theorem HO {m : Mem} (h : (jM m).2=0) : aK m∧jM m=(aq m,0):=by
 have hC : aK m:=by
  unfold jM at h
  split at h
  ·rename_i hc;exact absurd h hc
  ·rename_i hc;exact (rN m).1 (Classical.not_not.1 hc)
 exact ⟨hC,Ht hC⟩
theorem GW {m : Mem} {f : Frm} (hm : aZ m) (hf : bV m f) (hk : f.c.kind=2) (hd : ((fun m f=>G3 m f 0) m f).1.done=false) : aZ ((fun m f=>G3 m f 0) m f).2∧bV ((fun m f=>G3 m f 0) m f).2 ((fun m f=>G3 m f 0) m f).1∧((fun m f=>G3 m f 0) m f).1.c.kind=2 :=
 ⟨wE 0 hm hf hk,(ud 0 hm hf hk).ok hf (gW 0 hm hf hk) hd,by rw [(ud 0 hm hf hk).c];exact hk⟩
theorem GP {m : Mem} {f : Frm} (hm : aZ m) (hf : bV m f) (hk : f.c.kind=2) : aZ ((fun m f=>G3 m f 0) m f).2:=wE 0 hm hf hk
def s23 : Sig:=⟨[.agg [.fz kS,.fz kI,.fz kI,.fz kI,.int .i64],.agg [.int .i64,.int .i64],.one (.int .i64)],[.one (.bool)]⟩
def d23 : DC:=⟨s23,fun _=>True,fun _=>[.b true]⟩
def l23 : List (Nat × Ct):=[(71,d71.ct),(106,d106.ct),(52,d52.ct),(62,d62.ct),(41,d41.ct),(107,d107.ct),(39,d39.ct),(59,d59.ct),(75,d75.ct),(93,d93.ct)]
noncomputable def z23 : Cx:={ T:=ttA,C:=sigs l23,F:=[(91,Try.f91),(113,Try.f113),(116,Try.f116),(123,Try.f123),(124,Try.f124),(125,Try.f125),(126,Try.f126),(195,Try.f195),(85,Try.f85)],hints:=[⟨113,3,false,[(12,.lt)],[(2,0,.own 52 kS),(2,1,.own 3 kI),(2,2,.own 3 kI),(2,3,.own 3 kI),(2,4,.lt),(5,0,.lt),(5,1,.lt),(5,2,.lt),(5,3,.lt),(5,4,.lt),(5,5,.lt),(5,6,.lt),(5,7,.lt),(5,8,.lt),(5,9,.lt),(5,10,.lt),(5,11,.fz kK),(5,12,.lt),(5,13,.lt)],[],[],6,0,false⟩,⟨195,2,false,[(8,.lt)],[],[],[],0,0,false⟩,⟨85,2,false,[(8,.lt)],[],[],[],0,0,false⟩],sig:=s23}
def t23 : Tree :=
 (.call 71 [.var 0,.var 1,.var 2,.var 3,.var 4] 8
 (.call 106 [] 10
 (.ite (.not (.var 10))
 (.call 106 [] 11
 (.ret [.var 11]))
 (.ite (.not (.eq (.var 9) (.int 0)))
 (.call 106 [] 11
 (.ret [.var 11]))
 (.call 52 [.var 5,.var 6] 11
 (.ite (.not (.eq (.var 11) (.int 0)))
 (.call 106 [] 12
 (.ret [.var 12]))
 (.ite (.lt (.var 7) (.int 1))
 (.call 106 [] 12
 (.ret [.var 12]))
 (.ite (.lt (.int 1000000) (.var 7))
 (.call 106 [] 12
 (.ret [.var 12]))
 (.loop 12 [.int .i64] [.int 0]
 (.ite (.lt (.var 13) (.len (.var 3)))
 (.need (.le (.int 0) (.var 13))
 (.ite (.not (.eq (.cell (.var 3) (.var 13) 0) (.int (-1))))
 (.ret [.bool true])
 (.need (.fit (.add (.var 13) (.int 1)))
 (.back 12 [.add (.var 13) (.int 1)]))))
 (.call 62 [.var 0,.var 1,.var 2,.var 3,.var 4] 14
 (.need (.fit (.mul (.int 2) (.len (.var 0))))
 (.need (.fit (.add (.mul (.int 2) (.len (.var 0))) (.int 7)))
 (.call 41 [.int 2,.var 5,.var 6,.var 7,.int 0,.int 0] 19
 (.loop 33 [.int .i64,.sl 48 [.int .i64,.int .i64,.int .i64,.int .i64,.bool,.int .i64],.sl 8 [.int .i64],.sl 8 [.int .i64],.sl 8 [.int .i64],.int .i64,.int .i64,.int .i64,.int .i64,.int .i64,.int .i64,.int .i64,.int .i64,.int .i64,.int .i64,.int .i64,.int .i64,.sl 16 [.int .i64,.int .i64],.bool,.int .i64] [.int 0,.var 14,.var 15,.var 16,.var 17,.var 18,.var 19,.var 20,.var 21,.var 22,.var 23,.var 24,.var 25,.var 26,.var 27,.var 28,.var 29,.var 30,.var 31,.var 32]
 (.ite (.lt (.var 34) (.add (.mul (.int 2) (.len (.var 0))) (.int 7)))
 (.call 107 [.var 35,.var 36,.var 37,.var 38,.var 39,.var 40,.var 41,.var 42,.var 43,.var 44,.var 45,.var 46,.var 47,.var 48,.var 49,.var 50,.var 51,.var 52,.var 53,.int 0] 54
 (.ite (.var 71)
 (.call 71 [.var 54,.var 55,.var 56,.var 57,.var 58] 73
 (.ite (.not (.eq (.var 74) (.int 0)))
 (.ret [.bool false])
 (.call 39 [.var 57,.var 3] 75
 (.ite (.not (.var 75))
 (.ret [.bool false])
 (.ite (.eq (.len (.var 2)) (.int 0))
 (.ite (.eq (.var 72) (.int 7))
 (.call 59 [.var 54,.var 55,.var 56,.var 57,.var 58,.var 0,.var 1,.var 2,.var 3,.var 4] 76
 (.ret [.var 76]))
 (.ret [.bool false]))
 (.loop 76 [.int .i64] [.int 0]
 (.ite (.lt (.var 77) (.len (.var 8)))
 (.need (.le (.int 0) (.var 77))
 (.ite (.and (.eq (.cell (.var 8) (.var 77) 0) (.var 5)) (.and (.eq (.cell (.var 8) (.var 77) 1) (.var 6)) (.bool true)))
 (.ite (.eq (.var 72) (.int 6))
 (.call 39 [.var 56,.var 2] 78
 (.ite (.var 78)
 (.call 75 [.var 73,.var 8] 79
 (.ret [.var 79]))
 (.ret [.bool false])))
 (.ret [.bool false]))
 (.need (.fit (.add (.var 77) (.int 1)))
 (.back 76 [.add (.var 77) (.int 1)]))))
 (.ite (.eq (.var 72) (.int 0))
 (.need (.fit (.add (.len (.var 8)) (.int 1)))
 (.ite (.eq (.len (.var 73)) (.add (.len (.var 8)) (.int 1)))
 (.need (.fit (.add (.var 4) (.var 7)))
 (.call 93 [.var 73,.var 5,.var 6,.var 68,.min (.add (.var 4) (.var 7)) (.int 2000000)] 78
 (.ite (.var 78)
 (.loop 79 [.int .i64] [.int 0]
 (.ite (.lt (.var 80) (.len (.var 8)))
 (.need (.le (.int 0) (.var 80))
 (.call 93 [.var 73,.cell (.var 8) (.var 80) 0,.cell (.var 8) (.var 80) 1,.cell (.var 8) (.var 80) 2,.cell (.var 8) (.var 80) 3] 81
 (.ite (.not (.var 81))
 (.ret [.not (.le (.int 0) (.var 80))])
 (.need (.fit (.add (.var 80) (.int 1)))
 (.back 79 [.add (.var 80) (.int 1)])))))
 (.ret [.bool true])))
 (.ret [.bool false]))))
 (.ret [.bool false])))
 (.ret [.bool false])))))))))
 (.need (.fit (.add (.var 34) (.int 1)))
 (.back 33 [.add (.var 34) (.int 1),.var 54,.var 55,.var 56,.var 57,.var 58,.var 59,.var 60,.var 61,.var 62,.var 63,.var 64,.var 65,.var 66,.var 67,.var 68,.var 69,.var 70,.var 71,.var 72]))))
 (.call 71 [.var 35,.var 36,.var 37,.var 38,.var 39] 54
 (.ret [.bool false]))))))))))))))))))
theorem run23 : run z23 6000 [.code (Try.f23.body.getD .skip),.fin (bt z23 Try.f23.results.toList 50)] { fn:=23,tmps:=z23.sig.aM ++ List.replicate (Try.f23.ntmps - z23.sig.aM.length) (.v (.one .undef)),stk:=[],h:=z23.sig.h0,nx:=z23.sig.ins.length,known:=[]}=t23:=by kernel_rfl
theorem ok23 : cB Try.prog 23 d23.ct:=by
 refine aD (d:=d23) (Z:=z23) (Γ:=gam l23) (fn:=Try.f23) (c:=Try.f23.body.getD .skip) (bg tok mixed (all_cons ok71 (all_cons ok106 (all_cons ok52 (all_cons ok62 (all_cons ok41 (all_cons ok107 (all_cons ok39 (all_cons ok59 (all_cons ok75 (all_cons ok93 all_nil)))))))))) (dX (c:=Try.f91.body.getD .skip) Try.func91 (by kernel_rfl) (by kernel_rfl) (dX (c:=Try.f113.body.getD .skip) Try.func113 (by kernel_rfl) (by kernel_rfl) (dX (c:=Try.f116.body.getD .skip) Try.func116 (by kernel_rfl) (by kernel_rfl) (dX (c:=Try.f123.body.getD .skip) Try.func123 (by kernel_rfl) (by kernel_rfl) (dX (c:=Try.f124.body.getD .skip) Try.func124 (by kernel_rfl) (by kernel_rfl) (dX (c:=Try.f125.body.getD .skip) Try.func125 (by kernel_rfl) (by kernel_rfl) (dX (c:=Try.f126.body.getD .skip) Try.func126 (by kernel_rfl) (by kernel_rfl) (dX (c:=Try.f195.body.getD .skip) Try.func195 (by kernel_rfl) (by kernel_rfl) (dX (c:=Try.f85.body.getD .skip) Try.func85 (by kernel_rfl) (by kernel_rfl) bh)))))))))) Try.func23 (by kernel_rfl) (by kernel_rfl) rfl run23 fun E hk hp=>?_
 obtain ⟨hk0,hk1,hk2,hk3,hk4,hk5,hk6,hk7,_⟩:=hk
 obtain ⟨m,e0,e1,e2,e3,e4,b0,b1,b2,b3⟩:=cv (d0:=E 0) (d1:=E 1) (d2:=E 2) (d3:=E 3) (d4:=E 4) hk0 hk1 hk2 hk3 hk4
 obtain ⟨k,e5,e6⟩:=vM (d0:=E 5) (d1:=E 6) hk5 hk6
 obtain ⟨x,e7⟩:=ok_int (d:=E 7) hk7
 have el : aH E d23.sig.ins.length=[au m.slots,af m.heads,af m.free,af m.locks,.i m.now,.i k.a,.i k.b,.i x]:=by
  show [E 0,E 1,E 2,E 3,E 4,E 5,E 6,E 7]=_
  rw [e0,e1,e2,e3,e4,e5,e6,e7]
 rw [el] at hp
 rw [el]
 rw [Env.bJ el]
 clear el e0 e1 e2 e3 e4 e5 e6 e7
 simp only [d23]
 unfold t23
 refine ai d71 [eM (jM m).1,.i (jM m).2] rfl trivial (by simp only [nrm,xdn,reduceIte,Nat.reduceLT,Nat.reduceSub,Nat.reduceAdd,fn71]) ?_
 refine ai d106 [.b true] rfl trivial rfl (Fk rfl (G0 (fun h=>?_) (fun h=>?_)))
 ·refine ai d106 [.b true] rfl trivial rfl (aj ?_)
  simp only [nrm,xdn,reduceIte,Nat.reduceLT,Nat.reduceSub,Nat.reduceAdd]
 simp only [nrm,xdn,reduceIte,Nat.reduceLT,Nat.reduceSub,Nat.reduceAdd,Bool.not_eq_false'] at h
 obtain ⟨hC,hfl⟩:=HO h
 rw [hfl]
 refine ai d52 [.i (checkKey k)] rfl trivial (by simp only [nrm,xdn,reduceIte,Nat.reduceLT,Nat.reduceSub,Nat.reduceAdd,d52,jK,eZ]) (G0 (fun h1=>?_) (fun h1=>?_))
 ·refine ai d106 [.b true] rfl trivial rfl (aj ?_)
  simp only [nrm,xdn,reduceIte,Nat.reduceLT,Nat.reduceSub,Nat.reduceAdd]
 simp only [nrm,xdn,reduceIte,Nat.reduceLT,Nat.reduceSub,Nat.reduceAdd,Bool.not_eq_false'] at h1
 have hK:=(gA k).1 h1
 refine G0 (fun h2=>?_) (fun h2=>G0 (fun h3=>?_) (fun h3=>?_))
 ·refine ai d106 [.b true] rfl trivial rfl (aj ?_)
  simp only [nrm,xdn,reduceIte,Nat.reduceLT,Nat.reduceSub,Nat.reduceAdd]
 ·refine ai d106 [.b true] rfl trivial rfl (aj ?_)
  simp only [nrm,xdn,reduceIte,Nat.reduceLT,Nat.reduceSub,Nat.reduceAdd]
 simp only [nrm,xdn,reduceIte,Nat.reduceLT,Nat.reduceSub,Nat.reduceAdd] at h2 h3
 have hns:=hC.mem.ns
 have hnl:=hC.mem.nl
 have hnh:=hC.mem.nh4
 have hnow0:=hC.mem.ma
 have hnow1:=hC.mem.Ik
 refine bO (fun ds=>∃ j : Nat,ds=[.i j]∧j≤m.locks.length∧∀ i,i < j→m.locks.getD i 0=-1) (fun ds=>m.locks.length - (ds.getD 0 .u).int.toNat) ⟨0,rfl,by omega,fun i hi=>absurd hi (by omega)⟩ ?_
 rintro ds - ⟨j,rfl,hj,hr⟩
 refine G0 (fun hlt=>?_) (fun hge=>?_)
 ·simp only [nrm,xdn,reduceIte,Nat.reduceLT,Nat.reduceSub,Nat.reduceAdd,aw] at hlt
  refine eh (by simp only [nrm,xdn,reduceIte,Nat.reduceLT,Nat.reduceSub,Nat.reduceAdd];omega) (G0 (fun h=>aj ?_) (fun h=>?_))
  ·simp only [nrm,xdn,reduceIte,Nat.reduceLT,Nat.reduceSub,Nat.reduceAdd]
  ·simp only [nrm,xdn,reduceIte,Nat.reduceLT,Nat.reduceSub,Nat.reduceAdd,aG,Int.toNat_natCast,Bool.not_eq_false'] at h
   refine G1 (by simp only [nrm,xdn,reduceIte,Nat.reduceLT,Nat.reduceSub,Nat.reduceAdd];omega) (aV ⟨⟨j + 1,?_,by omega,fun i hi=>?_⟩,?_⟩)
   ·simp only [nrm,xdn,reduceIte,Nat.reduceLT,Nat.reduceSub,Nat.reduceAdd];rfl
   ·by_cases e : i=j
    ·rw [e];exact h
    ·exact hr i (by omega)
   ·simp only [nrm,xdn,reduceIte,Nat.reduceLT,Nat.reduceSub,Nat.reduceAdd];omega
 simp only [nrm,xdn,reduceIte,Nat.reduceLT,Nat.reduceSub,Nat.reduceAdd,aw] at hge
 have hr : ∀ i,i < m.heads.length→m.locks.getD i 0=-1:=fun i hi=>hr i (by omega)
 obtain ⟨g0,x0,hR,yC,hyl,hres⟩:=Cy hC hK (t:=x) (by omega) (by omega) hr
 have hR : bZ (fun m f=>G3 m f 0) (2 * m.slots.length + 7) (aX ⟨2,k,x,0,0⟩) m=(g0,x0,true):=hR
 have hf0 : bV m (aX ⟨2,k,x,0,0⟩):=(mD _ _).1 (by
  have hc : bf m ⟨2,k,x,0,0⟩=0:=by unfold bf;rw [if_neg (by simp),if_pos rfl,if_neg (by show ¬ (x < 1∨1000000 < x);omega)];exact h1
  unfold eO aX
  rw [if_neg (fun z=>z hc),if_neg (by simp only;omega),if_neg (by simp),if_neg (by simp only;omega),if_neg (by simp)])
 refine ai d62 m.cds rfl trivial (by simp only [nrm,xdn,reduceIte,Nat.reduceLT,Nat.reduceSub,Nat.reduceAdd,fn62]) ?_
 refine G1 (by simp only [nrm,xdn,reduceIte,Nat.reduceLT,Nat.reduceSub,Nat.reduceAdd,aN];omega) (G1 (by simp only [nrm,xdn,reduceIte,Nat.reduceLT,Nat.reduceSub,Nat.reduceAdd,aN];omega) ?_)
 refine ai d41 (aX ⟨2,k,x,0,0⟩).cds rfl trivial (by simp only [nrm,xdn,reduceIte,Nat.reduceLT,Nat.reduceSub,Nat.reduceAdd,Gj]) ?_
 refine bO (fun ds=>∃ (i : Nat) (z : Mem) (f : Frm),ds=.i i :: (z.cds ++ f.cds)∧i≤(2 * m.slots.length + 7)∧bZ (fun m f=>G3 m f 0) ((2 * m.slots.length + 7) - i) f z=(g0,x0,true)∧aZ z∧bV z f∧f.c.kind=2) (fun ds=>(2 * m.slots.length + 7) - (ds.getD 0 .u).int.toNat) ⟨0,m,(aX ⟨2,k,x,0,0⟩),?_,by omega,by rw [Nat.sub_zero];exact hR,hC.mem.rJ,hf0,rfl⟩ ?_
 ·simp only [nrm,xdn,reduceIte,Nat.reduceLT,Nat.reduceSub,Nat.reduceAdd,Mem.cds,Frm.cds,lca];rfl
 rintro ds - ⟨i,z,f,rfl,hi,ht,hx,hf,hk⟩
 simp only [Mem.cds,Frm.cds,lca]
 refine G0 (fun hlt=>?_) (fun hge=>?_)
 ·simp only [nrm,xdn,reduceIte,Nat.reduceLT,Nat.reduceSub,Nat.reduceAdd,aN] at hlt
  refine ai d107 (((fun m f=>G3 m f 0) z f).2.cds ++ ((fun m f=>G3 m f 0) z f).1.cds) rfl (by simp only [nrm,xdn,reduceIte,Nat.reduceLT,Nat.reduceSub,Nat.reduceAdd];exact pi107 hx hf hk 0) (by simp only [nrm,xdn,reduceIte,Nat.reduceLT,Nat.reduceSub,Nat.reduceAdd,fn107]) ?_
  have e1 : (2 * m.slots.length + 7) - i=(2 * m.slots.length + 7) - (i + 1) + 1:=by omega
  have hfit:=GW hx hf hk
  have hin:=GP hx hf hk
  rw [e1] at ht
  rcases hs : (fun m f=>G3 m f 0) z f with ⟨g,y⟩
  rw [hs] at hfit hin
  simp only [Mem.cds,Frm.cds,lca]
  refine G0 (fun hd=>?_) (fun hd=>?_)
  ·simp only [nrm,xdn,reduceIte,Nat.reduceLT,Nat.reduceSub,Nat.reduceAdd] at hd
   rw [dm hs hd] at ht
   clear hlt e1 hfit hs hd hx hf hk hi
   obtain ⟨rfl,rfl,-⟩ : g=g0∧y=x0∧True:=by cases ht;exact ⟨rfl,rfl,trivial⟩
   clear hR ht hin
   refine ai d71 [eM (aq y),.i 0] rfl trivial (by simp only [nrm,xdn,reduceIte,Nat.reduceLT,Nat.reduceSub,Nat.reduceAdd,fn71,Ht yC]) (Fk (by simp only [nrm,xdn,reduceIte,Nat.reduceLT,Nat.reduceSub,Nat.reduceAdd];rfl) ?_)
   refine ai d39 [.b true] rfl trivial (by simp only [nrm,xdn,reduceIte,Nat.reduceLT,Nat.reduceSub,Nat.reduceAdd,hyl];exact GD _) (Fk rfl (G0 (fun hfree=>?_) (fun hfree=>?_)))
   ·simp only [nrm,xdn,reduceIte,Nat.reduceLT,Nat.reduceSub,Nat.reduceAdd,aw] at hfree
    rcases hres with ⟨_,r1,r2⟩ | ⟨r0,_⟩ | ⟨r0,_⟩
    ·subst r2
     refine Bf (by simp only [nrm,xdn,reduceIte,Nat.reduceLT,Nat.reduceSub,Nat.reduceAdd];exact r1) (ai d59 [.b true] rfl trivial (by simp only [nrm,xdn,reduceIte,Nat.reduceLT,Nat.reduceSub,Nat.reduceAdd,fn59];simp) (aj ?_))
     simp only [nrm,xdn,reduceIte,Nat.reduceLT,Nat.reduceSub,Nat.reduceAdd]
    ·exact absurd (by omega) r0
    ·exact absurd (by omega) r0
   simp only [nrm,xdn,reduceIte,Nat.reduceLT,Nat.reduceSub,Nat.reduceAdd,aw] at hfree
   have hfl48:=pC hC.mem
   refine bO (fun ds=>∃ j : Nat,ds=[.i j]∧j≤(aq m).length∧∀ i,i < j→((aq m).getD i default).k≠k) (fun ds=>(aq m).length - (ds.getD 0 .u).int.toNat) ⟨0,rfl,by omega,fun i hi=>absurd hi (by omega)⟩ ?_
   rintro ds - ⟨j,rfl,hj,hno⟩
   refine G0 (fun hlt=>?_) (fun hge=>?_)
   ·simp only [nrm,xdn,reduceIte,Nat.reduceLT,Nat.reduceSub,Nat.reduceAdd,iT] at hlt
    refine eh (by simp only [nrm,xdn,reduceIte,Nat.reduceLT,Nat.reduceSub,Nat.reduceAdd];omega) (G0 (fun hk=>?_) (fun hk=>?_))
    ·simp only [nrm,xdn,reduceIte,Nat.reduceLT,Nat.reduceSub,Nat.reduceAdd,Hb,Ha,Int.toNat_natCast] at hk
     replace hk:=AW (j:=((aq m).getD j default).k) (k:=k) hk
     rcases hres with ⟨r0,_⟩ | ⟨_,_,r1,r2,r3⟩ | ⟨_,r0,_⟩
     ·exact absurd (by omega) hfree
     ·refine Bf (by simp only [nrm,xdn,reduceIte,Nat.reduceLT,Nat.reduceSub,Nat.reduceAdd];exact r1) (ai d39 [.b true] rfl trivial (by simp only [nrm,xdn,reduceIte,Nat.reduceLT,Nat.reduceSub,Nat.reduceAdd,r2];exact GD _) (Bf rfl (ai d75 [.b true] rfl trivial (by simp only [nrm,xdn,reduceIte,Nat.reduceLT,Nat.reduceSub,Nat.reduceAdd,r3,d75,G6,decide_true]) (aj ?_))))
      simp only [nrm,xdn,reduceIte,Nat.reduceLT,Nat.reduceSub,Nat.reduceAdd]
     ·exact absurd hk (r0 _ (He (by omega)))
    ·simp only [nrm,xdn,reduceIte,Nat.reduceLT,Nat.reduceSub,Nat.reduceAdd,Hb,Ha,Int.toNat_natCast] at hk
     replace hk:=AY (j:=((aq m).getD j default).k) (k:=k) hk
     refine G1 (by simp only [nrm,xdn,reduceIte,Nat.reduceLT,Nat.reduceSub,Nat.reduceAdd];omega) (aV ⟨⟨j + 1,?_,by omega,fun i hi=>?_⟩,?_⟩)
     ·simp only [nrm,xdn,reduceIte,Nat.reduceLT,Nat.reduceSub,Nat.reduceAdd];rfl
     ·by_cases e : i=j
      ·rw [e];exact hk
      ·exact hno i (by omega)
     ·simp only [nrm,xdn,reduceIte,Nat.reduceLT,Nat.reduceSub,Nat.reduceAdd];omega
   simp only [nrm,xdn,reduceIte,Nat.reduceLT,Nat.reduceSub,Nat.reduceAdd,iT] at hge
   rcases hres with ⟨r0,_⟩ | ⟨_,⟨w,hw,hwk⟩,_⟩ | ⟨_,_,r1,r2,r3,r4⟩
   ·exact absurd (by omega) hfree
   ·obtain ⟨i,hi,e⟩:=HQ hw
    exact absurd (by rw [← e];exact hwk) (hno i (by omega))
   have tl : (if (2000000 : Int) < m.now + x then 2000000 else m.now + x)=da m x:=by unfold da;split <;> split <;> omega
   have hy48:=pC yC.mem
   refine Bf (by simp only [nrm,xdn,reduceIte,Nat.reduceLT,Nat.reduceSub,Nat.reduceAdd];exact r1) (G1 (by simp only [nrm,xdn,reduceIte,Nat.reduceLT,Nat.reduceSub,Nat.reduceAdd,iT];omega) (Bf (by simp only [nrm,xdn,reduceIte,Nat.reduceLT,Nat.reduceSub,Nat.reduceAdd,iT];omega) (G1 (by simp only [nrm,xdn,reduceIte,Nat.reduceLT,Nat.reduceSub,Nat.reduceAdd];omega) ?_)))
   refine ai d93 [.b true] rfl trivial (by simp only [nrm,xdn,reduceIte,Nat.reduceLT,Nat.reduceSub,Nat.reduceAdd,d93,G6,tl];simp only [cI.of,List.drop_succ_cons,List.drop_zero,nrm,xdn,reduceIte,Nat.reduceLT,Nat.reduceSub,Nat.reduceAdd,eZ,r3,decide_true]) (Bf rfl ?_)
   refine bO (fun ds=>∃ j : Nat,ds=[.i j]∧j≤(aq m).length) (fun ds=>(aq m).length - (ds.getD 0 .u).int.toNat) ⟨0,rfl,by omega⟩ ?_
   rintro ds - ⟨j,rfl,hj⟩
   refine G0 (fun hlt=>?_) (fun hge=>aj ?_)
   ·simp only [nrm,xdn,reduceIte,Nat.reduceLT,Nat.reduceSub,Nat.reduceAdd,iT] at hlt
    have hg:=r4 _ (He (l:=aq m) (i:=j) (by omega))
    refine eh (by simp only [nrm,xdn,reduceIte,Nat.reduceLT,Nat.reduceSub,Nat.reduceAdd];omega) (ai d93 [.b true] rfl trivial (by simp only [nrm,xdn,reduceIte,Nat.reduceLT,Nat.reduceSub,Nat.reduceAdd,Int.toNat_natCast,d93,G6,cI.of,List.drop_succ_cons,List.drop_zero,Hb,Ha,Hh,Hx,HX,hg,decide_true]) (Fk rfl (G1 (by simp only [nrm,xdn,reduceIte,Nat.reduceLT,Nat.reduceSub,Nat.reduceAdd];omega) (aV ⟨⟨j + 1,?_,by omega⟩,?_⟩))))
    ·simp only [nrm,xdn,reduceIte,Nat.reduceLT,Nat.reduceSub,Nat.reduceAdd];rfl
    ·simp only [nrm,xdn,reduceIte,Nat.reduceLT,Nat.reduceSub,Nat.reduceAdd];omega
   ·simp only [nrm,xdn,reduceIte,Nat.reduceLT,Nat.reduceSub,Nat.reduceAdd]
  ·simp only [nrm,xdn,reduceIte,Nat.reduceLT,Nat.reduceSub,Nat.reduceAdd] at hd
   rw [bd hs hd] at ht
   refine G1 (by simp only [nrm,xdn,reduceIte,Nat.reduceLT,Nat.reduceSub,Nat.reduceAdd];omega) (aV ⟨⟨i + 1,y,g,?_,by omega,ht,hfit hd⟩,?_⟩)
   ·simp only [nrm,xdn,reduceIte,Nat.reduceLT,Nat.reduceSub,Nat.reduceAdd,Mem.cds,Frm.cds,lca];rfl
   ·simp only [nrm,xdn,reduceIte,Nat.reduceLT,Nat.reduceSub,Nat.reduceAdd];omega
 ·simp only [nrm,xdn,reduceIte,Nat.reduceLT,Nat.reduceSub,Nat.reduceAdd,aN] at hge
  rw [show (2 * m.slots.length + 7) - i=0 from by omega] at ht
  cases ht
end Go.Proofs.Ytpmamacjepcdmaa
