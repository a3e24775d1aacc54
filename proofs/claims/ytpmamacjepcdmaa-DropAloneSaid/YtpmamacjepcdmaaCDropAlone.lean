import Derived.Test.YtpmamacjepcdmaaCDrop2
import Derived.Test.YtpmamacjepcdmaaCAloneDrop
import Derived.Test.YtpmamacjepcdmaaCDelete
namespace Go.Proofs.Ytpmamacjepcdmaa
open Go Go.Sy Go.RowKit
set_option linter.unusedSimpArgs false
set_option linter.unusedVariables false
theorem GD (l : List Int) : d39.fn [af l,af l]=[.b true]:=by
 show [CD.b (decide _)]=_
 simp
theorem Ht {m : Mem} (hC : aK m) : jM m=(aq m,0):=by
 unfold jM
 rw [if_neg (fun hx=>hx ((rN m).2 hC))]
theorem HO {m : Mem} (h : (jM m).2=0) : aK m∧jM m=(aq m,0):=by
 have hC : aK m:=by
  unfold jM at h
  split at h
  ·rename_i hc;exact absurd h hc
  ·rename_i hc;exact (rN m).1 (Classical.not_not.1 hc)
 exact ⟨hC,Ht hC⟩
theorem GO {m : Mem} {f : Frm} (hm : aZ m) (hf : bV m f) (hk : f.c.kind=3) (hd : ((fun m f=>aL m f 0) m f).1.done=false) : aZ ((fun m f=>aL m f 0) m f).2∧bV ((fun m f=>aL m f 0) m f).2 ((fun m f=>aL m f 0) m f).1∧((fun m f=>aL m f 0) m f).1.c.kind=3 :=
 ⟨uy 0 hm hf,(rk 0 hm hf hk).ok hf (gz 0 hm hf hk) hd,by rw [(rk 0 hm hf hk).c];exact hk⟩
theorem Gl {k : Key} : ∀ {l : List cI} {j : Nat},(l.map cI.k).Nodup→j < l.length→(l.getD j default).k=k→l.take j ++ l.drop (j + 1)=l.filter fun w=>decide (w.k≠k)
 | [],j,_,h,_=>absurd h (by simp)
 | w :: l,0,hn,_,h1=>by
  rw [List.map_cons,List.nodup_cons] at hn
  have h1 : w.k=k:=h1
  have hall : l.filter (fun w=>decide (w.k≠k))=l:=List.filter_eq_self.2 fun v hv=>decide_eq_true fun e=>hn.1 (List.mem_map.2 ⟨v,hv,by rw [e,h1]⟩)
  rw [List.take_zero,List.nil_append,List.drop_one,List.tail_cons,List.filter_cons_of_neg (by simp [h1]),hall]
 | w :: l,j + 1,hn,h,h1=>by
  rw [List.map_cons,List.nodup_cons] at hn
  have h1 : (l.getD j default).k=k:=by simpa using h1
  have h : j < l.length:=by simpa using h
  have h0 : w.k≠k:=fun e=>hn.1 (List.mem_map.2 ⟨_,He h,by rw [h1,e]⟩)
  rw [List.take_succ_cons,List.drop_succ_cons,List.cons_append,List.filter_cons_of_pos (by simpa using h0),Gl hn.2 h h1]
theorem GU (l : List cI) (i j : Int) : d120.fn [eM l,.i i,.i j]=[eM (l.take i.toNat ++ l.drop j.toNat)]:=by
 simp only [d120,List.getD_cons_zero,List.getD_cons_succ,CD.aR,G6]
theorem GS (l : List cI) : d121.fn [eM l]=[eM l]:=by
 simp only [d121,List.getD_cons_zero,G6]
def s21 : Sig:=⟨[.agg [.fz kS,.fz kI,.fz kI,.fz kI,.int .i64],.agg [.int .i64,.int .i64]],[.one (.bool)]⟩
def d21 : DC:=⟨s21,fun _=>True,fun _=>[.b true]⟩
def l21 : List (Nat × Ct):=[(71,d71.ct),(103,d103.ct),(52,d52.ct),(62,d62.ct),(41,d41.ct),(104,d104.ct),(39,d39.ct),(59,d59.ct),(121,d121.ct),(120,d120.ct),(75,d75.ct)]
noncomputable def z21 : Cx:={ T:=ttA,C:=sigs l21,F:=[(85,Try.f85),(113,Try.f113),(116,Try.f116),(117,Try.f117),(118,Try.f118),(119,Try.f119),(195,Try.f195)],hints:=[⟨113,3,false,[(12,.lt)],[(2,0,.own 52 kS),(2,1,.own 3 kI),(2,2,.own 3 kI),(2,3,.own 3 kI),(2,4,.lt),(5,0,.lt),(5,1,.lt),(5,2,.lt),(5,3,.lt),(5,4,.lt),(5,5,.lt),(5,6,.lt),(5,7,.lt),(5,8,.lt),(5,9,.lt),(5,10,.lt),(5,11,.fz kK),(5,12,.lt),(5,13,.lt)],[],[],6,0,false⟩,⟨85,2,false,[(8,.lt)],[],[],[],0,0,false⟩,⟨195,2,false,[(8,.lt)],[],[],[],0,0,false⟩],sig:=s21}
def t21 : Tree :=
 (.call 71 [.var 0,.var 1,.var 2,.var 3,.var 4] 7
 (.call 103 [] 9
 (.ite (.not (.var 9))
 (.call 103 [] 10
 (.ret [.var 10]))
 (.ite (.not (.eq (.var 8) (.int 0)))
 (.call 103 [] 10
 (.ret [.var 10]))
 (.call 52 [.var 5,.var 6] 10
 (.ite (.not (.eq (.var 10) (.int 0)))
 (.call 103 [] 11
 (.ret [.var 11]))
 (.loop 11 [.int .i64] [.int 0]
 (.ite (.lt (.var 12) (.len (.var 3)))
 (.need (.le (.int 0) (.var 12))
 (.ite (.not (.eq (.cell (.var 3) (.var 12) 0) (.int (-1))))
 (.ret [.bool true])
 (.need (.fit (.add (.var 12) (.int 1)))
 (.back 11 [.add (.var 12) (.int 1)]))))
 (.call 62 [.var 0,.var 1,.var 2,.var 3,.var 4] 13
 (.need (.fit (.mul (.int 2) (.len (.var 0))))
 (.need (.fit (.add (.mul (.int 2) (.len (.var 0))) (.int 6)))
 (.call 41 [.int 3,.var 5,.var 6,.int 0,.int 0,.int 0] 18
 (.loop 32 [.int .i64,.sl 48 [.int .i64,.int .i64,.int .i64,.int .i64,.bool,.int .i64],.sl 8 [.int .i64],.sl 8 [.int .i64],.sl 8 [.int .i64],.int .i64,.int .i64,.int .i64,.int .i64,.int .i64,.int .i64,.int .i64,.int .i64,.int .i64,.int .i64,.int .i64,.int .i64,.sl 16 [.int .i64,.int .i64],.bool,.int .i64] [.int 0,.var 13,.var 14,.var 15,.var 16,.var 17,.var 18,.var 19,.var 20,.var 21,.var 22,.var 23,.var 24,.var 25,.var 26,.var 27,.var 28,.var 29,.var 30,.var 31]
 (.ite (.lt (.var 33) (.add (.mul (.int 2) (.len (.var 0))) (.int 6)))
 (.call 104 [.var 34,.var 35,.var 36,.var 37,.var 38,.var 39,.var 40,.var 41,.var 42,.var 43,.var 44,.var 45,.var 46,.var 47,.var 48,.var 49,.var 50,.var 51,.var 52,.int 0] 53
 (.ite (.var 70)
 (.call 71 [.var 53,.var 54,.var 55,.var 56,.var 57] 72
 (.ite (.not (.eq (.var 73) (.int 0)))
 (.ret [.bool false])
 (.call 39 [.var 56,.var 3] 74
 (.ite (.not (.var 74))
 (.ret [.bool false])
 (.loop 75 [.int .i64] [.int 0]
 (.ite (.lt (.var 76) (.len (.var 7)))
 (.need (.le (.int 0) (.var 76))
 (.ite (.and (.eq (.cell (.var 7) (.var 76) 0) (.var 5)) (.and (.eq (.cell (.var 7) (.var 76) 1) (.var 6)) (.bool true)))
 (.ite (.lt (.var 76) (.int 0))
 (.ite (.eq (.var 71) (.int 5))
 (.call 59 [.var 53,.var 54,.var 55,.var 56,.var 57,.var 0,.var 1,.var 2,.var 3,.var 4] 77
 (.ret [.var 77]))
 (.ret [.bool false]))
 (.ite (.eq (.var 71) (.int 0))
 (.both
 (.need (.le (.int 0) (.cell (.var 7) (.var 76) 2))
 (.need (.lt (.cell (.var 7) (.var 76) 2) (.len (.var 53)))
 (.need (.lt (.cell (.var 7) (.var 76) 2) (.len (.var 0)))
 (.need (.fit (.sub (.cell (.var 0) (.cell (.var 7) (.var 76) 2) 0) (.int 1)))
 (.ite (.eq (.cell (.var 53) (.cell (.var 7) (.var 76) 2) 0) (.sub (.cell (.var 0) (.cell (.var 7) (.var 76) 2) 0) (.int 1)))
 (.need (.fit (.add (.var 76) (.int 1)))
 (.call 121 [.var 7] 77
 (.call 120 [.var 77,.var 76,.add (.var 76) (.int 1)] 78
 (.call 75 [.var 72,.var 78] 79
 (.ret [.var 79])))))
 (.ret [.bool false]))))))
 (.need (.le (.int 0) (.cell (.var 7) (.var 76) 2))
 (.need (.lt (.cell (.var 7) (.var 76) 2) (.len (.var 0)))
 (.both
 (.need (.lt (.cell (.var 7) (.var 76) 2) (.len (.var 53)))
 (.need (.fit (.sub (.cell (.var 0) (.cell (.var 7) (.var 76) 2) 0) (.int 1)))
 (.ite (.eq (.cell (.var 53) (.cell (.var 7) (.var 76) 2) 0) (.sub (.cell (.var 0) (.cell (.var 7) (.var 76) 2) 0) (.int 1)))
 (.need (.fit (.add (.var 76) (.int 1)))
 (.call 121 [.var 7] 77
 (.call 120 [.var 77,.var 76,.add (.var 76) (.int 1)] 78
 (.call 75 [.var 72,.var 78] 79
 (.ret [.var 79])))))
 (.ret [.bool false]))))
 (.need (.fit (.sub (.cell (.var 0) (.cell (.var 7) (.var 76) 2) 0) (.int 1)))
 (.need (.lt (.cell (.var 7) (.var 76) 2) (.len (.var 53)))
 (.ite (.eq (.cell (.var 53) (.cell (.var 7) (.var 76) 2) 0) (.sub (.cell (.var 0) (.cell (.var 7) (.var 76) 2) 0) (.int 1)))
 (.need (.fit (.add (.var 76) (.int 1)))
 (.call 121 [.var 7] 77
 (.call 120 [.var 77,.var 76,.add (.var 76) (.int 1)] 78
 (.call 75 [.var 72,.var 78] 79
 (.ret [.var 79])))))
 (.ret [.bool false]))))))))
 (.ret [.bool false])))
 (.need (.fit (.add (.var 76) (.int 1)))
 (.back 75 [.add (.var 76) (.int 1)]))))
 (.ite (.eq (.var 71) (.int 5))
 (.call 59 [.var 53,.var 54,.var 55,.var 56,.var 57,.var 0,.var 1,.var 2,.var 3,.var 4] 77
 (.ret [.var 77]))
 (.ret [.bool false]))))))))
 (.need (.fit (.add (.var 33) (.int 1)))
 (.back 32 [.add (.var 33) (.int 1),.var 53,.var 54,.var 55,.var 56,.var 57,.var 58,.var 59,.var 60,.var 61,.var 62,.var 63,.var 64,.var 65,.var 66,.var 67,.var 68,.var 69,.var 70,.var 71]))))
 (.call 71 [.var 34,.var 35,.var 36,.var 37,.var 38] 53
 (.ret [.bool false]))))))))))))))))
theorem run21 : run z21 6000 [.code (Try.f21.body.getD .skip),.fin (bt z21 Try.f21.results.toList 50)] { fn:=21,tmps:=z21.sig.aM ++ List.replicate (Try.f21.ntmps - z21.sig.aM.length) (.v (.one .undef)),stk:=[],h:=z21.sig.h0,nx:=z21.sig.ins.length,known:=[]}=t21:=by kernel_rfl
theorem ok21 : cB Try.prog 21 d21.ct:=by
 refine aD (d:=d21) (Z:=z21) (Γ:=gam l21) (fn:=Try.f21) (c:=Try.f21.body.getD .skip) (bg tok mixed (all_cons ok71 (all_cons ok103 (all_cons ok52 (all_cons ok62 (all_cons ok41 (all_cons ok104 (all_cons ok39 (all_cons ok59 (all_cons ok121 (all_cons ok120 (all_cons ok75 all_nil))))))))))) (dX (c:=Try.f85.body.getD .skip) Try.func85 (by kernel_rfl) (by kernel_rfl) (dX (c:=Try.f113.body.getD .skip) Try.func113 (by kernel_rfl) (by kernel_rfl) (dX (c:=Try.f116.body.getD .skip) Try.func116 (by kernel_rfl) (by kernel_rfl) (dX (c:=Try.f117.body.getD .skip) Try.func117 (by kernel_rfl) (by kernel_rfl) (dX (c:=Try.f118.body.getD .skip) Try.func118 (by kernel_rfl) (by kernel_rfl) (dX (c:=Try.f119.body.getD .skip) Try.func119 (by kernel_rfl) (by kernel_rfl) (dX (c:=Try.f195.body.getD .skip) Try.func195 (by kernel_rfl) (by kernel_rfl) bh)))))))) Try.func21 (by kernel_rfl) (by kernel_rfl) rfl run21 fun E hk hp=>?_
 obtain ⟨hk0,hk1,hk2,hk3,hk4,hk5,hk6,_⟩:=hk
 obtain ⟨m,e0,e1,e2,e3,e4,b0,b1,b2,b3⟩:=cv (d0:=E 0) (d1:=E 1) (d2:=E 2) (d3:=E 3) (d4:=E 4) hk0 hk1 hk2 hk3 hk4
 obtain ⟨k,e5,e6⟩:=vM (d0:=E 5) (d1:=E 6) hk5 hk6
 have el : aH E d21.sig.ins.length=[au m.slots,af m.heads,af m.free,af m.locks,.i m.now,.i k.a,.i k.b]:=by
  show [E 0,E 1,E 2,E 3,E 4,E 5,E 6]=_
  rw [e0,e1,e2,e3,e4,e5,e6]
 rw [el] at hp
 rw [el]
 rw [Env.bJ el]
 clear el e0 e1 e2 e3 e4 e5 e6
 simp only [d21]
 unfold t21
 refine ai d71 [eM (jM m).1,.i (jM m).2] rfl trivial (by simp only [nrm,xdn,reduceIte,Nat.reduceLT,Nat.reduceSub,Nat.reduceAdd,fn71]) ?_
 refine ai d103 [.b true] rfl trivial rfl (Fk rfl (G0 (fun h=>?_) (fun h=>?_)))
 ·refine ai d103 [.b true] rfl trivial rfl (aj ?_)
  simp only [nrm,xdn,reduceIte,Nat.reduceLT,Nat.reduceSub,Nat.reduceAdd]
 simp only [nrm,xdn,reduceIte,Nat.reduceLT,Nat.reduceSub,Nat.reduceAdd,Bool.not_eq_false'] at h
 obtain ⟨hC,hfl⟩:=HO h
 rw [hfl]
 refine ai d52 [.i (checkKey k)] rfl trivial (by simp only [nrm,xdn,reduceIte,Nat.reduceLT,Nat.reduceSub,Nat.reduceAdd,d52,jK,eZ]) (G0 (fun h1=>?_) (fun h1=>?_))
 ·refine ai d103 [.b true] rfl trivial rfl (aj ?_)
  simp only [nrm,xdn,reduceIte,Nat.reduceLT,Nat.reduceSub,Nat.reduceAdd]
 simp only [nrm,xdn,reduceIte,Nat.reduceLT,Nat.reduceSub,Nat.reduceAdd,Bool.not_eq_false'] at h1
 have hK:=(gA k).1 h1
 have hns:=hC.mem.ns
 have hnl:=hC.mem.nl
 have hnh:=hC.mem.nh4
 refine bO (fun ds=>∃ j : Nat,ds=[.i j]∧j≤m.locks.length∧∀ i,i < j→m.locks.getD i 0=-1) (fun ds=>m.locks.length - (ds.getD 0 .u).int.toNat) ⟨0,rfl,by omega,fun i hi=>absurd hi (by omega)⟩ ?_
 rintro ds - ⟨j,rfl,hj,hr⟩
 refine G0 (fun hlt=>?_) (fun hge=>?_)
 ·simp only [nrm,xdn,reduceIte,Nat.reduceLT,Nat.reduceSub,Nat.reduceAdd,aw] at hlt
  refine eh (by simp only [nrm,xdn,reduceIte,Nat.reduceLT,Nat.reduceSub,Nat.reduceAdd];omega) (G0 (fun h=>aj ?_) (fun h=>?_))
  ·simp only [nrm,xdn,reduceIte,Nat.reduceLT,Nat.reduceSub,Nat.reduceAdd]
  ·simp only [nrm,xdn,reduceIte,Nat.reduceLT,Nat.reduceSub,Nat.reduceAdd,aG,Int.toNat_natCast,Bool.not_eq_false'] at h
   refine G1 (by simp only [nrm,xdn,reduceIte,Nat.reduceLT,Nat.reduceSub,Nat.reduceAdd];omega) (aV ⟨⟨j + 1,?_,by omega,fun i hi=>?_⟩,?_⟩)
   ·simp only [nrm,xdn,reduceIte,Nat.reduceLT,Nat.reduceSub,Nat.reduceAdd];rfl
   ·by_cases e : i=j
    ·rw [e];exact h
    ·exact hr i (by omega)
   ·simp only [nrm,xdn,reduceIte,Nat.reduceLT,Nat.reduceSub,Nat.reduceAdd];omega
 simp only [nrm,xdn,reduceIte,Nat.reduceLT,Nat.reduceSub,Nat.reduceAdd,aw] at hge
 have hr : ∀ i,i < m.heads.length→m.locks.getD i 0=-1:=fun i hi=>hr i (by omega)
 obtain ⟨g0,x0,hR,yC,hyl,hys,hres⟩:=zT hC hK hr
 have hR : bZ (fun m f=>aL m f 0) (2 * m.slots.length + 6) (aX ⟨3,k,0,0,0⟩) m=(g0,x0,true):=hR
 have hf0 : bV m (aX ⟨3,k,0,0,0⟩):=(mD _ _).1 (by
  have hc : bf m ⟨3,k,0,0,0⟩=0:=by unfold bf;rw [if_pos (by simp)];exact h1
  unfold eO aX
  rw [if_neg (fun z=>z hc),if_neg (by simp only;omega),if_neg (by simp),if_neg (by simp only;omega),if_neg (by simp)])
 refine ai d62 m.cds rfl trivial (by simp only [nrm,xdn,reduceIte,Nat.reduceLT,Nat.reduceSub,Nat.reduceAdd,fn62]) ?_
 refine G1 (by simp only [nrm,xdn,reduceIte,Nat.reduceLT,Nat.reduceSub,Nat.reduceAdd,aN];omega) (G1 (by simp only [nrm,xdn,reduceIte,Nat.reduceLT,Nat.reduceSub,Nat.reduceAdd,aN];omega) ?_)
 refine ai d41 (aX ⟨3,k,0,0,0⟩).cds rfl trivial (by simp only [nrm,xdn,reduceIte,Nat.reduceLT,Nat.reduceSub,Nat.reduceAdd,Gj]) ?_
 refine bO (fun ds=>∃ (i : Nat) (z : Mem) (f : Frm),ds=.i i :: (z.cds ++ f.cds)∧i≤(2 * m.slots.length + 6)∧bZ (fun m f=>aL m f 0) ((2 * m.slots.length + 6) - i) f z=(g0,x0,true)∧aZ z∧bV z f∧f.c.kind=3) (fun ds=>(2 * m.slots.length + 6) - (ds.getD 0 .u).int.toNat) ⟨0,m,(aX ⟨3,k,0,0,0⟩),?_,by omega,by rw [Nat.sub_zero];exact hR,hC.mem.rJ,hf0,rfl⟩ ?_
 ·simp only [nrm,xdn,reduceIte,Nat.reduceLT,Nat.reduceSub,Nat.reduceAdd,Mem.cds,Frm.cds,lca];rfl
 rintro ds - ⟨i,z,f,rfl,hi,ht,hx,hf,hk⟩
 simp only [Mem.cds,Frm.cds,lca]
 refine G0 (fun hlt=>?_) (fun hge=>?_)
 ·simp only [nrm,xdn,reduceIte,Nat.reduceLT,Nat.reduceSub,Nat.reduceAdd,aN] at hlt
  refine ai d104 (((fun m f=>aL m f 0) z f).2.cds ++ ((fun m f=>aL m f 0) z f).1.cds) rfl (by simp only [nrm,xdn,reduceIte,Nat.reduceLT,Nat.reduceSub,Nat.reduceAdd];exact pi104 hx hf hk 0) (by simp only [nrm,xdn,reduceIte,Nat.reduceLT,Nat.reduceSub,Nat.reduceAdd,fn104]) ?_
  have e1 : (2 * m.slots.length + 6) - i=(2 * m.slots.length + 6) - (i + 1) + 1:=by omega
  have hfit:=GO hx hf hk
  rw [e1] at ht
  rcases hs : (fun m f=>aL m f 0) z f with ⟨g,y⟩
  rw [hs] at hfit
  simp only [Mem.cds,Frm.cds,lca]
  refine G0 (fun hd=>?_) (fun hd=>?_)
  ·simp only [nrm,xdn,reduceIte,Nat.reduceLT,Nat.reduceSub,Nat.reduceAdd] at hd
   rw [dm hs hd] at ht
   clear hlt e1 hfit hs hd hx hf hk hi
   obtain ⟨rfl,rfl,-⟩ : g=g0∧y=x0∧True:=by cases ht;exact ⟨rfl,rfl,trivial⟩
   clear hR ht
   refine ai d71 [eM (aq y),.i 0] rfl trivial (by simp only [nrm,xdn,reduceIte,Nat.reduceLT,Nat.reduceSub,Nat.reduceAdd,fn71,Ht yC]) (Fk (by simp only [nrm,xdn,reduceIte,Nat.reduceLT,Nat.reduceSub,Nat.reduceAdd];rfl) ?_)
   refine ai d39 [.b true] rfl trivial (by simp only [nrm,xdn,reduceIte,Nat.reduceLT,Nat.reduceSub,Nat.reduceAdd,hyl];exact GD _) (Fk rfl ?_)
   have hfl48:=pC hC.mem
   refine bO (fun ds=>∃ j : Nat,ds=[.i j]∧j≤(aq m).length∧∀ i,i < j→((aq m).getD i default).k≠k) (fun ds=>(aq m).length - (ds.getD 0 .u).int.toNat) ⟨0,rfl,by omega,fun i hi=>absurd hi (by omega)⟩ ?_
   rintro ds - ⟨j,rfl,hj,hno⟩
   refine G0 (fun hlt=>?_) (fun hge=>?_)
   ·simp only [nrm,xdn,reduceIte,Nat.reduceLT,Nat.reduceSub,Nat.reduceAdd,iT] at hlt
    have hjl : j < (aq m).length:=by omega
    refine eh (by simp only [nrm,xdn,reduceIte,Nat.reduceLT,Nat.reduceSub,Nat.reduceAdd];omega) (G0 (fun hk=>?_) (fun hk=>?_))
    ·simp only [nrm,xdn,reduceIte,Nat.reduceLT,Nat.reduceSub,Nat.reduceAdd,Hb,Ha,Int.toNat_natCast] at hk
     replace hk:=AW (j:=((aq m).getD j default).k) (k:=k) hk
     have hw:=He hjl
     rcases hres with ⟨r0,_⟩ | ⟨_,r1,r2,r3⟩
     ·exact absurd hk (r0 _ hw)
     have r3':=r3 _ hw hk
     obtain ⟨w1,w2,_⟩:=jj hC hw
     have hq:=hC.mem.refs w1 w2
     have hq0 : (m.slots.getD ((aq m).getD j default).slot.toNat default)=msl m ((aq m).getD j default).slot.toNat:=rfl
     have hq1 : (y.slots.getD ((aq m).getD j default).slot.toNat default).refs=(msl m ((aq m).getD j default).slot.toNat).refs - 1:=r3'
     refine Fk (by simp only [nrm,xdn,reduceIte,Nat.reduceLT,Nat.reduceSub,Nat.reduceAdd];omega) (Bf (by simp only [nrm,xdn,reduceIte,Nat.reduceLT,Nat.reduceSub,Nat.reduceAdd];exact r1) ⟨?_,?_⟩)
     ·
      refine ag (by simp only [nrm,xdn,reduceIte,Nat.reduceLT,Nat.reduceSub,Nat.reduceAdd,Hh,Int.toNat_natCast];omega) ?_
      refine ag (by simp only [nrm,xdn,reduceIte,Nat.reduceLT,Nat.reduceSub,Nat.reduceAdd,Hh,Int.toNat_natCast,aN];omega) ?_
      refine ag (by simp only [nrm,xdn,reduceIte,Nat.reduceLT,Nat.reduceSub,Nat.reduceAdd,Hh,Int.toNat_natCast,aN];omega) ?_
      refine G1 (by simp only [nrm,xdn,reduceIte,Nat.reduceLT,Nat.reduceSub,Nat.reduceAdd,Hh,cX,Int.toNat_natCast,hq0];omega) ?_
      refine Bf (by simp only [nrm,xdn,reduceIte,Nat.reduceLT,Nat.reduceSub,Nat.reduceAdd,Hh,cX,Int.toNat_natCast,hq0,hq1]) ?_
      refine G1 (by simp only [nrm,xdn,reduceIte,Nat.reduceLT,Nat.reduceSub,Nat.reduceAdd];omega) (ai d121 [eM (aq m)] rfl trivial (by simp only [nrm,xdn,reduceIte,Nat.reduceLT,Nat.reduceSub,Nat.reduceAdd,GS]) ?_)
      refine ai d120 [eM ((aq m).filter fun w=>decide (w.k≠k))] rfl (by simp only [nrm,xdn,reduceIte,Nat.reduceLT,Nat.reduceSub,Nat.reduceAdd,d120,G6];omega) (by simp only [nrm,xdn,reduceIte,Nat.reduceLT,Nat.reduceSub,Nat.reduceAdd,GU,Int.toNat_natCast];rw [show ((j : Int) + 1).toNat=j + 1 from by omega,Gl (DS hC) (by omega) hk]) ?_
      refine ai d75 [.b true] rfl trivial (by simp only [nrm,xdn,reduceIte,Nat.reduceLT,Nat.reduceSub,Nat.reduceAdd,d75,G6,r2,decide_true]) (aj ?_)
      simp only [nrm,xdn,reduceIte,Nat.reduceLT,Nat.reduceSub,Nat.reduceAdd]
     ·
      refine ag (by simp only [nrm,xdn,reduceIte,Nat.reduceLT,Nat.reduceSub,Nat.reduceAdd,Hh,Int.toNat_natCast];omega) ?_
      refine ag (by simp only [nrm,xdn,reduceIte,Nat.reduceLT,Nat.reduceSub,Nat.reduceAdd,Hh,Int.toNat_natCast,aN];omega) ?_
      refine ⟨?_,?_⟩
      ·
       refine ag (by simp only [nrm,xdn,reduceIte,Nat.reduceLT,Nat.reduceSub,Nat.reduceAdd,Hh,Int.toNat_natCast,aN];omega) ?_
       refine G1 (by simp only [nrm,xdn,reduceIte,Nat.reduceLT,Nat.reduceSub,Nat.reduceAdd,Hh,cX,Int.toNat_natCast,hq0];omega) ?_
       refine Bf (by simp only [nrm,xdn,reduceIte,Nat.reduceLT,Nat.reduceSub,Nat.reduceAdd,Hh,cX,Int.toNat_natCast,hq0,hq1]) ?_
       refine G1 (by simp only [nrm,xdn,reduceIte,Nat.reduceLT,Nat.reduceSub,Nat.reduceAdd];omega) (ai d121 [eM (aq m)] rfl trivial (by simp only [nrm,xdn,reduceIte,Nat.reduceLT,Nat.reduceSub,Nat.reduceAdd,GS]) ?_)
       refine ai d120 [eM ((aq m).filter fun w=>decide (w.k≠k))] rfl (by simp only [nrm,xdn,reduceIte,Nat.reduceLT,Nat.reduceSub,Nat.reduceAdd,d120,G6];omega) (by simp only [nrm,xdn,reduceIte,Nat.reduceLT,Nat.reduceSub,Nat.reduceAdd,GU,Int.toNat_natCast];rw [show ((j : Int) + 1).toNat=j + 1 from by omega,Gl (DS hC) (by omega) hk]) ?_
       refine ai d75 [.b true] rfl trivial (by simp only [nrm,xdn,reduceIte,Nat.reduceLT,Nat.reduceSub,Nat.reduceAdd,d75,G6,r2,decide_true]) (aj ?_)
       simp only [nrm,xdn,reduceIte,Nat.reduceLT,Nat.reduceSub,Nat.reduceAdd]
      ·
       refine G1 (by simp only [nrm,xdn,reduceIte,Nat.reduceLT,Nat.reduceSub,Nat.reduceAdd,Hh,cX,Int.toNat_natCast,hq0];omega) ?_
       refine ag (by simp only [nrm,xdn,reduceIte,Nat.reduceLT,Nat.reduceSub,Nat.reduceAdd,Hh,Int.toNat_natCast,aN];omega) ?_
       refine Bf (by simp only [nrm,xdn,reduceIte,Nat.reduceLT,Nat.reduceSub,Nat.reduceAdd,Hh,cX,Int.toNat_natCast,hq0,hq1]) ?_
       refine G1 (by simp only [nrm,xdn,reduceIte,Nat.reduceLT,Nat.reduceSub,Nat.reduceAdd];omega) (ai d121 [eM (aq m)] rfl trivial (by simp only [nrm,xdn,reduceIte,Nat.reduceLT,Nat.reduceSub,Nat.reduceAdd,GS]) ?_)
       refine ai d120 [eM ((aq m).filter fun w=>decide (w.k≠k))] rfl (by simp only [nrm,xdn,reduceIte,Nat.reduceLT,Nat.reduceSub,Nat.reduceAdd,d120,G6];omega) (by simp only [nrm,xdn,reduceIte,Nat.reduceLT,Nat.reduceSub,Nat.reduceAdd,GU,Int.toNat_natCast];rw [show ((j : Int) + 1).toNat=j + 1 from by omega,Gl (DS hC) (by omega) hk]) ?_
       refine ai d75 [.b true] rfl trivial (by simp only [nrm,xdn,reduceIte,Nat.reduceLT,Nat.reduceSub,Nat.reduceAdd,d75,G6,r2,decide_true]) (aj ?_)
       simp only [nrm,xdn,reduceIte,Nat.reduceLT,Nat.reduceSub,Nat.reduceAdd]
    ·simp only [nrm,xdn,reduceIte,Nat.reduceLT,Nat.reduceSub,Nat.reduceAdd,Hb,Ha,Int.toNat_natCast] at hk
     replace hk:=AY (j:=((aq m).getD j default).k) (k:=k) hk
     refine G1 (by simp only [nrm,xdn,reduceIte,Nat.reduceLT,Nat.reduceSub,Nat.reduceAdd];omega) (aV ⟨⟨j + 1,?_,by omega,fun i hi=>?_⟩,?_⟩)
     ·simp only [nrm,xdn,reduceIte,Nat.reduceLT,Nat.reduceSub,Nat.reduceAdd];rfl
     ·by_cases e : i=j
      ·rw [e];exact hk
      ·exact hno i (by omega)
     ·simp only [nrm,xdn,reduceIte,Nat.reduceLT,Nat.reduceSub,Nat.reduceAdd];omega
   simp only [nrm,xdn,reduceIte,Nat.reduceLT,Nat.reduceSub,Nat.reduceAdd,iT] at hge
   rcases hres with ⟨_,r1,r2⟩ | ⟨⟨w,hw,hwk⟩,_⟩
   ·subst r2
    refine Bf (by simp only [nrm,xdn,reduceIte,Nat.reduceLT,Nat.reduceSub,Nat.reduceAdd];exact r1) (ai d59 [.b true] rfl trivial (by simp only [nrm,xdn,reduceIte,Nat.reduceLT,Nat.reduceSub,Nat.reduceAdd,fn59];simp) (aj ?_))
    simp only [nrm,xdn,reduceIte,Nat.reduceLT,Nat.reduceSub,Nat.reduceAdd]
   ·obtain ⟨i,hi,e⟩:=HQ hw
    exact absurd (by rw [← e];exact hwk) (hno i (by omega))
  ·simp only [nrm,xdn,reduceIte,Nat.reduceLT,Nat.reduceSub,Nat.reduceAdd] at hd
   rw [bd hs hd] at ht
   refine G1 (by simp only [nrm,xdn,reduceIte,Nat.reduceLT,Nat.reduceSub,Nat.reduceAdd];omega) (aV ⟨⟨i + 1,y,g,?_,by omega,ht,hfit hd⟩,?_⟩)
   ·simp only [nrm,xdn,reduceIte,Nat.reduceLT,Nat.reduceSub,Nat.reduceAdd,Mem.cds,Frm.cds,lca];rfl
   ·simp only [nrm,xdn,reduceIte,Nat.reduceLT,Nat.reduceSub,Nat.reduceAdd];omega
 ·simp only [nrm,xdn,reduceIte,Nat.reduceLT,Nat.reduceSub,Nat.reduceAdd,aN] at hge
  rw [show (2 * m.slots.length + 6) - i=0 from by omega] at ht
  cases ht
end Go.Proofs.Ytpmamacjepcdmaa
