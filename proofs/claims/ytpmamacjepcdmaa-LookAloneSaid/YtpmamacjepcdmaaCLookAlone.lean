import Derived.Test.YtpmamacjepcdmaaCLooked
import Derived.Test.YtpmamacjepcdmaaCAlone
namespace Go.Proofs.Ytpmamacjepcdmaa
open Go Go.Sy Go.RowKit
set_option linter.unusedSimpArgs false
set_option linter.unusedVariables false
theorem HO {m : Mem} (h : (jM m).2=0) : aK m∧jM m=(aq m,0):=by
 unfold jM at h ⊢
 split at h
 ·rename_i hc;exact absurd h hc
 ·rename_i hc
  have hc : bU m=0:=Classical.not_not.1 hc
  exact ⟨(rN m).1 hc,by rw [if_neg (fun x=>x hc)]⟩
theorem GR {m : Mem} (hm : bB m) {a : Int} (h0 : 0≤a) (h1 : a < m.slots.length) (hr : 1≤(msl m a.toNat).refs) (h2 : (msl m a.toNat).refs≠1000) : Gt (hold m a).1 a=(m,0):=by
 have hx:=we hm h0 h1
 have hl:=(pv m a).1
 have e : (msl (hold m a).1 a.toNat).refs=(msl m a.toNat).refs + 1:=by
  have e : hold m a=(cm m a.toNat (bx 1) m.free,true):=by unfold hold;rw [if_neg (by omega)];rfl
  rw [e];show (msl (cm m a.toNat (bx 1) m.free) a.toNat).refs=_;rw [gJ,if_pos ⟨rfl,by omega⟩];rfl
 unfold Gt
 rw [if_neg (fun x=>x ((dT _).2 hx)),if_pos ⟨h0,by rw [hl];exact h1⟩,if_neg (by rw [e];omega),C6 h0 h1 hr h2]
def s20 : Sig:=⟨[.agg [.fz kS,.fz kI,.fz kI,.fz kI,.int .i64],.agg [.int .i64,.int .i64]],[.one (.bool)]⟩
def d20 : DC:=⟨s20,fun _=>True,fun _=>[.b true]⟩
def l20 : List (Nat × Ct):=[(71,d71.ct),(99,d99.ct),(52,d52.ct),(62,d62.ct),(41,d41.ct),(101,d101.ct),(59,d59.ct),(64,d64.ct)]
noncomputable def z20 : Cx:={ T:=ttA,C:=sigs l20,F:=[(55,Try.f55),(163,Try.f163),(112,Try.f112),(113,Try.f113),(114,Try.f114),(85,Try.f85),(115,Try.f115)],hints:=[⟨113,3,false,[(12,.lt)],[(2,0,.own 52 kS),(2,1,.own 3 kI),(2,2,.own 3 kI),(2,3,.own 3 kI),(2,4,.lt),(5,0,.lt),(5,1,.lt),(5,2,.lt),(5,3,.lt),(5,4,.lt),(5,5,.lt),(5,6,.lt),(5,7,.lt),(5,8,.lt),(5,9,.lt),(5,10,.lt),(5,11,.fz kK),(5,12,.lt),(5,13,.lt)],[],[],6,0,false⟩,⟨163,2,false,[(8,.lt)],[],[],[],0,0,false⟩,⟨85,2,false,[(8,.lt)],[],[],[],0,0,false⟩],sig:=s20}
def t20 : Tree :=
 (.call 71 [.var 0,.var 1,.var 2,.var 3,.var 4] 7
 (.call 99 [] 9
 (.ite (.not (.var 9))
 (.call 99 [] 10
 (.ret [.var 10]))
 (.ite (.not (.eq (.var 8) (.int 0)))
 (.call 99 [] 10
 (.ret [.var 10]))
 (.call 52 [.var 5,.var 6] 10
 (.ite (.not (.eq (.var 10) (.int 0)))
 (.call 99 [] 11
 (.ret [.var 11]))
 (.loop 11 [.int .i64] [.int 0]
 (.ite (.lt (.var 12) (.len (.var 0)))
 (.need (.le (.int 0) (.var 12))
 (.ite (.eq (.cell (.var 0) (.var 12) 0) (.int 1000))
 (.ret [.bool true])
 (.need (.fit (.add (.var 12) (.int 1)))
 (.back 11 [.add (.var 12) (.int 1)]))))
 (.call 62 [.var 0,.var 1,.var 2,.var 3,.var 4] 13
 (.need (.fit (.mul (.int 2) (.len (.var 0))))
 (.need (.fit (.add (.mul (.int 2) (.len (.var 0))) (.int 6)))
 (.call 41 [.int 1,.var 5,.var 6,.int 0,.int 0,.int 0] 18
 (.loop 32 [.int .i64,.sl 48 [.int .i64,.int .i64,.int .i64,.int .i64,.bool,.int .i64],.sl 8 [.int .i64],.sl 8 [.int .i64],.sl 8 [.int .i64],.int .i64,.int .i64,.int .i64,.int .i64,.int .i64,.int .i64,.int .i64,.int .i64,.int .i64,.int .i64,.int .i64,.int .i64,.sl 16 [.int .i64,.int .i64],.bool,.int .i64] [.int 0,.var 13,.var 14,.var 15,.var 16,.var 17,.var 18,.var 19,.var 20,.var 21,.var 22,.var 23,.var 24,.var 25,.var 26,.var 27,.var 28,.var 29,.var 30,.var 31]
 (.ite (.lt (.var 33) (.add (.mul (.int 2) (.len (.var 0))) (.int 6)))
 (.call 101 [.var 34,.var 35,.var 36,.var 37,.var 38,.var 39,.var 40,.var 41,.var 42,.var 43,.var 44,.var 45,.var 46,.var 47,.var 48,.var 49,.var 50,.var 51,.var 52] 53
 (.ite (.var 70)
 (.loop 72 [.int .i64] [.int 0]
 (.ite (.lt (.var 73) (.len (.var 7)))
 (.need (.le (.int 0) (.var 73))
 (.ite (.and (.eq (.cell (.var 7) (.var 73) 0) (.var 5)) (.and (.eq (.cell (.var 7) (.var 73) 1) (.var 6)) (.bool true)))
 (.ite (.lt (.var 4) (.cell (.var 7) (.var 73) 3))
 (.ite (.lt (.var 73) (.int 0))
 (.ite (.eq (.var 71) (.int 5))
 (.call 59 [.var 53,.var 54,.var 55,.var 56,.var 57,.var 0,.var 1,.var 2,.var 3,.var 4] 74
 (.ret [.var 74]))
 (.ret [.bool false]))
 (.call 64 [.var 53,.var 54,.var 55,.var 56,.var 57,.var 67] 74
 (.ite (.eq (.var 71) (.int 0))
 (.ite (.eq (.var 67) (.cell (.var 7) (.var 73) 2))
 (.ite (.eq (.var 79) (.int 0))
 (.call 59 [.var 74,.var 75,.var 76,.var 77,.var 78,.var 0,.var 1,.var 2,.var 3,.var 4] 80
 (.ret [.var 80]))
 (.ret [.bool false]))
 (.ret [.bool false]))
 (.ret [.bool false]))))
 (.need (.fit (.add (.var 73) (.int 1)))
 (.back 72 [.add (.var 73) (.int 1)])))
 (.need (.fit (.add (.var 73) (.int 1)))
 (.back 72 [.add (.var 73) (.int 1)]))))
 (.ite (.eq (.var 71) (.int 5))
 (.call 59 [.var 53,.var 54,.var 55,.var 56,.var 57,.var 0,.var 1,.var 2,.var 3,.var 4] 74
 (.ret [.var 74]))
 (.ret [.bool false]))))
 (.need (.fit (.add (.var 33) (.int 1)))
 (.back 32 [.add (.var 33) (.int 1),.var 53,.var 54,.var 55,.var 56,.var 57,.var 58,.var 59,.var 60,.var 61,.var 62,.var 63,.var 64,.var 65,.var 66,.var 67,.var 68,.var 69,.var 70,.var 71]))))
 (.ret [.bool false])))))))))))))))
theorem run20 : run z20 6000 [.code (Try.f20.body.getD .skip),.fin (bt z20 Try.f20.results.toList 50)] { fn:=20,tmps:=z20.sig.aM ++ List.replicate (Try.f20.ntmps - z20.sig.aM.length) (.v (.one .undef)),stk:=[],h:=z20.sig.h0,nx:=z20.sig.ins.length,known:=[]}=t20:=by kernel_rfl
theorem ok20 : cB Try.prog 20 d20.ct:=by
 refine aD (d:=d20) (Z:=z20) (Γ:=gam l20) (fn:=Try.f20) (c:=Try.f20.body.getD .skip) (bg tok mixed (all_cons ok71 (all_cons ok99 (all_cons ok52 (all_cons ok62 (all_cons ok41 (all_cons ok101 (all_cons ok59 (all_cons ok64 all_nil)))))))) (dX (c:=Try.f55.body.getD .skip) Try.func55 (by kernel_rfl) (by kernel_rfl) (dX (c:=Try.f163.body.getD .skip) Try.func163 (by kernel_rfl) (by kernel_rfl) (dX (c:=Try.f112.body.getD .skip) Try.func112 (by kernel_rfl) (by kernel_rfl) (dX (c:=Try.f113.body.getD .skip) Try.func113 (by kernel_rfl) (by kernel_rfl) (dX (c:=Try.f114.body.getD .skip) Try.func114 (by kernel_rfl) (by kernel_rfl) (dX (c:=Try.f85.body.getD .skip) Try.func85 (by kernel_rfl) (by kernel_rfl) (dX (c:=Try.f115.body.getD .skip) Try.func115 (by kernel_rfl) (by kernel_rfl) bh)))))))) Try.func20 (by kernel_rfl) (by kernel_rfl) rfl run20 fun E hk hp=>?_
 obtain ⟨hk0,hk1,hk2,hk3,hk4,hk5,hk6,_⟩:=hk
 obtain ⟨m,e0,e1,e2,e3,e4,b0,b1,b2,b3⟩:=cv (d0:=E 0) (d1:=E 1) (d2:=E 2) (d3:=E 3) (d4:=E 4) hk0 hk1 hk2 hk3 hk4
 obtain ⟨k,e5,e6⟩:=vM (d0:=E 5) (d1:=E 6) hk5 hk6
 have el : aH E d20.sig.ins.length=[au m.slots,af m.heads,af m.free,af m.locks,.i m.now,.i k.a,.i k.b]:=by
  show [E 0,E 1,E 2,E 3,E 4,E 5,E 6]=_
  rw [e0,e1,e2,e3,e4,e5,e6]
 rw [el] at hp
 rw [el]
 rw [Env.bJ el]
 clear el e0 e1 e2 e3 e4 e5 e6
 simp only [d20]
 unfold t20
 refine ai d71 [eM (jM m).1,.i (jM m).2] rfl trivial (by simp only [nrm,xdn,reduceIte,Nat.reduceLT,Nat.reduceSub,Nat.reduceAdd,fn71]) ?_
 refine ai d99 [.b true] rfl trivial rfl (Fk rfl (G0 (fun h=>?_) (fun h=>?_)))
 ·refine ai d99 [.b true] rfl trivial rfl (aj ?_)
  simp only [nrm,xdn,reduceIte,Nat.reduceLT,Nat.reduceSub,Nat.reduceAdd]
 simp only [nrm,xdn,reduceIte,Nat.reduceLT,Nat.reduceSub,Nat.reduceAdd,Bool.not_eq_false'] at h
 obtain ⟨hC,hfl⟩:=HO h
 rw [hfl]
 refine ai d52 [.i (checkKey k)] rfl trivial (by simp only [nrm,xdn,reduceIte,Nat.reduceLT,Nat.reduceSub,Nat.reduceAdd,d52,jK,eZ]) (G0 (fun h1=>?_) (fun h1=>?_))
 ·refine ai d99 [.b true] rfl trivial rfl (aj ?_)
  simp only [nrm,xdn,reduceIte,Nat.reduceLT,Nat.reduceSub,Nat.reduceAdd]
 simp only [nrm,xdn,reduceIte,Nat.reduceLT,Nat.reduceSub,Nat.reduceAdd,Bool.not_eq_false'] at h1
 have hK:=(gA k).1 h1
 have hns:=hC.mem.ns
 refine bO (fun ds=>∃ j : Nat,ds=[.i j]∧j≤m.slots.length∧∀ i,i < j→(msl m i).refs≠1000) (fun ds=>m.slots.length - (ds.getD 0 .u).int.toNat) ⟨0,rfl,by omega,fun i hi=>absurd hi (by omega)⟩ ?_
 rintro ds - ⟨j,rfl,hj,hr⟩
 refine G0 (fun hlt=>?_) (fun hge=>?_)
 ·simp only [nrm,xdn,reduceIte,Nat.reduceLT,Nat.reduceSub,Nat.reduceAdd,aN] at hlt
  refine eh (by simp only [nrm,xdn,reduceIte,Nat.reduceLT,Nat.reduceSub,Nat.reduceAdd];omega) (G0 (fun h=>aj ?_) (fun h=>?_))
  ·simp only [nrm,xdn,reduceIte,Nat.reduceLT,Nat.reduceSub,Nat.reduceAdd]
  ·simp only [nrm,xdn,reduceIte,Nat.reduceLT,Nat.reduceSub,Nat.reduceAdd,cX,Int.toNat_natCast] at h
   refine G1 (by simp only [nrm,xdn,reduceIte,Nat.reduceLT,Nat.reduceSub,Nat.reduceAdd];omega) (aV ⟨⟨j + 1,?_,by omega,fun i hi=>?_⟩,?_⟩)
   ·simp only [nrm,xdn,reduceIte,Nat.reduceLT,Nat.reduceSub,Nat.reduceAdd];rfl
   ·by_cases e : i=j
    ·rw [e];exact h
    ·exact hr i (by omega)
   ·simp only [nrm,xdn,reduceIte,Nat.reduceLT,Nat.reduceSub,Nat.reduceAdd];omega
 simp only [nrm,xdn,reduceIte,Nat.reduceLT,Nat.reduceSub,Nat.reduceAdd,aN] at hge
 have hr : ∀ i,i < m.slots.length→(msl m i).refs≠1000:=fun i hi=>hr i (by omega)
 obtain ⟨g0,x0,hR,hres⟩:=zu hC hK hr
 have hf0 : bV m (aX ⟨1,k,0,0,0⟩):=(mD _ _).1 (by
  unfold eO bf aX
  rw [if_neg (by simp only [true_or,if_true];exact fun x=>x h1),if_neg (by simp only;omega),if_neg (by simp),if_neg (by simp only;omega),if_neg (by simp)])
 refine ai d62 m.cds rfl trivial (by simp only [nrm,xdn,reduceIte,Nat.reduceLT,Nat.reduceSub,Nat.reduceAdd,fn62]) ?_
 refine G1 (by simp only [nrm,xdn,reduceIte,Nat.reduceLT,Nat.reduceSub,Nat.reduceAdd,aN];omega) (G1 (by simp only [nrm,xdn,reduceIte,Nat.reduceLT,Nat.reduceSub,Nat.reduceAdd,aN];omega) ?_)
 refine ai d41 (aX ⟨1,k,0,0,0⟩).cds rfl trivial (by simp only [nrm,xdn,reduceIte,Nat.reduceLT,Nat.reduceSub,Nat.reduceAdd,Gj]) ?_
 refine bO (fun ds=>∃ (i : Nat) (x : Mem) (f : Frm),ds=.i i :: (x.cds ++ f.cds)∧i≤(2 * m.slots.length + 6)∧bZ ar ((2 * m.slots.length + 6) - i) f x=(g0,x0,true)∧aZ x∧bV x f∧f.c.kind=1) (fun ds=>(2 * m.slots.length + 6) - (ds.getD 0 .u).int.toNat) ⟨0,m,(aX ⟨1,k,0,0,0⟩),?_,by omega,by rw [Nat.sub_zero];exact hR,hC.mem.rJ,hf0,rfl⟩ ?_
 ·simp only [nrm,xdn,reduceIte,Nat.reduceLT,Nat.reduceSub,Nat.reduceAdd,Mem.cds,Frm.cds,lca];rfl
 rintro ds - ⟨i,x,f,rfl,hi,ht,hx,hf,hk⟩
 simp only [Mem.cds,Frm.cds,lca]
 refine G0 (fun hlt=>?_) (fun hge=>?_)
 ·simp only [nrm,xdn,reduceIte,Nat.reduceLT,Nat.reduceSub,Nat.reduceAdd,aN] at hlt
  refine ai d101 ((ar x f).2.cds ++ (ar x f).1.cds) rfl (by simp only [nrm,xdn,reduceIte,Nat.reduceLT,Nat.reduceSub,Nat.reduceAdd];exact pi101 hx hf hk) (by simp only [nrm,xdn,reduceIte,Nat.reduceLT,Nat.reduceSub,Nat.reduceAdd,fn101]) ?_
  have e1 : (2 * m.slots.length + 6) - i=(2 * m.slots.length + 6) - (i + 1) + 1:=by omega
  have hfit:=Gs hx hf hk
  have hin:=(fun a b _=>Gn a b) hx hf hk
  rw [e1] at ht
  rcases hs : ar x f with ⟨g,y⟩
  rw [hs] at hfit hin
  simp only [Mem.cds,Frm.cds,lca]
  refine G0 (fun hd=>?_) (fun hd=>?_)
  ·simp only [nrm,xdn,reduceIte,Nat.reduceLT,Nat.reduceSub,Nat.reduceAdd] at hd
   rw [dm hs hd] at ht
   clear hlt e1 hfit hs hd hx hf hk hi
   obtain ⟨rfl,rfl,-⟩ : g=g0∧y=x0∧True:=by cases ht;exact ⟨rfl,rfl,trivial⟩
   clear hR ht hin
   refine bO (fun ds=>∃ j : Nat,ds=[.i j]∧j≤(aq m).length∧∀ i,i < j→¬ (((aq m).getD i default).k=k∧m.now < ((aq m).getD i default).till)) (fun ds=>(aq m).length - (ds.getD 0 .u).int.toNat) ⟨0,rfl,by omega,fun i hi=>absurd hi (by omega)⟩ ?_
   rintro ds - ⟨j,rfl,hj,hno⟩
   have hfl48:=pC hC.mem
   refine G0 (fun hlt=>?_) (fun hge=>?_)
   ·simp only [nrm,xdn,reduceIte,Nat.reduceLT,Nat.reduceSub,Nat.reduceAdd,iT] at hlt
    have on : ¬ (((aq m).getD j default).k=k∧m.now < ((aq m).getD j default).till)→∀ i,i < j + 1→¬ (((aq m).getD i default).k=k∧m.now < ((aq m).getD i default).till):=fun h i hi=>by
     by_cases e : i=j
     ·rw [e];exact h
     ·exact hno i (by omega)
    refine eh (by simp only [nrm,xdn,reduceIte,Nat.reduceLT,Nat.reduceSub,Nat.reduceAdd];omega) (G0 (fun hk=>?_) (fun hk=>?_))
    ·simp only [nrm,xdn,reduceIte,Nat.reduceLT,Nat.reduceSub,Nat.reduceAdd,Hb,Ha,Int.toNat_natCast] at hk
     replace hk:=AW (j:=((aq m).getD j default).k) (k:=k) hk
     refine G0 (fun ht=>?_) (fun ht=>?_)
     ·simp only [nrm,xdn,reduceIte,Nat.reduceLT,Nat.reduceSub,Nat.reduceAdd,Hx,Int.toNat_natCast] at ht
      have hat:=jj hC (He (l:=aq m) (i:=j) (by omega))
      have etill : ((aq m).getD j default).till=(msl m ((aq m).getD j default).slot.toNat).till:=by
       have:=hat.2.2.2.1
       generalize (aq m).getD j default=w at *
       rw [this];rfl
      rw [hk] at hat
      refine Fk (by simp only [nrm,xdn,reduceIte,Nat.reduceLT,Nat.reduceSub,Nat.reduceAdd];omega) ?_
      rcases hres with ⟨_,_,hall⟩ | ⟨r1,r2,r3,r4,r5⟩
      ·have:=hall _ hat.2.2.2.2.2.2 hat.2.2.1
       omega
      ·have hb:=jq hC.mem hK
       have hch:=hC.ch (b:=(bk m k).toNat) (by omega)
       have es : ((aq m).getD j default).slot=g.slot:=fw hch.nd hat.2.2.2.2.2.2 r2 (hat.2.2.1.trans r3.symm)
       have hin:=cW hC r2
       have hok:=hch.ok _ r2
       have rr:=hC.mem.refs hin.1 hin.2
       have hl:=GR hC.mem hin.1 hin.2 (by have:=hok.refs;omega) (hr _ (by omega))
       subst r5
       refine ai d64 (m.cds ++ [.i 0]) rfl trivial (by simp only [nrm,xdn,reduceIte,Nat.reduceLT,Nat.reduceSub,Nat.reduceAdd,fn64,hl]) ?_
       simp only [Mem.cds,lca]
       refine Bf (by simp only [nrm,xdn,reduceIte,Nat.reduceLT,Nat.reduceSub,Nat.reduceAdd];exact r1) (Bf (by simp only [nrm,xdn,reduceIte,Nat.reduceLT,Nat.reduceSub,Nat.reduceAdd,Hh,Int.toNat_natCast];exact es.symm) (Bf rfl ?_))
       refine ai d59 [.b true] rfl trivial (by simp only [nrm,xdn,reduceIte,Nat.reduceLT,Nat.reduceSub,Nat.reduceAdd,fn59];simp) (aj ?_)
       simp only [nrm,xdn,reduceIte,Nat.reduceLT,Nat.reduceSub,Nat.reduceAdd]
     ·simp only [nrm,xdn,reduceIte,Nat.reduceLT,Nat.reduceSub,Nat.reduceAdd,Hx,Int.toNat_natCast] at ht
      refine G1 (by simp only [nrm,xdn,reduceIte,Nat.reduceLT,Nat.reduceSub,Nat.reduceAdd];omega) (aV ⟨⟨j + 1,?_,by omega,on (fun h=>ht h.2)⟩,?_⟩)
      ·simp only [nrm,xdn,reduceIte,Nat.reduceLT,Nat.reduceSub,Nat.reduceAdd];rfl
      ·simp only [nrm,xdn,reduceIte,Nat.reduceLT,Nat.reduceSub,Nat.reduceAdd];omega
    ·simp only [nrm,xdn,reduceIte,Nat.reduceLT,Nat.reduceSub,Nat.reduceAdd,Hb,Ha,Int.toNat_natCast] at hk
     replace hk:=AY (j:=((aq m).getD j default).k) (k:=k) hk
     refine G1 (by simp only [nrm,xdn,reduceIte,Nat.reduceLT,Nat.reduceSub,Nat.reduceAdd];omega) (aV ⟨⟨j + 1,?_,by omega,on (fun h=>hk h.1)⟩,?_⟩)
     ·simp only [nrm,xdn,reduceIte,Nat.reduceLT,Nat.reduceSub,Nat.reduceAdd];rfl
     ·simp only [nrm,xdn,reduceIte,Nat.reduceLT,Nat.reduceSub,Nat.reduceAdd];omega
   ·simp only [nrm,xdn,reduceIte,Nat.reduceLT,Nat.reduceSub,Nat.reduceAdd,iT] at hge
    rcases hres with ⟨r1,r2,_⟩ | ⟨r1,r2,r3,r4,r5⟩
    ·subst r2
     refine Bf (by simp only [nrm,xdn,reduceIte,Nat.reduceLT,Nat.reduceSub,Nat.reduceAdd];exact r1) ?_
     refine ai d59 [.b true] rfl trivial (by simp only [nrm,xdn,reduceIte,Nat.reduceLT,Nat.reduceSub,Nat.reduceAdd,fn59];simp) (aj ?_)
     simp only [nrm,xdn,reduceIte,Nat.reduceLT,Nat.reduceSub,Nat.reduceAdd]
    ·have hb:=jq hC.mem hK
     have hw:=mw (m:=m) (b:=(bk m k).toNat) (by omega) r2
     obtain ⟨i,hi,e⟩:=HQ hw
     exact absurd ⟨by rw [← e];exact r3,by rw [← e];exact r4⟩ (hno i (by omega))
  ·simp only [nrm,xdn,reduceIte,Nat.reduceLT,Nat.reduceSub,Nat.reduceAdd] at hd
   rw [bd hs hd] at ht
   refine G1 (by simp only [nrm,xdn,reduceIte,Nat.reduceLT,Nat.reduceSub,Nat.reduceAdd];omega) (aV ⟨⟨i + 1,y,g,?_,by omega,ht,hfit hd⟩,?_⟩)
   ·simp only [nrm,xdn,reduceIte,Nat.reduceLT,Nat.reduceSub,Nat.reduceAdd,Mem.cds,Frm.cds,lca];rfl
   ·simp only [nrm,xdn,reduceIte,Nat.reduceLT,Nat.reduceSub,Nat.reduceAdd];omega
 ·simp only [nrm,xdn,reduceIte,Nat.reduceLT,Nat.reduceSub,Nat.reduceAdd,aN] at hge
  rw [show (2 * m.slots.length + 6) - i=0 from by omega] at ht
  cases ht
end Go.Proofs.Ytpmamacjepcdmaa
