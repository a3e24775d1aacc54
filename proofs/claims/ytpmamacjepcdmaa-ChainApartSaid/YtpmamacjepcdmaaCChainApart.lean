import Derived.Test.YtpmamacjepcdmaaCChainLaws3
import Derived.Test.YtpmamacjepcdmaaCChainTells
namespace Go.Proofs.Ytpmamacjepcdmaa
open Go Go.Sy Go.RowKit
set_option linter.unusedSimpArgs false
set_option linter.unusedVariables false
theorem GQ {m : Mem} (hC : aK m) {b : Int} (h1 : 0≤b) (h2 : b < m.heads.length) : slotsOf m b=(chL m b.toNat,0):=by
 have hc:=(hC.ch (b:=b.toNat) (by omega)).of
 rw [show ((b.toNat : Nat) : Int)=b from by omega] at hc
 unfold slotsOf
 rw [if_neg (fun h=>h ((dT m).2 hC.mem)),if_neg (by omega)]
 unfold bP
 rw [hc]
theorem KS {l : List Int} {j : Nat} (hd : l.Nodup) (hj : j < l.length) : l.getD j 0 ∉ l.take j:=by
 have h:=hd
 rw [← List.take_append_drop (j + 1) l,Bz hj] at h
 have h2:=(List.nodup_append.1 h).1
 intro hm
 have h3:=(List.nodup_append.1 h2).2.2
 exact h3 _ hm _ (by simp) rfl
theorem F4 {m : Mem} {l : List Int} {i : Nat} (h : i < l.length) : (l.map (bu m)).getD i default=bu m (l.getD i 0):=by
 simp only [List.getD_eq_getElem?_getD,List.getElem?_map,List.getElem?_eq_getElem h,Option.map_some,Option.getD_some]
def s15 : Sig:=⟨[.agg [.fz kS,.fz kI,.fz kI,.fz kI,.int .i64],.one (.int .i64)],[.one (.bool)]⟩
def d15 : DC:=⟨s15,fun _=>True,fun _=>[.b true]⟩
def l15 : List (Nat × Ct):=[(73,d73.ct),(74,d74.ct),(71,d71.ct),(70,d70.ct),(97,d97.ct),(98,d98.ct),(82,d82.ct),(39,d39.ct)]
def z15 : Cx:={ T:=ttA,C:=sigs l15,F:=[],hints:=[⟨15,8,false,[(41,.lt),(7,.own 3 kI)],[],[],[],0,0,false⟩,⟨15,14,false,[(54,.lt),(7,.own 3 kI)],[],[],[],0,0,false⟩,⟨15,23,false,[(91,.lt)],[],[],[],0,0,false⟩],sig:=s15}
def t15 : Tree :=
 (.call 73 [] 6
 (.ite (.not (.var 6))
 (.call 73 [] 7
 (.ret [.var 7]))
 (.call 74 [.var 0,.var 1,.var 2,.var 3,.var 4] 7
 (.ite (.not (.eq (.var 7) (.int 0)))
 (.call 73 [] 8
 (.ret [.var 8]))
 (.call 71 [.var 0,.var 1,.var 2,.var 3,.var 4] 8
 (.ite (.not (.eq (.var 9) (.int 0)))
 (.ret [.bool false])
 (.loop 10 [.sl 8 [.int .i64],.int .i64] [.nil,.int 0]
 (.ite (.lt (.var 12) (.len (.var 1)))
 (.call 70 [.var 0,.var 1,.var 2,.var 3,.var 4,.var 12] 13
 (.ite (.not (.eq (.var 14) (.int 0)))
 (.ret [.bool false])
 (.loop 15 [.sl 8 [.int .i64],.int .i64] [.var 11,.int 0]
 (.ite (.lt (.var 17) (.len (.var 13)))
 (.need (.le (.int 0) (.var 17))
 (.need (.le (.int 0) (.cell (.var 13) (.var 17) 0))
 (.need (.lt (.cell (.var 13) (.var 17) 0) (.len (.var 0)))
 (.call 97 [.cell (.var 0) (.cell (.var 13) (.var 17) 0) 1,.cell (.var 0) (.cell (.var 13) (.var 17) 0) 2,.len (.var 1)] 18
 (.ite (.not (.eq (.var 19) (.int 0)))
 (.ret [.bool false])
 (.ite (.not (.eq (.var 18) (.var 12)))
 (.ret [.bool false])
 (.call 98 [.var 16,.cell (.var 13) (.var 17) 0] 20
 (.ite (.var 20)
 (.ret [.bool false])
 (.need (.le (.add (.len (.var 16)) (.int 1)) (.int 17592186044416))
 (.need (.fit (.add (.var 17) (.int 1)))
 (.back 15 [.app (.var 16) (.cons (.cell (.var 13) (.var 17) 0) .row0),.add (.var 17) (.int 1)])))))))))))
 (.need (.fit (.add (.var 12) (.int 1)))
 (.back 10 [.var 16,.add (.var 12) (.int 1)]))))))
 (.loop 13 [.int .i64] [.int 0]
 (.ite (.lt (.var 14) (.len (.var 8)))
 (.need (.le (.int 0) (.var 14))
 (.ite (.le (.len (.var 11)) (.var 14))
 (.ret [.bool false])
 (.need (.lt (.var 14) (.len (.var 11)))
 (.ite (.not (.eq (.cell (.var 8) (.var 14) 2) (.cell (.var 11) (.var 14) 0)))
 (.ret [.bool false])
 (.need (.le (.int 0) (.cell (.var 8) (.var 14) 2))
 (.need (.lt (.cell (.var 8) (.var 14) 2) (.len (.var 0)))
 (.ite (.not (.and (.eq (.cell (.var 8) (.var 14) 0) (.cell (.var 0) (.cell (.var 8) (.var 14) 2) 1)) (.and (.eq (.cell (.var 8) (.var 14) 1) (.cell (.var 0) (.cell (.var 8) (.var 14) 2) 2)) (.bool true))))
 (.ret [.bool false])
 (.ite (.not (.eq (.cell (.var 8) (.var 14) 3) (.cell (.var 0) (.cell (.var 8) (.var 14) 2) 3)))
 (.ret [.bool false])
 (.need (.fit (.add (.var 14) (.int 1)))
 (.back 13 [.add (.var 14) (.int 1)]))))))))))
 (.ite (.not (.eq (.len (.var 8)) (.len (.var 11))))
 (.ret [.bool false])
 (.call 82 [.var 0,.var 1,.var 2,.var 3,.var 4,.var 5] 15
 (.ite (.not (.eq (.var 20) (.int 0)))
 (.ret [.bool true])
 (.need (.le (.int 0) (.var 5))
 (.need (.lt (.var 5) (.len (.var 0)))
 (.call 97 [.cell (.var 0) (.var 5) 1,.cell (.var 0) (.var 5) 2,.len (.var 1)] 21
 (.call 70 [.var 15,.var 16,.var 17,.var 18,.var 19,.var 21] 23
 (.call 70 [.var 0,.var 1,.var 2,.var 3,.var 4,.var 21] 25
 (.ite (.eq (.var 22) (.int 0))
 (.ite (.eq (.var 24) (.int 0))
 (.ite (.eq (.var 26) (.int 0))
 (.need (.le (.add (.int 1) (.len (.var 25))) (.int 17592186044416))
 (.call 39 [.var 23,.app (.cons (.var 5) .row0) (.var 25)] 27
 (.ret [.var 27])))
 (.ret [.bool false]))
 (.ret [.bool false]))
 (.ret [.bool false]))))))))))))))))))))
theorem run15 : run z15 6000 [.code (Try.f15.body.getD .skip),.fin (bt z15 Try.f15.results.toList 50)] { fn:=15,tmps:=z15.sig.aM ++ List.replicate (Try.f15.ntmps - z15.sig.aM.length) (.v (.one .undef)),stk:=[],h:=z15.sig.h0,nx:=z15.sig.ins.length,known:=[]}=t15:=by kernel_rfl
set_option maxHeartbeats 1000000 in
theorem ok15 : cB Try.prog 15 d15.ct:=by
 refine aD (d:=d15) (Z:=z15) (Γ:=gam l15) (fn:=Try.f15) (c:=Try.f15.body.getD .skip) (bg tok mixed (all_cons ok73 (all_cons ok74 (all_cons ok71 (all_cons ok70 (all_cons ok97 (all_cons ok98 (all_cons ok82 (all_cons ok39 all_nil)))))))) bh) Try.func15 (by kernel_rfl) (by kernel_rfl) rfl run15 fun E hk hp=>?_
 obtain ⟨hk0,hk1,hk2,hk3,hk4,hk5,_⟩:=hk
 obtain ⟨m,e0,e1,e2,e3,e4,b0,b1,b2,b3⟩:=cv (d0:=E 0) (d1:=E 1) (d2:=E 2) (d3:=E 3) (d4:=E 4) hk0 hk1 hk2 hk3 hk4
 obtain ⟨x,e5⟩:=ok_int (d:=E 5) hk5
 have el : aH E d15.sig.ins.length=[au m.slots,af m.heads,af m.free,af m.locks,.i m.now,.i x]:=by
  show [E 0,E 1,E 2,E 3,E 4,E 5]=_
  rw [e0,e1,e2,e3,e4,e5]
 rw [el] at hp
 rw [el]
 rw [Env.bJ el]
 clear el e0 e1 e2 e3 e4 e5
 simp only [d15]
 unfold t15
 refine ai d73 [.b true] rfl trivial rfl ?_
 refine Fk (by simp only [nrm,xdn,reduceIte,Nat.reduceLT,Nat.reduceSub,Nat.reduceAdd,Mem.cds,lca,decide_true,Bool.not_true,not_true_eq_false,decide_false,beq_self_eq_true]) ?_
 refine ai d74 [.i (bU m)] rfl trivial (by simp only [nrm,xdn,reduceIte,Nat.reduceLT,Nat.reduceSub,Nat.reduceAdd,fn74]) (G0 (fun h=>?_) (fun h=>?_))
 ·refine ai d73 [.b true] rfl trivial rfl (aj ?_)
  simp only [nrm,xdn,reduceIte,Nat.reduceLT,Nat.reduceSub,Nat.reduceAdd]
 simp only [nrm,xdn,reduceIte,Nat.reduceLT,Nat.reduceSub,Nat.reduceAdd,Bool.not_eq_false'] at h
 have hC:=(rN m).1 h
 have hm:=hC.mem
 have hns:=hm.ns
 have hnh:=hm.nh4
 have hnh1:=hm.nh1
 have hfr : jM m=(aq m,0):=by unfold jM;rw [if_neg (by omega)]
 refine ai d71 [eM (aq m),.i 0] rfl trivial (by simp only [nrm,xdn,reduceIte,Nat.reduceLT,Nat.reduceSub,Nat.reduceAdd,fn71,hfr]) ?_
 refine Fk (by simp only [nrm,xdn,reduceIte,Nat.reduceLT,Nat.reduceSub,Nat.reduceAdd,Mem.cds,lca,decide_true,Bool.not_true,not_true_eq_false,decide_false,beq_self_eq_true]) ?_
 refine bO (fun ds=>∃ (b : Nat) (acc : List Int),ds=[af acc,.i b]∧b≤m.heads.length∧acc.length≤b * 12∧(∀ c∈acc,0≤c∧c < m.slots.length∧bk m (kys m c) < b)∧aq m=bC m (m.heads.length - b) b (acc.map (bu m))) (fun ds=>m.heads.length - (ds.getD 1 .u).int.toNat) ⟨0,[],rfl,by omega,by simp,by simp,rfl⟩ ?_
 rintro ds - ⟨b,acc,rfl,hb,hkl,hacc,ht⟩
 refine G0 (fun hlt=>?_) (fun hge=>?_)
 ·simp only [nrm,xdn,reduceIte,Nat.reduceLT,Nat.reduceSub,Nat.reduceAdd,aw] at hlt
  have e1 : m.heads.length - b=m.heads.length - (b + 1) + 1:=by omega
  rw [e1,bC] at ht
  have hs:=GQ hC (b:=b) (by omega) (by omega)
  have hCh:=hC.ch (b:=b) (by omega)
  have hll : (chL m b).length≤m.slots.length:=(oL hm _).1
  have hlm : ∀ a∈chL m b,0≤a∧a < m.slots.length:=fun a ha=>cW hC ha
  have hok:=hCh.ok
  have hnd:=hCh.ndl
  rw [show ((b : Int)).toNat=b from by omega] at hs
  refine ai d70 [af (chL m b),.i 0] rfl trivial (by simp only [nrm,xdn,reduceIte,Nat.reduceLT,Nat.reduceSub,Nat.reduceAdd,fn70,hs]) ?_
  refine Fk (by simp only [nrm,xdn,reduceIte,Nat.reduceLT,Nat.reduceSub,Nat.reduceAdd,Mem.cds,lca,decide_true,Bool.not_true,not_true_eq_false,decide_false,beq_self_eq_true]) ?_
  have ht : aq m=bC m (m.heads.length - (b + 1)) (b + 1) (acc.map (bu m) ++ (chL m b).map (bu m)):=ht
  generalize chL m b=l at *
  refine bO (fun ds=>∃ (j : Nat) (acc' : List Int),ds=[af acc',.i j]∧j≤l.length∧acc'=acc ++ l.take j) (fun ds=>l.length - (ds.getD 1 .u).int.toNat) ⟨0,acc,?_,by omega,by simp⟩ ?_
  ·simp only [nrm,xdn,reduceIte,Nat.reduceLT,Nat.reduceSub,Nat.reduceAdd];rfl
  rintro ds - ⟨j,acc',rfl,hj,hs'⟩
  have hal : acc'.length=acc.length + j:=by rw [hs'];simp;omega
  refine G0 (fun hlt'=>?_) (fun hge'=>?_)
  ·simp only [nrm,xdn,reduceIte,Nat.reduceLT,Nat.reduceSub,Nat.reduceAdd,aw] at hlt'
   have hmem:=pA (l:=l) (i:=j) (by omega)
   have ha:=hlm _ hmem
   have hbk:=(hok _ hmem).bk
   have hraw : ((af l).rows.getD j []).getD 0 .u=.i (l.getD j 0):=iK (by omega)
   have hnot : l.getD j 0 ∉ acc':=by
    rw [hs']
    intro hx
    rcases List.mem_append.1 hx with hx | hx
    ·have:=(hacc _ hx).2.2
     omega
    ·exact KS hnd (by omega) hx
   have hnx : acc ++ l.take (j + 1)=acc' ++ [l.getD j 0]:=by
    rw [Bz (by omega),hs',← List.append_assoc]
   generalize hag : l.getD j 0=a at *
   have hk:=(hm.sl (i:=a.toNat) (by omega)).k
   have hbr:=jq hm (k:=kys m a) hk
   have k1 : ((au m.slots).rows.getD a.toNat []).getD 1 .u=.i (kys m a).a:=qc (by omega)
   have k2 : ((au m.slots).rows.getD a.toNat []).getD 2 .u=.i (kys m a).b:=qb (by omega)
   have hbo : aY (kys m a) m.heads.length=((b : Int),0):=by
    have e1 : (aY (kys m a) m.heads.length).1=b:=hbk
    have e2:=hbr.2.2
    cases hx : aY (kys m a) m.heads.length
    rw [hx] at e1 e2
    simp only at e1 e2
    rw [e1,e2]
   refine ag (by simp only [nrm,xdn,reduceIte,Nat.reduceLT,Nat.reduceSub,Nat.reduceAdd];omega) (ag (by simp only [nrm,xdn,reduceIte,Nat.reduceLT,Nat.reduceSub,Nat.reduceAdd,Int.toNat_natCast,hraw];omega) (ag (by simp only [nrm,xdn,reduceIte,Nat.reduceLT,Nat.reduceSub,Nat.reduceAdd,Int.toNat_natCast,hraw,aN];omega) ?_))
   refine ai d97 [.i b,.i 0] rfl trivial (by simp only [nrm,xdn,reduceIte,Nat.reduceLT,Nat.reduceSub,Nat.reduceAdd,Int.toNat_natCast,hraw,k1,k2,aw,fn97,hbo]) ?_
   refine Fk (by simp only [nrm,xdn,reduceIte,Nat.reduceLT,Nat.reduceSub,Nat.reduceAdd,Mem.cds,lca,decide_true,Bool.not_true,not_true_eq_false,decide_false,beq_self_eq_true]) ?_
   refine Fk (by simp only [nrm,xdn,reduceIte,Nat.reduceLT,Nat.reduceSub,Nat.reduceAdd,Mem.cds,lca,decide_true,Bool.not_true,not_true_eq_false,decide_false,beq_self_eq_true]) ?_
   refine ai d98 [.b false] rfl trivial (by simp only [nrm,xdn,reduceIte,Nat.reduceLT,Nat.reduceSub,Nat.reduceAdd,Int.toNat_natCast,hraw,d98,bY,hnot,decide_false]) ?_
   refine Fk (by simp only [nrm,xdn,reduceIte,Nat.reduceLT,Nat.reduceSub,Nat.reduceAdd,Mem.cds,lca,decide_true,Bool.not_true,not_true_eq_false,decide_false,beq_self_eq_true]) ?_
   refine eh (by simp only [nrm,xdn,reduceIte,Nat.reduceLT,Nat.reduceSub,Nat.reduceAdd,aw];omega) (G1 (by simp only [nrm,xdn,reduceIte,Nat.reduceLT,Nat.reduceSub,Nat.reduceAdd];omega) (aV ⟨⟨j + 1,_,?_,by omega,hnx.symm⟩,?_⟩))
   ·simp only [nrm,xdn,reduceIte,Nat.reduceLT,Nat.reduceSub,Nat.reduceAdd,Int.toNat_natCast,hraw,CD.row,List.headD_cons,gV];rfl
   ·simp only [nrm,xdn,reduceIte,Nat.reduceLT,Nat.reduceSub,Nat.reduceAdd];omega
  ·simp only [nrm,xdn,reduceIte,Nat.reduceLT,Nat.reduceSub,Nat.reduceAdd,aw] at hge'
   have hjl : j=l.length:=by omega
   subst hjl
   rw [List.take_length] at hs'
   refine G1 (by simp only [nrm,xdn,reduceIte,Nat.reduceLT,Nat.reduceSub,Nat.reduceAdd];omega) (fj (by decide) ⟨⟨b + 1,acc',?_,by omega,by omega,fun c hc=>?_,?_⟩,?_⟩)
   ·simp only [nrm,xdn,reduceIte,Nat.reduceLT,Nat.reduceSub,Nat.reduceAdd];rfl
   ·rw [hs'] at hc
    rcases List.mem_append.1 hc with hc | hc
    ·have:=hacc c hc
     exact ⟨this.1,this.2.1,by omega⟩
    ·have:=hlm c hc
     have h2:=(hok c hc).bk
     exact ⟨this.1,this.2,by omega⟩
   ·rw [ht,hs',List.map_append]
   ·simp only [nrm,xdn,reduceIte,Nat.reduceLT,Nat.reduceSub,Nat.reduceAdd];omega
 simp only [nrm,xdn,reduceIte,Nat.reduceLT,Nat.reduceSub,Nat.reduceAdd,aw] at hge
 rw [show m.heads.length - b=0 from by omega] at ht
 have ht : aq m=acc.map (bu m):=ht
 have hal : acc.length≤48:=by omega
 rw [ht]
 have hfl : ((eM (acc.map (bu m))).rows.length : Int)=acc.length:=by rw [iT,List.length_map]
 refine bO (fun ds=>∃ i : Nat,ds=[.i i]∧i≤acc.length) (fun ds=>acc.length - (ds.getD 0 .u).int.toNat) ⟨0,rfl,by omega⟩ ?_
 rintro ds - ⟨i,rfl,hi⟩
 refine G0 (fun hlt=>?_) (fun hge'=>?_)
 ·simp only [nrm,xdn,reduceIte,Nat.reduceLT,Nat.reduceSub,Nat.reduceAdd,hfl] at hlt
  have ha:=hacc _ (pA (l:=acc) (i:=i) (by omega))
  have hg:=F4 (m:=m) (l:=acc) (i:=i) (by omega)
  generalize hag : acc.getD i 0=a at *
  have hm0 : m.slots.getD a.toNat default=msl m a.toNat:=rfl
  have f0 : (bu m a).k=(msl m a.toNat).k:=rfl
  have f1 : (bu m a).slot=a:=rfl
  have f2 : (bu m a).till=(msl m a.toNat).till:=rfl
  refine ag (by simp only [nrm,xdn,reduceIte,Nat.reduceLT,Nat.reduceSub,Nat.reduceAdd];omega) (Fk (by simp only [nrm,xdn,reduceIte,Nat.reduceLT,Nat.reduceSub,Nat.reduceAdd,aw];omega) (ag (by simp only [nrm,xdn,reduceIte,Nat.reduceLT,Nat.reduceSub,Nat.reduceAdd,aw];omega) ?_))
  refine Fk (by simp only [nrm,xdn,reduceIte,Nat.reduceLT,Nat.reduceSub,Nat.reduceAdd,Int.toNat_natCast,Hh,aG,hg,hag,f1,beq_self_eq_true,Bool.not_true,decide_true]) ?_
  refine ag (by simp only [nrm,xdn,reduceIte,Nat.reduceLT,Nat.reduceSub,Nat.reduceAdd,Int.toNat_natCast,Hh,hg,f1];omega) (ag (by simp only [nrm,xdn,reduceIte,Nat.reduceLT,Nat.reduceSub,Nat.reduceAdd,Int.toNat_natCast,Hh,hg,f1,aN];omega) ?_)
  refine Fk (by simp only [nrm,xdn,reduceIte,Nat.reduceLT,Nat.reduceSub,Nat.reduceAdd,Int.toNat_natCast,Hb,Ha,Hh,cG,cF,hg,f0,f1,hm0,beq_self_eq_true,Bool.not_true,decide_true,Bool.and_self]) ?_
  refine Fk (by simp only [nrm,xdn,reduceIte,Nat.reduceLT,Nat.reduceSub,Nat.reduceAdd,Int.toNat_natCast,Hx,Hh,cy,hg,f2,f1,hm0,beq_self_eq_true,Bool.not_true,decide_true]) ?_
  refine G1 (by simp only [nrm,xdn,reduceIte,Nat.reduceLT,Nat.reduceSub,Nat.reduceAdd];omega) (aV ⟨⟨i + 1,?_,by omega⟩,?_⟩)
  ·simp only [nrm,xdn,reduceIte,Nat.reduceLT,Nat.reduceSub,Nat.reduceAdd];rfl
  ·simp only [nrm,xdn,reduceIte,Nat.reduceLT,Nat.reduceSub,Nat.reduceAdd];omega
 refine Fk (by simp only [nrm,xdn,reduceIte,Nat.reduceLT,Nat.reduceSub,Nat.reduceAdd,hfl,aw,beq_self_eq_true,Bool.not_true,decide_true]) ?_
 refine ai d82 ((linked m x).1.cds ++ [.i (linked m x).2]) rfl trivial (by simp only [nrm,xdn,reduceIte,Nat.reduceLT,Nat.reduceSub,Nat.reduceAdd,fn82]) (G0 (fun c=>?_) (fun c=>?_))
 ·refine aj ?_
  simp only [nrm,xdn,reduceIte,Nat.reduceLT,Nat.reduceSub,Nat.reduceAdd]
 simp only [nrm,xdn,reduceIte,Nat.reduceLT,Nat.reduceSub,Nat.reduceAdd,Mem.cds,lca,Bool.not_eq_false'] at c
 obtain ⟨_,x1,x2,x3,x4,x5⟩:=KI c
 rw [x5]
 have hk:=(hm.sl (i:=x.toNat) (by omega)).k
 obtain ⟨b1,b2,b3⟩:=jq hm (k:=kys m x) hk
 obtain ⟨g1,g2,_⟩:=vZ hC x1 x2 x3 x4
 have k1 : ((au m.slots).rows.getD x.toNat []).getD 1 .u=.i (kys m x).a:=qc (by omega)
 have k2 : ((au m.slots).rows.getD x.toNat []).getD 2 .u=.i (kys m x).b:=qb (by omega)
 have s1:=GQ g1 (b:=bk m (kys m x)) b1 (by simp only [link,List.length_set];exact b2)
 have s2:=GQ hC b1 b2
 rw [g2 _ (by omega),show (((bk m (kys m x)).toNat : Nat) : Int)=bk m (kys m x) from by omega,if_pos rfl] at s1
 refine ag (by simp only [nrm,xdn,reduceIte,Nat.reduceLT,Nat.reduceSub,Nat.reduceAdd];omega) (ag (by simp only [nrm,xdn,reduceIte,Nat.reduceLT,Nat.reduceSub,Nat.reduceAdd,aN];omega) ?_)
 refine ai d97 [.i (bk m (kys m x)),.i (aY (kys m x) m.heads.length).2] rfl trivial (by simp only [nrm,xdn,reduceIte,Nat.reduceLT,Nat.reduceSub,Nat.reduceAdd,k1,k2,aw,fn97];rfl) ?_
 have hll : (chL m (bk m (kys m x)).toNat).length≤m.slots.length:=(oL hm _).1
 generalize chL m (bk m (kys m x)).toNat=l at *
 generalize hq : link m x (bk m (kys m x))=q at *
 refine ai d70 [af (x :: l),.i 0] rfl trivial (by simp only [nrm,xdn,reduceIte,Nat.reduceLT,Nat.reduceSub,Nat.reduceAdd,Mem.cds,lca,fn70,s1]) ?_
 refine ai d70 [af l,.i 0] rfl trivial (by simp only [nrm,xdn,reduceIte,Nat.reduceLT,Nat.reduceSub,Nat.reduceAdd,Mem.cds,lca,fn70,s2]) ?_
 rw [b3]
 refine Bf (by simp only [nrm,xdn,reduceIte,Nat.reduceLT,Nat.reduceSub,Nat.reduceAdd,Mem.cds,lca]) ?_
 refine Bf (by simp only [nrm,xdn,reduceIte,Nat.reduceLT,Nat.reduceSub,Nat.reduceAdd,Mem.cds,lca]) ?_
 refine Bf (by simp only [nrm,xdn,reduceIte,Nat.reduceLT,Nat.reduceSub,Nat.reduceAdd,Mem.cds,lca]) ?_
 refine eh (by simp only [nrm,xdn,reduceIte,Nat.reduceLT,Nat.reduceSub,Nat.reduceAdd,aw];omega) (ai d39 [.b true] rfl trivial ?_ (aj ?_))
 ·simp only [nrm,xdn,reduceIte,Nat.reduceLT,Nat.reduceSub,Nat.reduceAdd,CD.row,List.headD_cons,Mem.cds,lca]
  exact JE (x :: l)
 ·simp only [nrm,xdn,reduceIte,Nat.reduceLT,Nat.reduceSub,Nat.reduceAdd]
end Go.Proofs.Ytpmamacjepcdmaa
