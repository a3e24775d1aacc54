import Derived.Test.YtpmamacjepcdmaaCEnds3
import Derived.Test.YtpmamacjepcdmaaCTouch
import Derived.Test.YtpmamacjepcdmaaCChainLaws3
namespace Go.Proofs.Ytpmamacjepcdmaa
open Go Go.Sy Go.RowKit
set_option linter.unusedSimpArgs false
set_option linter.unusedVariables false
def s196 : Sig:=⟨[.one (.fz kT),.fn 197],[.one (.bool)]⟩
def d196 : DC:=⟨s196,fun _=>True,fun l=>[.b ((l.getD 0 .u).tS.any fun t=>t.busy)]⟩
theorem tr {ts : List Tsk} {k : Nat} (h : k < ts.length) : ((aX ts).rows.getD k []).getD 0 .u=.b (ts.getD k default).busy:=fk Tsk.row ts k 0 h
theorem tt {ts : List Tsk} {k : Nat} (h : k < ts.length) : ((ts.take (k + 1)).any fun t=>t.busy)=((ts.take k).any (fun t=>t.busy) || (ts.getD k default).busy):=by
 have e : ts.take (k + 1)=ts.take k ++ [ts.getD k default]:=by
  rw [List.take_succ_eq_append_getElem h,List.getD_eq_getElem?_getD,List.getElem?_eq_getElem h];rfl
 rw [e,List.any_append]
 simp
def l196 : List (Nat × Ct):=[]
noncomputable def z196 : Cx:={ T:=ttA,C:=sigs l196,F:=[(212,Try.f212),(197,Try.f197)],hints:=[⟨212,2,false,[(8,.lt)],[],[],[],0⟩],sig:=s196}
def t196 : Tree :=
 (.loop 1 [.int .i64] [.int 0]
 (.ite (.lt (.var 2) (.len (.var 0)))
 (.need (.le (.int 0) (.var 2))
 (.ite (.cell (.var 0) (.var 2) 0)
 (.ret [.le (.int 0) (.var 2)])
 (.need (.fit (.add (.var 2) (.int 1)))
 (.back 1 [.add (.var 2) (.int 1)]))))
 (.ret [.bool false])))
theorem run196 : run z196 6000 [.code (Try.f196.body.getD .skip),.fin (br z196 Try.f196.results.toList 50)] { fn:=196,tmps:=z196.sig.aL ++ List.replicate (Try.f196.ntmps - z196.sig.aL.length) (.v (.one .undef)),stk:=[],h:=z196.sig.h0,nx:=z196.sig.ins.length,known:=[]}=t196:=by kernel_rfl
theorem ok196 : cA Try.prog 196 d196.ct:=by
 refine aB (d:=d196) (Z:=z196) (Γ:=gam l196) (fn:=Try.f196) (c:=Try.f196.body.getD .skip) (bc tok mixed all_nil (jY (c:=Try.f212.body.getD .skip) Try.func212 (by kernel_rfl) (by kernel_rfl) (jY (c:=Try.f197.body.getD .skip) Try.func197 (by kernel_rfl) (by kernel_rfl) bd))) Try.func196 (by kernel_rfl) (by kernel_rfl) rfl run196 fun E hk hp=>?_
 obtain ⟨hk0,_⟩:=hk
 obtain ⟨ts,e0,hts,b0⟩:=gS (d:=E 0) hk0
 have b0 : ts.length * 160≤140737488355328:=b0
 have el : aH E d196.sig.ins.length=[aX ts]:=by
  show [E 0]=_
  rw [e0]
 rw [el] at hp
 rw [el]
 rw [Env.bE el]
 clear el e0
 simp only [d196,List.getD_cons_zero,fO fun t ht=>(hts t ht).1]
 unfold t196
 refine bY (fun ds=>∃ k : Nat,ds=[.i k]∧k≤ts.length∧((ts.take k).any fun t=>t.busy)=false) (fun ds=>ts.length - (ds.getD 0 .u).int.toNat) ⟨0,rfl,by omega,by simp⟩ ?_
 rintro ds - ⟨k,rfl,hk,ha⟩
 refine ah (fun h=>?_) (fun h=>aj ?_)
 ·simp only [nrm,xdn,reduceIte,Nat.reduceLT,Nat.reduceSub,Nat.reduceAdd,cz] at h
  have hb:=tr (ts:=ts) (k:=k) (by omega)
  refine ag (by simp only [nrm,xdn,reduceIte,Nat.reduceLT,Nat.reduceSub,Nat.reduceAdd];omega) (ah (fun h1=>aj ?_) (fun h1=>a9 (by simp only [nrm,xdn,reduceIte,Nat.reduceLT,Nat.reduceSub,Nat.reduceAdd];omega) (bU ⟨⟨k + 1,?_,by omega,?_⟩,?_⟩)))
  ·simp only [nrm,xdn,reduceIte,Nat.reduceLT,Nat.reduceSub,Nat.reduceAdd,Int.toNat_natCast,hb] at h1 ⊢
   have : (ts.any fun t=>t.busy)=true:=List.any_eq_true.2 ⟨_,eQ (by omega),h1⟩
   rw [this]
   simp
  ·simp only [nrm,xdn,reduceIte,Nat.reduceLT,Nat.reduceSub,Nat.reduceAdd];rfl
  ·simp only [nrm,xdn,reduceIte,Nat.reduceLT,Nat.reduceSub,Nat.reduceAdd,Int.toNat_natCast,hb] at h1
   rw [tt (by omega),ha]
   simpa using h1
  ·simp only [nrm,xdn,reduceIte,Nat.reduceLT,Nat.reduceSub,Nat.reduceAdd];omega
 ·simp only [nrm,xdn,reduceIte,Nat.reduceLT,Nat.reduceSub,Nat.reduceAdd,cz] at h
  have e : k=ts.length:=by omega
  rw [e,List.take_length] at ha
  simp only [nrm,xdn,reduceIte,Nat.reduceLT,Nat.reduceSub,Nat.reduceAdd,ha]
theorem qs : ∀ {n k : Nat} {w : Wrd},dB w=false→k + n≤w.ts.length→cf n k w=w
 | 0,_,_,_,_=>rfl
 | n + 1,k,w,h,hk=>by
  have : sw w k=w:=by
   unfold sw
   rw [if_neg fun hb=>by
    have:=kb.2 ⟨(k : Int),by omega,by omega,hb⟩
    rw [h] at this;cases this]
  show cf n (k + 1) (sw w k)=w
  rw [this]
  exact qs h (by omega)
theorem ze {w : Wrd} (h : w.aS=w) (k : Nat) : (sw w k).aS=sw w k:=by
 unfold sw
 split
 ·simp only [Wrd.aS,List.map_map];rfl
 ·exact h
theorem rP (w : Wrd) : aX w.aS.ts=aX w.ts:=by
 simp only [aX,Wrd.aS,List.map_map];rfl
def s137 : Sig:=⟨[.agg [.fz kS,.fz kI,.fz kI,.fz kI,.int .i64,.fz kT],.one (.int .i64)],[.agg [.fz kS,.fz kI,.fz kI,.fz kI,.int .i64,.fz kT],.one (.bool)]⟩
def d137 : DC:=⟨s137,fun l=>Inv (Wrd.of l).aS∧(l.getD 6 .u).int≤1000,fun l=>(dg (l.getD 6 .u).int.toNat (Wrd.of l).aS).gi ++ [.b (!dB (dg (l.getD 6 .u).int.toNat (Wrd.of l).aS))]⟩
def l137 : List (Nat × Ct):=[(140,d140.ct),(196,d196.ct)]
def z137 : Cx:={ T:=ttA,C:=sigs l137,F:=[],hints:=[⟨137,2,false,[(12,.lt)],[(0,0,.fz kS),(0,1,.fz kI),(0,2,.fz kI),(0,3,.fz kI),(0,4,.lt),(0,5,.fz kT)],[],[],0⟩,⟨137,5,false,[(17,.lt),(6,.lt)],[(0,0,.fz kS),(0,1,.fz kI),(0,2,.fz kI),(0,3,.fz kI),(0,4,.lt),(0,5,.fz kT)],[],[],0⟩],sig:=s137}
def t137 : Tree :=
 (.loop 7 [.int .i64,.sl 48 [.int .i64,.int .i64,.int .i64,.int .i64,.bool,.int .i64],.sl 8 [.int .i64],.sl 8 [.int .i64],.sl 8 [.int .i64],.int .i64,.sl 160 [.bool,.int .i64,.int .i64,.int .i64,.int .i64,.int .i64,.int .i64,.int .i64,.int .i64,.int .i64,.int .i64,.int .i64,.sl 16 [.int .i64,.int .i64],.bool,.int .i64,.sl 8 [.int .i64]]] [.int 0,.var 0,.var 1,.var 2,.var 3,.var 4,.var 5]
 (.ite (.lt (.var 8) (.var 6))
 (.loop 15 [.bool,.int .i64,.sl 48 [.int .i64,.int .i64,.int .i64,.int .i64,.bool,.int .i64],.sl 8 [.int .i64],.sl 8 [.int .i64],.sl 8 [.int .i64],.int .i64,.sl 160 [.bool,.int .i64,.int .i64,.int .i64,.int .i64,.int .i64,.int .i64,.int .i64,.int .i64,.int .i64,.int .i64,.int .i64,.sl 16 [.int .i64,.int .i64],.bool,.int .i64,.sl 8 [.int .i64]]] [.bool false,.int 0,.var 9,.var 10,.var 11,.var 12,.var 13,.var 14]
 (.ite (.lt (.var 17) (.len (.var 14)))
 (.need (.le (.int 0) (.var 17))
 (.ite (.not (.cell (.var 14) (.var 17) 0))
 (.need (.fit (.add (.var 17) (.int 1)))
 (.back 15 [.var 16,.add (.var 17) (.int 1),.var 18,.var 19,.var 20,.var 21,.var 22,.var 23]))
 (.call 140 [.var 18,.var 19,.var 20,.var 21,.var 22,.var 23,.var 17,.bool true,.bool false,.int 0,.int 0,.int 0,.int 0,.int 0,.int 0] 24
 (.ite (.not (.eq (.var 30) (.int 0)))
 (.ret [.var 18,.var 19,.var 20,.var 21,.var 22,.var 23,.bool false])
 (.need (.fit (.add (.var 17) (.int 1)))
 (.need (.clean (.var 29) 15)
 (.back 15 [.bool true,.add (.var 17) (.int 1),.var 24,.var 25,.var 26,.var 27,.var 28,.shuts (.var 29) 15])))))))
 (.ite (.not (.var 16))
 (.ret [.var 18,.var 19,.var 20,.var 21,.var 22,.var 23,.bool true])
 (.need (.fit (.add (.var 8) (.int 1)))
 (.back 7 [.add (.var 8) (.int 1),.var 18,.var 19,.var 20,.var 21,.var 22,.var 23])))))
 (.call 196 [.var 14] 15
 (.ret [.var 9,.var 10,.var 11,.var 12,.var 13,.var 14,.not (.var 15)]))))
theorem run137 : run z137 6000 [.code (Try.f137.body.getD .skip),.fin (br z137 Try.f137.results.toList 50)] { fn:=137,tmps:=z137.sig.aL ++ List.replicate (Try.f137.ntmps - z137.sig.aL.length) (.v (.one .undef)),stk:=[],h:=z137.sig.h0,nx:=z137.sig.ins.length,known:=[]}=t137:=by kernel_rfl
set_option maxHeartbeats 4000000 in
theorem ok137 : cA Try.prog 137 d137.ct:=by
 refine aB (d:=d137) (Z:=z137) (Γ:=gam l137) (fn:=Try.f137) (c:=Try.f137.body.getD .skip) (bc tok mixed (all_cons ok140 (all_cons ok196 all_nil)) bd) Try.func137 (by kernel_rfl) (by kernel_rfl) rfl run137 fun E hk hp=>?_
 obtain ⟨hk0,hk1,hk2,hk3,hk4,hk5,hk6,_⟩:=hk
 obtain ⟨m,e0,e1,e2,e3,e4,b0,b1,b2,b3⟩:=cr (d0:=E 0) (d1:=E 1) (d2:=E 2) (d3:=E 3) (d4:=E 4) hk0 hk1 hk2 hk3 hk4
 obtain ⟨ts,e5,hts,b5⟩:=gS (d:=E 5) hk5
 have b5 : ts.length * 160≤140737488355328:=b5
 obtain ⟨x,e6⟩:=ok_int (d:=E 6) hk6
 have el : aH E d137.sig.ins.length=[aq m.slots,ae m.heads,ae m.free,ae m.af,.i m.now,aX ts,.i x]:=by
  show [E 0,E 1,E 2,E 3,E 4,E 5,E 6]=_
  rw [e0,e1,e2,e3,e4,e5,e6]
 rw [el] at hp
 rw [el]
 rw [Env.bE el]
 clear el e0 e1 e2 e3 e4 e5 e6
 have hlm : Wrd.aS (Wrd.bH ⟨m,ts⟩)=Wrd.aS ⟨m,ts⟩:=di ⟨m,ts⟩
 simp only [d137,dm,aw,hlm,List.getD_cons_zero,List.getD_cons_succ,CD.aP] at hp ⊢
 obtain ⟨W,hW⟩ : ∃ W,Wrd.aS ⟨m,ts⟩=W:=⟨_,rfl⟩
 rw [hW] at hp ⊢
 obtain ⟨hp,hx⟩:=hp
 have hWm : W.aS=W:=by rw [← hW];simp only [Wrd.aS,List.map_map];rfl
 have eW : W.m=m∧aX W.ts=aX ts:=by rw [← hW];exact ⟨rfl,rP ⟨m,ts⟩⟩
 unfold t137
 refine bY (fun ds=>∃ (i : Nat) (v : Wrd),ds=[.i i,aq v.m.slots,ae v.m.heads,ae v.m.free,ae v.m.af,.i v.m.now,aX v.ts]∧Inv v∧v.aS=v∧i≤x.toNat∧dg x.toNat W=dg (x.toNat - i) v) (fun ds=>x.toNat - (ds.getD 0 .u).int.toNat) ⟨0,W,?_,hp,hWm,by omega,rfl⟩ ?_
 ·rw [eW.1,eW.2]
  simp only [nrm,xdn,reduceIte,Nat.reduceLT,Nat.reduceSub,Nat.reduceAdd];rfl
 rintro ds - ⟨i,v,rfl,hv,hvm,hi,he⟩
 have hl5:=hv.lo.2
 rw [he]
 refine ah (fun h=>?_) (fun h=>?_)
 ·simp only [nrm,xdn,reduceIte,Nat.reduceLT,Nat.reduceSub,Nat.reduceAdd] at h
  refine bY (fun ds=>∃ (k : Nat) (u : Wrd),ds=[.b ((v.ts.take k).any fun t=>t.busy),.i k,aq u.m.slots,ae u.m.heads,ae u.m.free,ae u.m.af,.i u.m.now,aX u.ts]∧Inv u∧u.aS=u∧k≤v.ts.length∧u.ts.length=v.ts.length∧cf v.ts.length 0 v=cf (v.ts.length - k) k u∧∀ j : Nat,k≤j→j < v.ts.length→(tsk u j).busy=(tsk v j).busy)
   (fun ds=>v.ts.length - (ds.getD 1 .u).int.toNat) ⟨0,v,?_,hv,hvm,by omega,rfl,rfl,fun _ _ _=>rfl⟩ ?_
  ·simp only [nrm,xdn,reduceIte,Nat.reduceLT,Nat.reduceSub,Nat.reduceAdd,List.take_zero,List.any_nil];rfl
  rintro ds - ⟨k,u,rfl,hu,hum,hk,hul,hs,hb⟩
  refine ah (fun h1=>?_) (fun h1=>?_)
  ·simp only [nrm,xdn,reduceIte,Nat.reduceLT,Nat.reduceSub,Nat.reduceAdd,cz] at h1
   have hbk:=tr (ts:=v.ts) (k:=k) (by omega)
   have hs1 : cf (v.ts.length - k) k u=cf (v.ts.length - (k + 1)) (k + 1) (sw u k):=by
    rw [show v.ts.length - k=(v.ts.length - (k + 1)) + 1 by omega];rfl
   have ebk : (tsk u k).busy=(v.ts.getD k default).busy:=by
    rw [hb k (Nat.le_refl _) (by omega)]
    unfold tsk
    rw [Int.toNat_natCast]
   refine ag (by simp only [nrm,xdn,reduceIte,Nat.reduceLT,Nat.reduceSub,Nat.reduceAdd];omega) (ah (fun h2=>?_) (fun h2=>?_))
   ·simp only [nrm,xdn,reduceIte,Nat.reduceLT,Nat.reduceSub,Nat.reduceAdd,Int.toNat_natCast,hbk] at h2
    have h2 : (v.ts.getD k default).busy=false:=by simpa using h2
    have hse : sw u k=u:=by unfold sw;rw [if_neg (by rw [ebk,h2];simp)]
    rw [hse] at hs1
    refine a9 (by simp only [nrm,xdn,reduceIte,Nat.reduceLT,Nat.reduceSub,Nat.reduceAdd];omega) (bU ⟨⟨k + 1,u,?_,hu,hum,by omega,hul,hs.trans hs1,fun j p q=>hb j (by omega) q⟩,?_⟩)
    ·simp only [nrm,xdn,reduceIte,Nat.reduceLT,Nat.reduceSub,Nat.reduceAdd]
     rw [tt (by omega),h2,Bool.or_false];rfl
    ·simp only [nrm,xdn,reduceIte,Nat.reduceLT,Nat.reduceSub,Nat.reduceAdd];omega
   ·simp only [nrm,xdn,reduceIte,Nat.reduceLT,Nat.reduceSub,Nat.reduceAdd,Int.toNat_natCast,hbk] at h2
    have h2 : (v.ts.getD k default).busy=true:=by simpa using h2
    have hub : (tsk u k).busy=true:=by rw [ebk];exact h2
    have huk : k < u.ts.length:=by omega
    have hse : sw u k=(b7 u (goP k)).1.aS:=by unfold sw;rw [if_pos hub]
    obtain ⟨o1,o2,o3,o4,o5⟩:=rU huk hub
    have hdo : doW u.bH (goP k)=((b7 u (goP k)).1,0):=by
     have e2 : (b7 u (goP k)).2=0:=by rw [rC huk];exact (rX (by omega) (by omega) hub).2.2.2.1
     unfold doW
     rw [if_neg (fun y=>y hu.bH.check.1),di,hum,if_neg (fun y=>y e2)]
    obtain ⟨z,hz⟩ : ∃ z,(b7 u (goP k)).1=z:=⟨_,rfl⟩
    rw [hz] at hdo hse
    have hmem : (sw u k).m=z.m:=by rw [hse];rfl
    refine ai d140 [aq z.m.slots,ae z.m.heads,ae z.m.free,ae z.m.af,.i z.m.now,ax z.ts,.i 0] rfl trivial ?_ (ah (fun hn=>?_) (fun _=>?_))
    ·simp only [nrm,xdn,reduceIte,Nat.reduceLT,Nat.reduceSub,Nat.reduceAdd,d140,dm,aw,List.drop_succ_cons,List.drop_zero,nL,cx]
     show (doW u.bH (goP k)).1.cds ++ [.i (doW u.bH (goP k)).2]=_
     rw [hdo];rfl
    ·simp only [nrm,xdn,reduceIte,Nat.reduceLT,Nat.reduceSub,Nat.reduceAdd] at hn
     simp at hn
    ·refine a9 (by simp only [nrm,xdn,reduceIte,Nat.reduceLT,Nat.reduceSub,Nat.reduceAdd];omega) (ag (by simp only [nrm,xdn,reduceIte,Nat.reduceLT,Nat.reduceSub,Nat.reduceAdd];exact aI _) (bU ⟨⟨k + 1,sw u k,?_,nF hu k,ze hum k,by omega,by rw [o2];exact hul,hs.trans hs1,fun j p q=>?_⟩,?_⟩))
     ·simp only [nrm,xdn,reduceIte,Nat.reduceLT,Nat.reduceSub,Nat.reduceAdd,bW]
      rw [tt (by omega),h2,Bool.or_true,hmem,show aX (sw u k).ts=aX z.ts by rw [hse];exact rP z];rfl
     ·rw [(o3 j (by omega) (by omega) (by omega)).1];exact hb j (by omega) q
     ·simp only [nrm,xdn,reduceIte,Nat.reduceLT,Nat.reduceSub,Nat.reduceAdd];omega
  ·simp only [nrm,xdn,reduceIte,Nat.reduceLT,Nat.reduceSub,Nat.reduceAdd,cz] at h1
   have ek : k=v.ts.length:=by omega
   subst ek
   rw [Nat.sub_self] at hs
   have hs : cf v.ts.length 0 v=u:=hs
   have hR : x.toNat - i=(x.toNat - (i + 1)) + 1:=by omega
   refine ah (fun h2=>aj ?_) (fun h2=>?_)
   ·simp only [nrm,xdn,reduceIte,Nat.reduceLT,Nat.reduceSub,Nat.reduceAdd,List.take_length] at h2 ⊢
    have h2 : dB v=false:=by unfold dB;simpa using h2
    have huv : u=v:=by rw [← hs];exact qs h2 (by omega)
    have hend : dg (x.toNat - i) v=v:=by rw [hR,dg,if_neg (by rw [h2];simp)]
    rw [hend,huv,h2];rfl
   ·simp only [nrm,xdn,reduceIte,Nat.reduceLT,Nat.reduceSub,Nat.reduceAdd,List.take_length] at h2
    have h2 : dB v=true:=by unfold dB;simpa using h2
    refine a9 (by simp only [nrm,xdn,reduceIte,Nat.reduceLT,Nat.reduceSub,Nat.reduceAdd];omega) (iN (by decide) ⟨⟨i + 1,u,?_,hu,hum,by omega,?_⟩,?_⟩)
    ·simp only [nrm,xdn,reduceIte,Nat.reduceLT,Nat.reduceSub,Nat.reduceAdd];rfl
    ·rw [hR,dg,if_pos h2,hs]
    ·simp only [nrm,xdn,reduceIte,Nat.reduceLT,Nat.reduceSub,Nat.reduceAdd];omega
 ·simp only [nrm,xdn,reduceIte,Nat.reduceLT,Nat.reduceSub,Nat.reduceAdd] at h
  have e0 : x.toNat - i=0:=by omega
  rw [e0]
  show Tree.den _ (fun outs=>outs=v.gi ++ [.b (!dB v)]) _ _ _
  refine ai d196 [.b (dB v)] rfl trivial ?_ (aj ?_)
  ·simp only [nrm,xdn,reduceIte,Nat.reduceLT,Nat.reduceSub,Nat.reduceAdd,d196]
   rw [ji,jw]
   unfold dB
   rw [List.any_map];rfl
  ·simp only [nrm,xdn,reduceIte,Nat.reduceLT,Nat.reduceSub,Nat.reduceAdd];rfl
end Go.Proofs.Ytpmamacjepcdmaa

namespace Go.Proofs.Ytpmamacjepcdmaa
open Go Go.Sy Go.RowKit
set_option linter.unusedSimpArgs false
set_option linter.unusedVariables false
theorem sh {m : Mem} {k : Key} : ∀ {l : List Int} {n e : Int},Path m n l e→(∀ a∈l,kys m a≠k)∧Seg m n l e∨∃ l1 a l2,l=l1 ++ a :: l2∧(∀ a∈l1,kys m a≠k)∧kys m a=k∧Seg m n l1 (a + 1)∧0≤a
 | [],n,e,h=>.inl ⟨fun _ h=>(by cases h),h.1⟩
 | c :: l,n,e,h=>by
  obtain ⟨h1,h2,h3⟩:=h
  by_cases hc : kys m c=k
  ·exact .inr ⟨[],c,l,rfl,fun _ h=>by (cases h),hc,h1,by omega⟩
  ·rcases sh h3 with ⟨k1,k2⟩ | ⟨l1,a,l2,e1,k1,k2,k3,k4⟩
   ·exact .inl ⟨fun a ha=>by rcases List.mem_cons.1 ha with rfl | ha;exact hc;exact k1 a ha,h1,h2,k2⟩
   ·exact .inr ⟨c :: l1,a,l2,by rw [e1];rfl,fun a ha=>by rcases List.mem_cons.1 ha with rfl | ha;exact hc;exact k1 a ha,k2,⟨h1,h2,k3⟩,k4⟩
end Go.Proofs.Ytpmamacjepcdmaa
