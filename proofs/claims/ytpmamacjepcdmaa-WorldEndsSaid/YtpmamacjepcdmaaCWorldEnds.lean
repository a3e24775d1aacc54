import Derived.Test.YtpmamacjepcdmaaCEnds3
namespace Go.Proofs.Ytpmamacjepcdmaa
open Go Go.Sy Go.RowKit
set_option linter.unusedSimpArgs false
set_option linter.unusedVariables false
def s196 : Sig:=⟨[.one (.fz kT),.fn 197],[.one (.bool)]⟩
def d196 : DC:=⟨s196,fun _=>True,fun l=>[.b ((l.getD 0 .u).rK.any fun t=>t.busy)]⟩
theorem DZ {ts : List Tsk} {k : Nat} (h : k < ts.length) : ((aA ts).rows.getD k []).getD 0 .u=.b (ts.getD k default).busy:=fy Tsk.row ts k 0 h
theorem D1 {ts : List Tsk} {k : Nat} (h : k < ts.length) : ((ts.take (k + 1)).any fun t=>t.busy)=((ts.take k).any (fun t=>t.busy) || (ts.getD k default).busy):=by
 have e : ts.take (k + 1)=ts.take k ++ [ts.getD k default]:=by
  rw [List.take_succ_eq_append_getElem h,List.getD_eq_getElem?_getD,List.getElem?_eq_getElem h];rfl
 rw [e,List.any_append]
 simp
def l196 : List (Nat × Ct):=[]
noncomputable def z196 : Cx:={ T:=ttA,C:=sigs l196,F:=[(212,Try.f212),(197,Try.f197)],hints:=[⟨212,2,false,[(8,.lt)],[],[],[],0⟩],sig:=s196}
def t196 : Tree :=
 (.loop 1 [.int .i64] [.int 0]
 (.ite (.lt (.var 2) (.len (.var 0)))
 (.need (.le (.int 0) (.var 2))
 (.ite (.cell (.var 0) (.var 2) 0)
 (.ret [.le (.int 0) (.var 2)])
 (.need (.fit (.add (.var 2) (.int 1)))
 (.back 1 [.add (.var 2) (.int 1)]))))
 (.ret [.bool false])))
theorem run196 : run z196 6000 [.code (Try.f196.body.getD .skip),.fin (aP z196 Try.f196.results.toList 50)] { fn:=196,tmps:=z196.sig.aE ++ List.replicate (Try.f196.ntmps - z196.sig.aE.length) (.v (.one .undef)),stk:=[],h:=z196.sig.h0,nx:=z196.sig.ins.length,known:=[]}=t196:=by kernel_rfl
theorem ok196 : bJ Try.prog 196 d196.ct:=by
 refine ax (d:=d196) (Z:=z196) (Γ:=gam l196) (fn:=Try.f196) (c:=Try.f196.body.getD .skip) (aJ tok mixed all_nil (cv (c:=Try.f212.body.getD .skip) Try.func212 (by kernel_rfl) (by kernel_rfl) (cv (c:=Try.f197.body.getD .skip) Try.func197 (by kernel_rfl) (by kernel_rfl) aK))) Try.func196 (by kernel_rfl) (by kernel_rfl) rfl run196 fun E hk hp=>?_
 obtain ⟨hk0,_⟩:=hk
 obtain ⟨ts,e0,hts,b0⟩:=dB (d:=E 0) hk0
 have b0 : ts.length * 160≤140737488355328:=b0
 have el : aG E d196.sig.ins.length=[aA ts]:=by
  show [E 0]=_
  rw [e0]
 rw [el] at hp
 rw [el]
 rw [Env.aU el]
 clear el e0
 simp only [d196,List.getD_cons_zero,dR fun t ht=>(hts t ht).1]
 unfold t196
 refine bD (fun ds=>∃ k : Nat,ds=[.i k]∧k≤ts.length∧((ts.take k).any fun t=>t.busy)=false) (fun ds=>ts.length - (ds.getD 0 .u).int.toNat) ⟨0,rfl,by omega,by simp⟩ ?_
 rintro ds - ⟨k,rfl,hk,ha⟩
 refine ae (fun h=>?_) (fun h=>ag ?_)
 ·simp only [nrm,xdn,reduceIte,Nat.reduceLT,Nat.reduceSub,Nat.reduceAdd,bO] at h
  have hb:=DZ (ts:=ts) (k:=k) (by omega)
  refine af (by simp only [nrm,xdn,reduceIte,Nat.reduceLT,Nat.reduceSub,Nat.reduceAdd];omega) (ae (fun h1=>ag ?_) (fun h1=>aH (by simp only [nrm,xdn,reduceIte,Nat.reduceLT,Nat.reduceSub,Nat.reduceAdd];omega) (bx ⟨⟨k + 1,?_,by omega,?_⟩,?_⟩)))
  ·simp only [nrm,xdn,reduceIte,Nat.reduceLT,Nat.reduceSub,Nat.reduceAdd,Int.toNat_natCast,hb] at h1 ⊢
   have : (ts.any fun t=>t.busy)=true:=List.any_eq_true.2 ⟨_,dn (by omega),h1⟩
   rw [this]
   simp
  ·simp only [nrm,xdn,reduceIte,Nat.reduceLT,Nat.reduceSub,Nat.reduceAdd];rfl
  ·simp only [nrm,xdn,reduceIte,Nat.reduceLT,Nat.reduceSub,Nat.reduceAdd,Int.toNat_natCast,hb] at h1
   rw [D1 (by omega),ha]
   simpa using h1
  ·simp only [nrm,xdn,reduceIte,Nat.reduceLT,Nat.reduceSub,Nat.reduceAdd];omega
 ·simp only [nrm,xdn,reduceIte,Nat.reduceLT,Nat.reduceSub,Nat.reduceAdd,bO] at h
  have e : k=ts.length:=by omega
  rw [e,List.take_length] at ha
  simp only [nrm,xdn,reduceIte,Nat.reduceLT,Nat.reduceSub,Nat.reduceAdd,ha]
theorem DV : ∀ {n k : Nat} {w : Wrd},Dy w=false→k + n≤w.ts.length→Dq n k w=w
 | 0,_,_,_,_=>rfl
 | n + 1,k,w,h,hk=>by
  have : sw w k=w:=by
   unfold sw
   rw [if_neg fun hb=>by
    have:=D0.2 ⟨(k : Int),by omega,by omega,hb⟩
    rw [h] at this;cases this]
  show Dq n (k + 1) (sw w k)=w
  rw [this]
  exact DV h (by omega)
theorem ET {w : Wrd} (h : w.bU=w) (k : Nat) : (sw w k).bU=sw w k:=by
 unfold sw
 split
 ·simp only [Wrd.bU,List.map_map];rfl
 ·exact h
theorem DX (w : Wrd) : aA w.bU.ts=aA w.ts:=by
 simp only [aA,Wrd.bU,List.map_map];rfl
def s137 : Sig:=⟨[.agg [.fz kS,.fz kI,.fz kI,.fz kI,.int .i64,.fz kT],.one (.int .i64)],[.agg [.fz kS,.fz kI,.fz kI,.fz kI,.int .i64,.fz kT],.one (.bool)]⟩
def d137 : DC:=⟨s137,fun l=>Inv (Wrd.of l).bU∧(l.getD 6 .u).int≤1000,fun l=>(DG (l.getD 6 .u).int.toNat (Wrd.of l).bU).ri ++ [.b (!Dy (DG (l.getD 6 .u).int.toNat (Wrd.of l).bU))]⟩
def l137 : List (Nat × Ct):=[(140,d140.ct),(196,d196.ct)]
def z137 : Cx:={ T:=ttA,C:=sigs l137,F:=[],hints:=[⟨137,2,false,[(12,.lt)],[(0,0,.fz kS),(0,1,.fz kI),(0,2,.fz kI),(0,3,.fz kI),(0,4,.lt),(0,5,.fz kT)],[],[],0⟩,⟨137,5,false,[(17,.lt),(6,.lt)],[(0,0,.fz kS),(0,1,.fz kI),(0,2,.fz kI),(0,3,.fz kI),(0,4,.lt),(0,5,.fz kT)],[],[],0⟩],sig:=s137}
def t137 : Tree :=
 (.loop 7 [.int .i64,.sl 48 [.int .i64,.int .i64,.int .i64,.int .i64,.bool,.int .i64],.sl 8 [.int .i64],.sl 8 [.int .i64],.sl 8 [.int .i64],.int .i64,.sl 160 [.bool,.int .i64,.int .i64,.int .i64,.int .i64,.int .i64,.int .i64,.int .i64,.int .i64,.int .i64,.int .i64,.int .i64,.sl 16 [.int .i64,.int .i64],.bool,.int .i64,.sl 8 [.int .i64]]] [.int 0,.var 0,.var 1,.var 2,.var 3,.var 4,.var 5]
 (.ite (.lt (.var 8) (.var 6))
 (.loop 15 [.bool,.int .i64,.sl 48 [.int .i64,.int .i64,.int .i64,.int .i64,.bool,.int .i64],.sl 8 [.int .i64],.sl 8 [.int .i64],.sl 8 [.int .i64],.int .i64,.sl 160 [.bool,.int .i64,.int .i64,.int .i64,.int .i64,.int .i64,.int .i64,.int .i64,.int .i64,.int .i64,.int .i64,.int .i64,.sl 16 [.int .i64,.int .i64],.bool,.int .i64,.sl 8 [.int .i64]]] [.bool false,.int 0,.var 9,.var 10,.var 11,.var 12,.var 13,.var 14]
 (.ite (.lt (.var 17) (.len (.var 14)))
 (.need (.le (.int 0) (.var 17))
 (.ite (.not (.cell (.var 14) (.var 17) 0))
 (.need (.fit (.add (.var 17) (.int 1)))
 (.back 15 [.var 16,.add (.var 17) (.int 1),.var 18,.var 19,.var 20,.var 21,.var 22,.var 23]))
 (.call 140 [.var 18,.var 19,.var 20,.var 21,.var 22,.var 23,.var 17,.bool true,.bool false,.int 0,.int 0,.int 0,.int 0,.int 0,.int 0] 24
 (.ite (.not (.eq (.var 30) (.int 0)))
 (.ret [.var 18,.var 19,.var 20,.var 21,.var 22,.var 23,.bool false])
 (.need (.fit (.add (.var 17) (.int 1)))
 (.need (.clean (.var 29) 15)
 (.back 15 [.bool true,.add (.var 17) (.int 1),.var 24,.var 25,.var 26,.var 27,.var 28,.shuts (.var 29) 15])))))))
 (.ite (.not (.var 16))
 (.ret [.var 18,.var 19,.var 20,.var 21,.var 22,.var 23,.bool true])
 (.need (.fit (.add (.var 8) (.int 1)))
 (.back 7 [.add (.var 8) (.int 1),.var 18,.var 19,.var 20,.var 21,.var 22,.var 23])))))
 (.call 196 [.var 14] 15
 (.ret [.var 9,.var 10,.var 11,.var 12,.var 13,.var 14,.not (.var 15)]))))
theorem run137 : run z137 6000 [.code (Try.f137.body.getD .skip),.fin (aP z137 Try.f137.results.toList 50)] { fn:=137,tmps:=z137.sig.aE ++ List.replicate (Try.f137.ntmps - z137.sig.aE.length) (.v (.one .undef)),stk:=[],h:=z137.sig.h0,nx:=z137.sig.ins.length,known:=[]}=t137:=by kernel_rfl
set_option maxHeartbeats 4000000 in
theorem ok137 : bJ Try.prog 137 d137.ct:=by
 refine ax (d:=d137) (Z:=z137) (Γ:=gam l137) (fn:=Try.f137) (c:=Try.f137.body.getD .skip) (aJ tok mixed (all_cons ok140 (all_cons ok196 all_nil)) aK) Try.func137 (by kernel_rfl) (by kernel_rfl) rfl run137 fun E hk hp=>?_
 obtain ⟨hk0,hk1,hk2,hk3,hk4,hk5,hk6,_⟩:=hk
 obtain ⟨m,e0,e1,e2,e3,e4,b0,b1,b2,b3⟩:=bp (d0:=E 0) (d1:=E 1) (d2:=E 2) (d3:=E 3) (d4:=E 4) hk0 hk1 hk2 hk3 hk4
 obtain ⟨ts,e5,hts,b5⟩:=dB (d:=E 5) hk5
 have b5 : ts.length * 160≤140737488355328:=b5
 obtain ⟨x,e6⟩:=ok_int (d:=E 6) hk6
 have el : aG E d137.sig.ins.length=[ai m.slots,aa m.heads,aa m.free,aa m.kM,.i m.now,aA ts,.i x]:=by
  show [E 0,E 1,E 2,E 3,E 4,E 5,E 6]=_
  rw [e0,e1,e2,e3,e4,e5,e6]
 rw [el] at hp
 rw [el]
 rw [Env.aU el]
 clear el e0 e1 e2 e3 e4 e5 e6
 have hlm : Wrd.bU (Wrd.cU ⟨m,ts⟩)=Wrd.bU ⟨m,ts⟩:=zi ⟨m,ts⟩
 simp only [d137,oe,aq,hlm,List.getD_cons_zero,List.getD_cons_succ,CD.aL] at hp ⊢
 obtain ⟨W,hW⟩ : ∃ W,Wrd.bU ⟨m,ts⟩=W:=⟨_,rfl⟩
 rw [hW] at hp ⊢
 obtain ⟨hp,hx⟩:=hp
 have hWm : W.bU=W:=by rw [← hW];simp only [Wrd.bU,List.map_map];rfl
 have eW : W.m=m∧aA W.ts=aA ts:=by rw [← hW];exact ⟨rfl,DX ⟨m,ts⟩⟩
 unfold t137
 refine bD (fun ds=>∃ (i : Nat) (v : Wrd),ds=[.i i,ai v.m.slots,aa v.m.heads,aa v.m.free,aa v.m.kM,.i v.m.now,aA v.ts]∧Inv v∧v.bU=v∧i≤x.toNat∧DG x.toNat W=DG (x.toNat - i) v) (fun ds=>x.toNat - (ds.getD 0 .u).int.toNat) ⟨0,W,?_,hp,hWm,by omega,rfl⟩ ?_
 ·rw [eW.1,eW.2]
  simp only [nrm,xdn,reduceIte,Nat.reduceLT,Nat.reduceSub,Nat.reduceAdd];rfl
 rintro ds - ⟨i,v,rfl,hv,hvm,hi,he⟩
 have hl5:=hv.lo.2
 rw [he]
 refine ae (fun h=>?_) (fun h=>?_)
 ·simp only [nrm,xdn,reduceIte,Nat.reduceLT,Nat.reduceSub,Nat.reduceAdd] at h
  refine bD (fun ds=>∃ (k : Nat) (u : Wrd),ds=[.b ((v.ts.take k).any fun t=>t.busy),.i k,ai u.m.slots,aa u.m.heads,aa u.m.free,aa u.m.kM,.i u.m.now,aA u.ts]∧Inv u∧u.bU=u∧k≤v.ts.length∧u.ts.length=v.ts.length∧Dq v.ts.length 0 v=Dq (v.ts.length - k) k u∧∀ j : Nat,k≤j→j < v.ts.length→(tsk u j).busy=(tsk v j).busy)
   (fun ds=>v.ts.length - (ds.getD 1 .u).int.toNat) ⟨0,v,?_,hv,hvm,by omega,rfl,rfl,fun _ _ _=>rfl⟩ ?_
  ·simp only [nrm,xdn,reduceIte,Nat.reduceLT,Nat.reduceSub,Nat.reduceAdd,List.take_zero,List.any_nil];rfl
  rintro ds - ⟨k,u,rfl,hu,hum,hk,hul,hs,hb⟩
  refine ae (fun h1=>?_) (fun h1=>?_)
  ·simp only [nrm,xdn,reduceIte,Nat.reduceLT,Nat.reduceSub,Nat.reduceAdd,bO] at h1
   have hbk:=DZ (ts:=v.ts) (k:=k) (by omega)
   have hs1 : Dq (v.ts.length - k) k u=Dq (v.ts.length - (k + 1)) (k + 1) (sw u k):=by
    rw [show v.ts.length - k=(v.ts.length - (k + 1)) + 1 by omega];rfl
   have ebk : (tsk u k).busy=(v.ts.getD k default).busy:=by
    rw [hb k (Nat.le_refl _) (by omega)]
    unfold tsk
    rw [Int.toNat_natCast]
   refine af (by simp only [nrm,xdn,reduceIte,Nat.reduceLT,Nat.reduceSub,Nat.reduceAdd];omega) (ae (fun h2=>?_) (fun h2=>?_))
   ·simp only [nrm,xdn,reduceIte,Nat.reduceLT,Nat.reduceSub,Nat.reduceAdd,Int.toNat_natCast,hbk] at h2
    have h2 : (v.ts.getD k default).busy=false:=by simpa using h2
    have hse : sw u k=u:=by unfold sw;rw [if_neg (by rw [ebk,h2];simp)]
    rw [hse] at hs1
    refine aH (by simp only [nrm,xdn,reduceIte,Nat.reduceLT,Nat.reduceSub,Nat.reduceAdd];omega) (bx ⟨⟨k + 1,u,?_,hu,hum,by omega,hul,hs.trans hs1,fun j p q=>hb j (by omega) q⟩,?_⟩)
    ·simp only [nrm,xdn,reduceIte,Nat.reduceLT,Nat.reduceSub,Nat.reduceAdd]
     rw [D1 (by omega),h2,Bool.or_false];rfl
    ·simp only [nrm,xdn,reduceIte,Nat.reduceLT,Nat.reduceSub,Nat.reduceAdd];omega
   ·simp only [nrm,xdn,reduceIte,Nat.reduceLT,Nat.reduceSub,Nat.reduceAdd,Int.toNat_natCast,hbk] at h2
    have h2 : (v.ts.getD k default).busy=true:=by simpa using h2
    have hub : (tsk u k).busy=true:=by rw [ebk];exact h2
    have huk : k < u.ts.length:=by omega
    have hse : sw u k=(cJ u (goP k)).1.bU:=by unfold sw;rw [if_pos hub]
    obtain ⟨o1,o2,o3,o4,o5⟩:=D9 huk hub
    have hdo : doW u.cU (goP k)=((cJ u (goP k)).1,0):=by
     have e2 : (cJ u (goP k)).2=0:=by rw [Ey huk];exact (Ea (by omega) (by omega) hub).2.2.2.1
     unfold doW
     rw [if_neg (fun y=>y hu.cU.check.1),zi,hum,if_neg (fun y=>y e2)]
    obtain ⟨z,hz⟩ : ∃ z,(cJ u (goP k)).1=z:=⟨_,rfl⟩
    rw [hz] at hdo hse
    have hmem : (sw u k).m=z.m:=by rw [hse];rfl
    refine ah d140 [ai z.m.slots,aa z.m.heads,aa z.m.free,aa z.m.kM,.i z.m.now,ar z.ts,.i 0] rfl trivial ?_ (ae (fun hn=>?_) (fun _=>?_))
    ·simp only [nrm,xdn,reduceIte,Nat.reduceLT,Nat.reduceSub,Nat.reduceAdd,d140,oe,aq,List.drop_succ_cons,List.drop_zero,DY,bF]
     show (doW u.cU (goP k)).1.cds ++ [.i (doW u.cU (goP k)).2]=_
     rw [hdo];rfl
    ·simp only [nrm,xdn,reduceIte,Nat.reduceLT,Nat.reduceSub,Nat.reduceAdd] at hn
     simp at hn
    ·refine aH (by simp only [nrm,xdn,reduceIte,Nat.reduceLT,Nat.reduceSub,Nat.reduceAdd];omega) (af (by simp only [nrm,xdn,reduceIte,Nat.reduceLT,Nat.reduceSub,Nat.reduceAdd];exact az _) (bx ⟨⟨k + 1,sw u k,?_,DO hu k,ET hum k,by omega,by rw [o2];exact hul,hs.trans hs1,fun j p q=>?_⟩,?_⟩))
     ·simp only [nrm,xdn,reduceIte,Nat.reduceLT,Nat.reduceSub,Nat.reduceAdd,aD]
      rw [D1 (by omega),h2,Bool.or_true,hmem,show aA (sw u k).ts=aA z.ts by rw [hse];exact DX z];rfl
     ·rw [(o3 j (by omega) (by omega) (by omega)).1];exact hb j (by omega) q
     ·simp only [nrm,xdn,reduceIte,Nat.reduceLT,Nat.reduceSub,Nat.reduceAdd];omega
  ·simp only [nrm,xdn,reduceIte,Nat.reduceLT,Nat.reduceSub,Nat.reduceAdd,bO] at h1
   have ek : k=v.ts.length:=by omega
   subst ek
   rw [Nat.sub_self] at hs
   have hs : Dq v.ts.length 0 v=u:=hs
   have hR : x.toNat - i=(x.toNat - (i + 1)) + 1:=by omega
   refine ae (fun h2=>ag ?_) (fun h2=>?_)
   ·simp only [nrm,xdn,reduceIte,Nat.reduceLT,Nat.reduceSub,Nat.reduceAdd,List.take_length] at h2 ⊢
    have h2 : Dy v=false:=by unfold Dy;simpa using h2
    have huv : u=v:=by rw [← hs];exact DV h2 (by omega)
    have hend : DG (x.toNat - i) v=v:=by rw [hR,DG,if_neg (by rw [h2];simp)]
    rw [hend,huv,h2];rfl
   ·simp only [nrm,xdn,reduceIte,Nat.reduceLT,Nat.reduceSub,Nat.reduceAdd,List.take_length] at h2
    have h2 : Dy v=true:=by unfold Dy;simpa using h2
    refine aH (by simp only [nrm,xdn,reduceIte,Nat.reduceLT,Nat.reduceSub,Nat.reduceAdd];omega) (gf (by decide) ⟨⟨i + 1,u,?_,hu,hum,by omega,?_⟩,?_⟩)
    ·simp only [nrm,xdn,reduceIte,Nat.reduceLT,Nat.reduceSub,Nat.reduceAdd];rfl
    ·rw [hR,DG,if_pos h2,hs]
    ·simp only [nrm,xdn,reduceIte,Nat.reduceLT,Nat.reduceSub,Nat.reduceAdd];omega
 ·simp only [nrm,xdn,reduceIte,Nat.reduceLT,Nat.reduceSub,Nat.reduceAdd] at h
  have e0 : x.toNat - i=0:=by omega
  rw [e0]
  show Tree.den _ (fun outs=>outs=v.ri ++ [.b (!Dy v)]) _ _ _
  refine ah d196 [.b (Dy v)] rfl trivial ?_ (ag ?_)
  ·simp only [nrm,xdn,reduceIte,Nat.reduceLT,Nat.reduceSub,Nat.reduceAdd,d196]
   rw [jn,kv]
   unfold Dy
   rw [List.any_map];rfl
  ·simp only [nrm,xdn,reduceIte,Nat.reduceLT,Nat.reduceSub,Nat.reduceAdd];rfl
end Go.Proofs.Ytpmamacjepcdmaa

namespace Go.Proofs.Ytpmamacjepcdmaa
open Go Go.Sy Go.RowKit
set_option linter.unusedSimpArgs false
set_option linter.unusedVariables false
theorem Ed : ∀ {l : List Pik} {i : Nat} {s : mW},Inv s.w.bU→Acy s.w.m→Inv (rS l i s).w.bU∧Acy (rS l i s).w.m
 | [],_,_,h,ha=>⟨h,ha⟩
 | x :: l,i,s,h,ha=>by
  have h1:=(Cw h x).bU
  have h2 : Acy (cJ s.w.bU x).1.m:=Acy.pick h ha x
  show Inv (rS l (i + 1) (iH i x s)).w.bU∧Acy (rS l (i + 1) (iH i x s)).w.m
  refine Ed ?_ ?_
  ·unfold iH
   repeat' split
   all_goals first
    | exact h
    | exact h1
  ·unfold iH
   repeat' split
   all_goals first
    | exact ha
    | exact h2
theorem run_ok {w : Wrd} (h : Inv w.bU) (ha : Acy w.m) {l : List Pik} (hl : l.length≤300) : (vI w.cU l).2=0∧Inv (vI w.cU l).1.w.bU∧Acy (vI w.cU l).1.w.m:=by
 have hc : bE w.cU=0:=by
  have:=h.cU.check.1
  rwa [show w.bU.cU=w.cU by simp only [Wrd.cU,Wrd.bU,List.map_map];rfl] at this
 unfold vI
 rw [if_neg (fun y=>y hc),if_neg (by omega)]
 refine ⟨rfl,Ed ?_ ?_⟩
 ·show Inv w.cU.bU.bU
  rw [zi];exact h.bU
 ·exact ha
def s31 : Sig:=⟨[.one (.int .i64),.one (.int .i64),.one (.int .i64),.one (.fz kQ)],[.one (.bool)]⟩
def d31 : DC:=⟨s31,fun _=>True,fun _=>[.b true]⟩
def l31 : List (Nat × Ct):=[(78,d78.ct),(79,d79.ct),(80,d80.ct),(137,d137.ct)]
noncomputable def z31 : Cx:={ T:=ttA,C:=sigs l31,F:=[(116,Try.f116),(138,Try.f138),(195,Try.f195)],hints:=[⟨195,2,false,[(8,.lt)],[],[],[],0⟩],sig:=s31}
def t31 : Tree :=
 (.call 78 [.var 0,.var 1,.var 2] 4
 (.call 79 [] 11
 (.ite (.not (.var 11))
 (.call 79 [] 12
 (.ret [.var 12]))
 (.ite (.not (.eq (.var 10) (.int 0)))
 (.call 79 [] 12
 (.ret [.var 12]))
 (.need (.le (.int 0) (.min (.len (.var 3)) (.int 300)))
 (.need (.le (.min (.len (.var 3)) (.int 300)) (.len (.var 3)))
 (.need (.clean (.var 9) 15)
 (.call 80 [.var 4,.var 5,.var 6,.var 7,.var 8,.shuts (.var 9) 15,.take (.min (.len (.var 3)) (.int 300)) (.var 3)] 12
 (.ite (.not (.eq (.var 20) (.int 0)))
 (.ret [.bool false])
 (.call 137 [.var 12,.var 13,.var 14,.var 15,.var 16,.var 17,.int 400] 21
 (.ite (.var 27)
 (.loop 28 [.int .i64] [.int 0]
 (.ite (.lt (.var 29) (.len (.var 24)))
 (.need (.le (.int 0) (.var 29))
 (.ite (.not (.eq (.cell (.var 24) (.var 29) 0) (.int (-1))))
 (.ret [.not (.le (.int 0) (.var 29))])
 (.need (.fit (.add (.var 29) (.int 1)))
 (.back 28 [.add (.var 29) (.int 1)]))))
 (.ret [.bool true])))
 (.ret [.bool false]))))))))))))
theorem run31 : run z31 6000 [.code (Try.f31.body.getD .skip),.fin (aP z31 Try.f31.results.toList 50)] { fn:=31,tmps:=z31.sig.aE ++ List.replicate (Try.f31.ntmps - z31.sig.aE.length) (.v (.one .undef)),stk:=[],h:=z31.sig.h0,nx:=z31.sig.ins.length,known:=[]}=t31:=by kernel_rfl
set_option maxHeartbeats 4000000 in
theorem ok31 : bJ Try.prog 31 d31.ct:=by
 refine ax (d:=d31) (Z:=z31) (Γ:=gam l31) (fn:=Try.f31) (c:=Try.f31.body.getD .skip) (aJ tok mixed (all_cons ok78 (all_cons ok79 (all_cons ok80 (all_cons ok137 all_nil)))) (cv (c:=Try.f116.body.getD .skip) Try.func116 (by kernel_rfl) (by kernel_rfl) (cv (c:=Try.f138.body.getD .skip) Try.func138 (by kernel_rfl) (by kernel_rfl) (cv (c:=Try.f195.body.getD .skip) Try.func195 (by kernel_rfl) (by kernel_rfl) aK)))) Try.func31 (by kernel_rfl) (by kernel_rfl) rfl run31 fun E hk hp=>?_
 obtain ⟨hk0,hk1,hk2,hk3,_⟩:=hk
 obtain ⟨x,e0⟩:=ok_int (d:=E 0) hk0
 obtain ⟨x2,e1⟩:=ok_int (d:=E 1) hk1
 obtain ⟨x3,e2⟩:=ok_int (d:=E 2) hk2
 obtain ⟨l,e3,b3⟩:=w8 (d:=E 3) hk3
 have b3 : l.length * 64≤140737488355328:=b3
 have el : aG E d31.sig.ins.length=[.i x,.i x2,.i x3,dM l]:=by
  show [E 0,E 1,E 2,E 3]=_
  rw [e0,e1,e2,e3]
 rw [el] at hp
 rw [el]
 rw [Env.aU el]
 clear el e0 e1 e2 e3
 unfold t31
 obtain ⟨N,hN⟩ : ∃ N,sd x x2 x3=N:=⟨_,rfl⟩
 refine ah d78 [ai N.1.m.slots,aa N.1.m.heads,aa N.1.m.free,aa N.1.m.kM,.i N.1.m.now,ar N.1.ts,.i N.2] rfl trivial (by simp only [nrm,xdn,reduceIte,Nat.reduceLT,Nat.reduceSub,Nat.reduceAdd,d78,hN];rfl) (ah d79 [.b true] rfl trivial rfl (ae (fun hn=>?_) (fun _=>ae (fun _=>ah d79 [.b true] rfl trivial rfl (ag (by simp only [nrm,xdn,reduceIte,Nat.reduceLT,Nat.reduceSub,Nat.reduceAdd];rfl))) (fun h0=>?_))))
 ·skip
  simp only [nrm,xdn,reduceIte,Nat.reduceLT,Nat.reduceSub,Nat.reduceAdd] at hn
  simp at hn
 simp only [nrm,xdn,reduceIte,Nat.reduceLT,Nat.reduceSub,Nat.reduceAdd] at h0
 have h0 : N.2=0:=by simpa using h0
 have hL0 : Inv N.1:=by rw [← hN] at h0 ⊢;exact CL h0
 have hA0 : Acy N.1.m:=by rw [← hN] at h0 ⊢;exact Acy.new h0
 obtain ⟨mn,hmn⟩ : ∃ mn : Nat,(if (300 : Int) < (l.length : Int) then (300 : Int) else (l.length : Int))=mn∧mn=min l.length 300:=⟨min l.length 300,by split <;> omega,rfl⟩
 obtain ⟨r,hr⟩ : ∃ r,vI N.1.cU (l.take mn)=r:=⟨_,rfl⟩
 obtain ⟨r0,r1,r2⟩:=run_ok hL0.bU hA0 (l:=l.take mn) (by rw [List.length_take];omega)
 rw [hr] at r0 r1 r2
 refine af (by simp only [nrm,xdn,reduceIte,Nat.reduceLT,Nat.reduceSub,Nat.reduceAdd,kb];omega) (af (by simp only [nrm,xdn,reduceIte,Nat.reduceLT,Nat.reduceSub,Nat.reduceAdd,kb];omega) (af (by simp only [nrm,xdn,reduceIte,Nat.reduceLT,Nat.reduceSub,Nat.reduceAdd];exact az _) ?_))
 refine ah d80 (r.1.w.ri ++ [aa r.1.said,eX r.1.past,.i r.2]) rfl trivial ?_ ?_
 ·simp only [nrm,xdn,reduceIte,Nat.reduceLT,Nat.reduceSub,Nat.reduceAdd,aD,kb,hmn.1,Int.toNat_natCast]
  rw [show CD.l ((dM l).rows.take mn)=dM (l.take mn) by simp only [dM,CD.aC,List.map_take]]
  simp only [d80,oe,List.getD_cons_zero,List.getD_cons_succ,lN]
  rw [← hr]
 refine ae (fun hn=>?_) (fun _=>?_)
 ·simp only [nrm,xdn,reduceIte,Nat.reduceLT,Nat.reduceSub,Nat.reduceAdd,Wrd.ri,Mem.cds,lca,r0] at hn
  simp at hn
 obtain ⟨V,hV⟩ : ∃ V,DG 400 r.1.w.bU=V:=⟨_,rfl⟩
 have hs:=EU r1
 have hb:=Eh (R:=400) (w:=r.1.w.bU) (by omega) r1 r2
 obtain ⟨v1,v2,v3⟩:=D6 400 r1 r2
 rw [hV] at hb v1 v2 v3
 have hlk:=Et v1 hb
 refine ah d137 (V.ri ++ [.b true]) rfl ?_ ?_ (ae (fun _=>?_) (fun hn=>?_))
 ·simp only [nrm,xdn,reduceIte,Nat.reduceLT,Nat.reduceSub,Nat.reduceAdd,Wrd.ri,Mem.cds,lca,d137,oe,aq]
  exact ⟨by rw [zi];exact r1,by omega⟩
 ·simp only [nrm,xdn,reduceIte,Nat.reduceLT,Nat.reduceSub,Nat.reduceAdd,Wrd.ri,Mem.cds,lca,d137,oe,aq]
  rw [zi]
  show (DG 400 r.1.w.bU).ri ++ [.b (!Dy (DG 400 r.1.w.bU))]=_
  rw [hV,hb];rfl
 rotate_left
 ·simp only [nrm,xdn,reduceIte,Nat.reduceLT,Nat.reduceSub,Nat.reduceAdd,Wrd.ri,Mem.cds,lca] at hn
  simp at hn
 refine bD (fun ds=>∃ k : Nat,ds=[.i k]∧k≤V.m.kM.length) (fun ds=>V.m.kM.length - (ds.getD 0 .u).int.toNat) ⟨0,rfl,by omega⟩ ?_
 rintro ds - ⟨k,rfl,hk⟩
 have hm4:=v1.ch.mem.nh4
 have hml:=v1.ch.mem.nl
 refine ae (fun h=>?_) (fun h=>ag (by simp only [nrm,xdn,reduceIte,Nat.reduceLT,Nat.reduceSub,Nat.reduceAdd];rfl))
 simp only [nrm,xdn,reduceIte,Nat.reduceLT,Nat.reduceSub,Nat.reduceAdd,Wrd.ri,Mem.cds,lca,aj] at h
 have hc : ((aa V.m.kM).rows.getD k []).getD 0 .u=.i (-1):=by rw [cL (by omega),hlk k (by omega)]
 refine af (by simp only [nrm,xdn,reduceIte,Nat.reduceLT,Nat.reduceSub,Nat.reduceAdd];omega) (ae (fun hn=>?_) (fun _=>aH (by simp only [nrm,xdn,reduceIte,Nat.reduceLT,Nat.reduceSub,Nat.reduceAdd];omega) (bx ⟨⟨k + 1,?_,by omega⟩,?_⟩)))
 ·simp only [nrm,xdn,reduceIte,Nat.reduceLT,Nat.reduceSub,Nat.reduceAdd,Wrd.ri,Mem.cds,lca,Int.toNat_natCast,hc] at hn
  simp at hn
 ·simp only [nrm,xdn,reduceIte,Nat.reduceLT,Nat.reduceSub,Nat.reduceAdd];rfl
 ·simp only [nrm,xdn,reduceIte,Nat.reduceLT,Nat.reduceSub,Nat.reduceAdd];omega
end Go.Proofs.Ytpmamacjepcdmaa
