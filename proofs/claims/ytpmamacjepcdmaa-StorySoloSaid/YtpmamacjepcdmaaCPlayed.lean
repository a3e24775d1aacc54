import Derived.Test.YtpmamacjepcdmaaCWorldIn
import Derived.Test.YtpmamacjepcdmaaCChain
namespace Go.Proofs.Ytpmamacjepcdmaa
open Go Go.Sy Go.RowKit
set_option linter.unusedSimpArgs false
set_option linter.unusedVariables false
deriving instance DecidableEq for Tsk
end Go.Proofs.Ytpmamacjepcdmaa

namespace Go.Proofs.Ytpmamacjepcdmaa
open Go Go.Sy Go.RowKit
set_option linter.unusedSimpArgs false
set_option linter.unusedVariables false
structure Pst where
 task : Int
 c : Cal
 fr : Int
 to : Int
 e : Int
 slot : Int
 n : Int
 keys : List Key
 deriving DecidableEq
instance : Inhabited Pik:=⟨⟨0,false,false,⟨0,⟨0,0⟩,0,0,0⟩⟩⟩
def Pik.row (x : Pik) : List CD:=[.i x.task,.b x.step,.b x.tick,.i x.c.kind,.i x.c.k.a,.i x.c.k.b,.i x.c.time,.i x.c.bucket,.i x.c.slot]
def Pst.row (p : Pst) : List CD:=[.i p.task,.i p.c.kind,.i p.c.k.a,.i p.c.k.b,.i p.c.time,.i p.c.bucket,.i p.c.slot,.i p.fr,.i p.to,.i p.e,.i p.slot,.i p.n,bS p.keys]
def eD (l : List Pik) : CD:=.l (l.map Pik.row)
def gl (l : List Pst) : CD:=.l (l.map Pst.row)
end Go.Proofs.Ytpmamacjepcdmaa
def Go.Sy.CD.uN (d : Go.Sy.CD) : List Go.Proofs.Ytpmamacjepcdmaa.Pik:=d.rows.map Go.Proofs.Ytpmamacjepcdmaa.Pik.of
namespace Go.Proofs.Ytpmamacjepcdmaa
open Go Go.Sy Go.RowKit
set_option linter.unusedSimpArgs false
set_option linter.unusedVariables false
theorem oZ (l : List Pik) : (eD l).uN=l:=by
 simp only [eD,CD.uN,CD.ax,List.map_map]
 rw [show (Pik.of ∘ Pik.row)=id from rfl,List.map_id]
theorem nc (l : List Pik) : (eD l).rows.length=l.length:=by simp [eD]
theorem qm (l : List Pst) : (gl l).rows.length=l.length:=by simp [gl]
theorem Dc {b : Nat} {d : CD} (h : CD.ok (.sl b kQ.kd) d) : ∃ l,d=eD l∧l.length * b≤140737488355328:=by
 obtain ⟨⟨rows,rfl,h1,h2⟩,_⟩:=h
 obtain ⟨l,rfl⟩:=jv (f:=Pik.row) (fun row hr=>by
  obtain ⟨d0,row,rfl,g0,hr⟩:=bG hr
  obtain ⟨d1,row,rfl,g1,hr⟩:=bG hr
  obtain ⟨d2,row,rfl,g2,hr⟩:=bG hr
  obtain ⟨d3,row,rfl,g3,hr⟩:=bG hr
  obtain ⟨d4,row,rfl,g4,hr⟩:=bG hr
  obtain ⟨d5,row,rfl,g5,hr⟩:=bG hr
  obtain ⟨d6,row,rfl,g6,hr⟩:=bG hr
  obtain ⟨d7,row,rfl,g7,hr⟩:=bG hr
  obtain ⟨d8,row,rfl,g8,hr⟩:=bG hr
  have hr:=vT hr
  subst hr
  obtain ⟨x,rfl,rfl,rfl,rfl,rfl,rfl,rfl,rfl,rfl⟩:=vL (d0:=d0) (d1:=d1) (d2:=d2) g0 g1 g2 g3 g4 g5 g6 g7 g8
  exact ⟨x,rfl⟩) h2
 exact ⟨l,rfl,by simpa using h1⟩
theorem BG (t : Tsk) : t.iv.modify 15 CD.shut=t.row:=by
 show t.rw (t.hd.shut)=_
 unfold Tsk.hd
 split <;> rfl
theorem cg (l : List Tsk) : CD.l ((az l).rows.map fun r=>r.modify 15 CD.shut)=G2 l:=by
 simp only [az,G2,CD.ax,List.map_map]
 exact congrArg CD.l (List.map_congr_left fun t _=>BG t)
structure qE where
 w : Wrd
 said : List Int
 past : List Pst
 began : List Int
def sO (w : Wrd) (x : Int) (fr to : Int) : Pst:=⟨x,(tsk w x).f.c,fr,to,(tsk w x).f.e,(tsk w x).f.slot,(tsk w x).f.n,(tsk w x).f.keys⟩
def kH (i : Nat) (x : Pik) (s : qE) : qE :=
 if (bN s.w.bm x).2≠0 then { s with said:=s.said ++ [(bN s.w.bm x).2]}
 else if x.tick=true then ⟨(bN s.w.bm x).1,s.said ++ [(bN s.w.bm x).2],s.past,s.began⟩
 else if x.step=false then ⟨(bN s.w.bm x).1,s.said ++ [(bN s.w.bm x).2],s.past,s.began.set x.task.toNat i⟩
 else if (tsk (bN s.w.bm x).1 x.task).busy=false then ⟨(bN s.w.bm x).1,s.said ++ [(bN s.w.bm x).2],s.past ++ [sO (bN s.w.bm x).1 x.task (s.began.getD x.task.toNat 0) i],s.began⟩
 else ⟨(bN s.w.bm x).1,s.said ++ [(bN s.w.bm x).2],s.past,s.began⟩
def w6 : List Pik→Nat→qE→qE
 | [],_,s=>s
 | x :: l,i,s=>w6 l (i + 1) (kH i x s)
def BK (w : Wrd) (l : List Pik) : qE × Int :=
 if bL w≠0 then (⟨Wrd.none,[],[],[]⟩,bL w)
 else if 300 < l.length then (⟨Wrd.none,[],[],[]⟩,2)
 else (w6 l 0 ⟨w.bm,[],[],List.replicate w.ts.length 0⟩,0)
def Wrd.tM (w : Wrd) : List CD:=w.m.cds ++ [G2 w.ts]
theorem sN (w : Wrd) (x : Pik) : (bN w x).1.ts.length=w.ts.length:=by
 unfold bN
 split
 ·split <;> rfl
 ·split
  ·rfl
  ·split
   ·unfold cN
    repeat' split
    all_goals first
     | rfl
     | simp [Wrd.gone]
   ·unfold eR
    repeat' split
    all_goals first
     | rfl
     | simp [Wrd.at]
theorem BP {w : Wrd} {x : Pik} (h : (bN w x).2=0) (ht : x.tick=false) : 0≤x.task∧x.task < w.ts.length:=by
 unfold bN at h
 rw [if_neg (by rw [ht];exact Bool.false_ne_true)] at h
 split at h
 ·cases h
 ·omega
theorem kq.bm {n : Nat} {w : Wrd} (h : kq n w) : kq n w.bm :=
 ⟨h.m,fun t ht=>by
  obtain ⟨u,hu,rfl⟩:=List.mem_map.1 ht
  obtain ⟨k1,k2,k3⟩:=h.t u hu
  exact ⟨rfl,k2,k3⟩⟩
theorem kb (w : Wrd) : w.bm.ts.length=w.ts.length:=by simp [Wrd.bm]
theorem Ba (m : Mem) (ts : List Tsk) : (Wrd.bm (Wrd.of [au m.slots,af m.heads,af m.free,af m.ae,.i m.now,G2 ts]))=(Wrd.bm ⟨m,ts⟩):=by
 rw [ju,fX]
 simp only [Wrd.bm,List.map_map]
 rfl
def s80 : Sig:=⟨[.agg [.fz kS,.fz kI,.fz kI,.fz kI,.int .i64,.fz kT],.one (.fz kQ)],[.agg [.fz kS,.fz kI,.fz kI,.fz kI,.int .i64,.fz kT],.one (.own 22 kI),.one (.fz kP),.one (.int .i64)]⟩
def d80 : DC:=⟨s80,fun _=>True,fun l=>(BK (Wrd.of l) (l.getD 6 .u).uN).1.w.tM ++ [af (BK (Wrd.of l) (l.getD 6 .u).uN).1.said,gl (BK (Wrd.of l) (l.getD 6 .u).uN).1.past,.i (BK (Wrd.of l) (l.getD 6 .u).uN).2]⟩
structure Ns (l : List Pik) (s0 : qE) (i : Nat) (s : qE) : Prop where
 le : i≤l.length
 eq : w6 l 0 s0=w6 (l.drop i) i s
 w : kq (100 + i) s.w.bm
 said : s.said.length=i
 past : s.past.length≤i
 began : s.began.length=s.w.ts.length
theorem w5 {l : List Pik} {s0 : qE} {i : Nat} {s : qE} (h : Ns l s0 i s) (hi : i < l.length) : Ns l s0 (i + 1) (kH i (l.getD i default) s):=by
 obtain ⟨h1,h2,h3,h4,h5,h6⟩:=h
 rw [dL hi] at h2
 have hp:=(EJ h3 (l.getD i default)).bm
 have hl:=sN s.w.bm (l.getD i default)
 rw [kb] at hl
 refine ⟨hi,h2,?_,?_,?_,?_⟩
 ·unfold kH
  repeat' split
  all_goals first
   | exact h3.mono (by omega)
   | exact hp
 ·unfold kH
  repeat' split
  all_goals simp [h4]
 ·unfold kH
  repeat' split
  all_goals first
   | (simp only [List.length_append,List.length_cons,List.length_nil];omega)
   | (show s.past.length≤_;omega)
 ·unfold kH
  repeat' split
  all_goals first
   | exact h6
   | (simp only [List.length_set];omega)
   | (show s.began.length=_;omega)
def l80 : List (Nat × Ct):=[(157,d157.ct),(170,d170.ct),(171,d171.ct),(172,d172.ct)]
def z80 : Cx:={ T:=ttA,C:=sigs l80,F:=[],hints:=[⟨80,9,false,[(33,.lt),(5,.own 22 kI),(6,.own 93 kP),(9,.own 3 kI)],[(0,0,.fz kS),(0,1,.fz kI),(0,2,.fz kI),(0,3,.fz kI),(0,4,.lt),(0,5,.fz kT)],[],[],0,0,false⟩],sig:=s80}
def t80 : Tree :=
 (.call 157 [.var 0,.var 1,.var 2,.var 3,.var 4,.var 5] 7
 (.ite (.not (.eq (.var 7) (.int 0)))
 (.ret [.nil,.nil,.nil,.nil,.int 0,.nil,.nil,.nil,.var 7])
 (.ite (.lt (.int 300) (.len (.var 6)))
 (.ret [.nil,.nil,.nil,.nil,.int 0,.nil,.nil,.nil,.int 2])
 (.call 170 [.var 0,.var 1,.var 2,.var 3,.var 4,.var 5] 8
 (.need (.le (.len (.var 13)) (.int 17592186044416))
 (.need (.clean (.var 13) 15)
 (.loop 14 [.sl 8 [.int .i64],.sl 120 [.int .i64,.int .i64,.int .i64,.int .i64,.int .i64,.int .i64,.int .i64,.int .i64,.int .i64,.int .i64,.int .i64,.int .i64,.sl 16 [.int .i64,.int .i64]],.sl 8 [.int .i64],.int .i64,.sl 48 [.int .i64,.int .i64,.int .i64,.int .i64,.bool,.int .i64],.sl 8 [.int .i64],.sl 8 [.int .i64],.sl 8 [.int .i64],.int .i64,.sl 160 [.bool,.int .i64,.int .i64,.int .i64,.int .i64,.int .i64,.int .i64,.int .i64,.int .i64,.int .i64,.int .i64,.int .i64,.sl 16 [.int .i64,.int .i64],.bool,.int .i64,.sl 8 [.int .i64]]] [.nil,.nil,.rep (.len (.var 13)) (.cons (.int 0) .row0),.int 0,.var 8,.var 9,.var 10,.var 11,.var 12,.shuts (.var 13) 15]
 (.ite (.lt (.var 18) (.len (.var 6)))
 (.need (.le (.int 0) (.var 18))
 (.call 170 [.var 19,.var 20,.var 21,.var 22,.var 23,.var 24] 25
 (.need (.clean (.var 30) 15)
 (.call 171 [.var 25,.var 26,.var 27,.var 28,.var 29,.var 30,.cell (.var 6) (.var 18) 0,.cell (.var 6) (.var 18) 1,.cell (.var 6) (.var 18) 2,.cell (.var 6) (.var 18) 3,.cell (.var 6) (.var 18) 4,.cell (.var 6) (.var 18) 5,.cell (.var 6) (.var 18) 6,.cell (.var 6) (.var 18) 7,.cell (.var 6) (.var 18) 8] 31
 (.need (.le (.add (.len (.var 15)) (.int 1)) (.int 17592186044416))
 (.ite (.not (.eq (.var 37) (.int 0)))
 (.need (.fit (.add (.var 18) (.int 1)))
 (.need (.clean (.var 36) 15)
 (.back 14 [.app (.var 15) (.cons (.var 37) .row0),.var 16,.var 17,.add (.var 18) (.int 1),.var 19,.var 20,.var 21,.var 22,.var 23,.var 24])))
 (.ite (.cell (.var 6) (.var 18) 2)
 (.need (.fit (.add (.var 18) (.int 1)))
 (.need (.clean (.var 36) 15)
 (.back 14 [.app (.var 15) (.cons (.var 37) .row0),.var 16,.var 17,.add (.var 18) (.int 1),.var 31,.var 32,.var 33,.var 34,.var 35,.shuts (.var 36) 15])))
 (.ite (.not (.cell (.var 6) (.var 18) 1))
 (.need (.le (.int 0) (.cell (.var 6) (.var 18) 0))
 (.need (.lt (.cell (.var 6) (.var 18) 0) (.len (.var 17)))
 (.need (.fit (.add (.var 18) (.int 1)))
 (.need (.clean (.var 36) 15)
 (.back 14 [.app (.var 15) (.cons (.var 37) .row0),.var 16,.set (.var 17) (.cell (.var 6) (.var 18) 0) 0 (.var 18),.add (.var 18) (.int 1),.var 31,.var 32,.var 33,.var 34,.var 35,.shuts (.var 36) 15])))))
 (.need (.le (.int 0) (.cell (.var 6) (.var 18) 0))
 (.need (.lt (.cell (.var 6) (.var 18) 0) (.len (.var 36)))
 (.ite (.not (.cell (.var 36) (.cell (.var 6) (.var 18) 0) 0))
 (.need (.lt (.cell (.var 6) (.var 18) 0) (.len (.var 17)))
 (.call 172 [.cell (.var 36) (.cell (.var 6) (.var 18) 0) 12] 38
 (.need (.le (.add (.len (.var 16)) (.int 1)) (.int 1172812402961))
 (.need (.fit (.add (.var 18) (.int 1)))
 (.need (.clean (.var 36) 15)
 (.back 14 [.app (.var 15) (.cons (.var 37) .row0),.app (.var 16) (.cons (.cell (.var 6) (.var 18) 0) (.cons (.cell (.var 36) (.cell (.var 6) (.var 18) 0) 1) (.cons (.cell (.var 36) (.cell (.var 6) (.var 18) 0) 2) (.cons (.cell (.var 36) (.cell (.var 6) (.var 18) 0) 3) (.cons (.cell (.var 36) (.cell (.var 6) (.var 18) 0) 4) (.cons (.cell (.var 36) (.cell (.var 6) (.var 18) 0) 5) (.cons (.cell (.var 36) (.cell (.var 6) (.var 18) 0) 6) (.cons (.cell (.var 17) (.cell (.var 6) (.var 18) 0) 0) (.cons (.var 18) (.cons (.cell (.var 36) (.cell (.var 6) (.var 18) 0) 14) (.cons (.cell (.var 36) (.cell (.var 6) (.var 18) 0) 10) (.cons (.cell (.var 36) (.cell (.var 6) (.var 18) 0) 11) (.cons (.var 38) .row0))))))))))))),.var 17,.add (.var 18) (.int 1),.var 31,.var 32,.var 33,.var 34,.var 35,.shuts (.var 36) 15]))))))
 (.need (.fit (.add (.var 18) (.int 1)))
 (.need (.clean (.var 36) 15)
 (.back 14 [.app (.var 15) (.cons (.var 37) .row0),.var 16,.var 17,.add (.var 18) (.int 1),.var 31,.var 32,.var 33,.var 34,.var 35,.shuts (.var 36) 15]))))))))))))))
 (.ret [.var 19,.var 20,.var 21,.var 22,.var 23,.var 24,.var 15,.var 16,.int 0])))))))))
theorem run80 : run z80 6000 [.code (Try.f80.body.getD .skip),.fin (bt z80 Try.f80.results.toList 50)] { fn:=80,tmps:=z80.sig.aM ++ List.replicate (Try.f80.ntmps - z80.sig.aM.length) (.v (.one .undef)),stk:=[],h:=z80.sig.h0,nx:=z80.sig.ins.length,known:=[]}=t80:=by kernel_rfl
set_option maxHeartbeats 4000000 in
theorem ok80 : cB Try.prog 80 d80.ct:=by
 refine aD (d:=d80) (Z:=z80) (Γ:=gam l80) (fn:=Try.f80) (c:=Try.f80.body.getD .skip) (bg tok mixed (all_cons ok157 (all_cons ok170 (all_cons ok171 (all_cons ok172 all_nil)))) bh) Try.func80 (by kernel_rfl) (by kernel_rfl) rfl run80 fun E hk hp=>?_
 obtain ⟨hk0,hk1,hk2,hk3,hk4,hk5,hk6,_⟩:=hk
 obtain ⟨m,e0,e1,e2,e3,e4,b0,b1,b2,b3⟩:=cv (d0:=E 0) (d1:=E 1) (d2:=E 2) (d3:=E 3) (d4:=E 4) hk0 hk1 hk2 hk3 hk4
 obtain ⟨ts,e5,hts,b5⟩:=hU (d:=E 5) hk5
 have b5 : ts.length * 160≤140737488355328:=b5
 obtain ⟨l,e6,b6⟩:=Dc (d:=E 6) hk6
 have b6 : l.length * 64≤140737488355328:=b6
 have el : aH E d80.sig.ins.length=[au m.slots,af m.heads,af m.free,af m.ae,.i m.now,G2 ts,eD l]:=by
  show [E 0,E 1,E 2,E 3,E 4,E 5,E 6]=_
  rw [e0,e1,e2,e3,e4,e5,e6]
 rw [el] at hp
 rw [el]
 rw [Env.bJ el]
 clear el e0 e1 e2 e3 e4 e5 e6
 have hown : ∀ t∈ts,t.own=false:=fun t ht=>(hts t ht).1
 simp only [d80,kr _ _ _ _ _ hown,aA,List.getD_cons_zero,List.getD_cons_succ,oZ]
 unfold BK
 unfold t80
 refine ai d157 [.i (bL ⟨m,ts⟩)] rfl trivial (by simp only [nrm,xdn,reduceIte,Nat.reduceLT,Nat.reduceSub,Nat.reduceAdd,d157,kr _ _ _ _ _ hown,aA]) (G0 (fun h=>aj ?_) (fun h=>?_))
 ·simp only [nrm,xdn,reduceIte,Nat.reduceLT,Nat.reduceSub,Nat.reduceAdd] at h ⊢
  rw [if_pos (by simpa using h)];rfl
 simp only [nrm,xdn,reduceIte,Nat.reduceLT,Nat.reduceSub,Nat.reduceAdd] at h
 have h : bL ⟨m,ts⟩=0:=by simpa using h
 rw [if_neg (fun y=>y h)]
 refine G0 (fun h1=>aj ?_) (fun h1=>?_)
 ·simp only [nrm,xdn,reduceIte,Nat.reduceLT,Nat.reduceSub,Nat.reduceAdd,nc] at h1 ⊢
  rw [if_pos (by omega)];rfl
 simp only [nrm,xdn,reduceIte,Nat.reduceLT,Nat.reduceSub,Nat.reduceAdd,nc] at h1
 rw [if_neg (by omega)]
 have hw:=EB h
 refine ai d170 (Wrd.bm ⟨m,ts⟩).cds rfl trivial (by simp only [nrm,xdn,reduceIte,Nat.reduceLT,Nat.reduceSub,Nat.reduceAdd,d170,Ba]) ?_
 obtain ⟨s0,hs0⟩ : ∃ s0 : qE,(⟨Wrd.bm ⟨m,ts⟩,[],[],List.replicate ts.length 0⟩ : qE)=s0:=⟨_,rfl⟩
 have hlen : (Wrd.bm ⟨m,ts⟩).ts.length=ts.length:=kb _
 show Tree.den _ (fun outs=>outs=(w6 l 0 ⟨Wrd.bm ⟨m,ts⟩,[],[],List.replicate ts.length 0⟩).w.tM ++ [af (w6 l 0 ⟨Wrd.bm ⟨m,ts⟩,[],[],List.replicate ts.length 0⟩).said,gl (w6 l 0 ⟨Wrd.bm ⟨m,ts⟩,[],[],List.replicate ts.length 0⟩).past,.i 0]) _ _ _
 rw [hs0]
 have hz : ∀ n : Nat,CD.l (List.replicate n [CD.i 0])=af (List.replicate n 0):=fun n=>by simp [af]
 refine ag (by simp only [nrm,xdn,reduceIte,Nat.reduceLT,Nat.reduceSub,Nat.reduceAdd,Wrd.cds,Mem.cds,lca,eK,hlen];omega) (ag (by simp only [nrm,xdn,reduceIte,Nat.reduceLT,Nat.reduceSub,Nat.reduceAdd,Wrd.cds,Mem.cds,lca];exact aI _)
  (bO (fun ds=>∃ (i : Nat) (s : qE),ds=[af s.said,gl s.past,af s.began,.i i,au s.w.m.slots,af s.w.m.heads,af s.w.m.free,af s.w.m.ae,.i s.w.m.now,G2 s.w.ts]∧Ns l s0 i s) (fun ds=>l.length - (ds.getD 3 .u).int.toNat) ⟨0,s0,?_,?_⟩ ?_))
 ·simp only [nrm,xdn,reduceIte,Nat.reduceLT,Nat.reduceSub,Nat.reduceAdd,Wrd.cds,Mem.cds,lca,eK,hlen,cg,CD.row,List.headD_cons,Int.toNat_natCast,hz]
  rw [← hs0];rfl
 ·subst hs0
  exact ⟨Nat.zero_le _,rfl,hw.bm.mono (by omega),rfl,Nat.le_refl _,by simp [hlen]⟩
 rintro ds - ⟨i,s,rfl,hI⟩
 obtain ⟨I1,I2,I3,I4,I5,I6⟩:=id hI
 refine G0 (fun hlt=>?_) (fun hge=>aj ?_)
 ·simp only [nrm,xdn,reduceIte,Nat.reduceLT,Nat.reduceSub,Nat.reduceAdd,nc] at hlt
  obtain ⟨x,hx⟩ : ∃ x,l.getD i default=x:=⟨_,rfl⟩
  have hcell : ∀ o,((eD l).rows.getD i []).getD o .u=x.row.getD o .u:=fun o=>by rw [← hx];exact dh Pik.row l i o (by omega)
  have c0 : ((eD l).rows.getD i []).getD 0 .u=.i x.task:=hcell 0
  have c1 : ((eD l).rows.getD i []).getD 1 .u=.b x.step:=hcell 1
  have c2 : ((eD l).rows.getD i []).getD 2 .u=.b x.tick:=hcell 2
  have c3 : ((eD l).rows.getD i []).getD 3 .u=.i x.c.kind:=hcell 3
  have c4 : ((eD l).rows.getD i []).getD 4 .u=.i x.c.k.a:=hcell 4
  have c5 : ((eD l).rows.getD i []).getD 5 .u=.i x.c.k.b:=hcell 5
  have c6 : ((eD l).rows.getD i []).getD 6 .u=.i x.c.time:=hcell 6
  have c7 : ((eD l).rows.getD i []).getD 7 .u=.i x.c.bucket:=hcell 7
  have c8 : ((eD l).rows.getD i []).getD 8 .u=.i x.c.slot:=hcell 8
  have hv:=w5 hI (show i < l.length by omega)
  rw [hx] at hv
  have hsw : (⟨s.w.m,s.w.ts⟩ : Wrd)=s.w:=rfl
  refine ag (by simp only [nrm,xdn,reduceIte,Nat.reduceLT,Nat.reduceSub,Nat.reduceAdd];omega) (ai d170 s.w.bm.cds rfl trivial (by simp only [nrm,xdn,reduceIte,Nat.reduceLT,Nat.reduceSub,Nat.reduceAdd,d170,Ba,hsw]) ?_)
  have hpl:=sN s.w.bm x
  rw [kb] at hpl
  have hpt:=BP (w:=s.w.bm) (x:=x)
  rw [kb] at hpt
  obtain ⟨q,hq⟩ : ∃ q,bN s.w.bm x=q:=⟨_,rfl⟩
  have hS : kH i x s=if q.2≠0 then { s with said:=s.said ++ [q.2]} else if x.tick=true then ⟨q.1,s.said ++ [q.2],s.past,s.began⟩ else if x.step=false then ⟨q.1,s.said ++ [q.2],s.past,s.began.set x.task.toNat i⟩ else if (tsk q.1 x.task).busy=false then ⟨q.1,s.said ++ [q.2],s.past ++ [sO q.1 x.task (s.began.getD x.task.toNat 0) i],s.began⟩ else ⟨q.1,s.said ++ [q.2],s.past,s.began⟩:=by rw [← hq];rfl
  rw [hq] at hpl hpt
  refine ag (by simp only [nrm,xdn,reduceIte,Nat.reduceLT,Nat.reduceSub,Nat.reduceAdd,Wrd.cds,Mem.cds,lca];exact aI _) (ai d171 (q.1.cds ++ [.i q.2]) rfl ?_ ?_ ?_)
  ·simp only [nrm,xdn,reduceIte,Nat.reduceLT,Nat.reduceSub,Nat.reduceAdd,Wrd.cds,Mem.cds,lca,d171,fX,aA]
   exact I3.in (by omega)
  ·simp only [nrm,xdn,reduceIte,Nat.reduceLT,Nat.reduceSub,Nat.reduceAdd,Int.toNat_natCast,c0,c1,c2,c3,c4,c5,c6,c7,c8,Wrd.cds,Mem.cds,lca,d171,fX,aA,List.drop_succ_cons,List.drop_zero,oe,cz]
   rw [← hq]
  refine ag (by simp only [nrm,xdn,reduceIte,Nat.reduceLT,Nat.reduceSub,Nat.reduceAdd,aw];omega) (G0 (fun h2=>?_) (fun h2=>?_))
  ·simp only [nrm,xdn,reduceIte,Nat.reduceLT,Nat.reduceSub,Nat.reduceAdd,Wrd.cds,Mem.cds,lca] at h2
   rw [if_pos (by simpa using h2)] at hS
   refine G1 (by simp only [nrm,xdn,reduceIte,Nat.reduceLT,Nat.reduceSub,Nat.reduceAdd];omega) (ag (by simp only [nrm,xdn,reduceIte,Nat.reduceLT,Nat.reduceSub,Nat.reduceAdd,Wrd.cds,Mem.cds,lca];exact aI _) (aV ⟨⟨i + 1,_,?_,hv⟩,?_⟩))
   ·rw [hS]
    simp only [nrm,xdn,reduceIte,Nat.reduceLT,Nat.reduceSub,Nat.reduceAdd,Int.toNat_natCast,c0,c1,c2,c3,c4,c5,c6,c7,c8,Wrd.cds,Mem.cds,lca,CD.row,List.headD_cons,CD.ax,cg,gV,iG]
    rfl
   ·simp only [nrm,xdn,reduceIte,Nat.reduceLT,Nat.reduceSub,Nat.reduceAdd];omega
  simp only [nrm,xdn,reduceIte,Nat.reduceLT,Nat.reduceSub,Nat.reduceAdd,Wrd.cds,Mem.cds,lca] at h2
  have h2 : q.2=0:=by simpa using h2
  rw [if_neg (fun y=>y h2)] at hS
  refine G0 (fun h3=>?_) (fun h3=>?_)
  ·simp only [nrm,xdn,reduceIte,Nat.reduceLT,Nat.reduceSub,Nat.reduceAdd,Int.toNat_natCast,c2] at h3
   rw [if_pos h3] at hS
   refine G1 (by simp only [nrm,xdn,reduceIte,Nat.reduceLT,Nat.reduceSub,Nat.reduceAdd];omega) (ag (by simp only [nrm,xdn,reduceIte,Nat.reduceLT,Nat.reduceSub,Nat.reduceAdd,Wrd.cds,Mem.cds,lca];exact aI _) (aV ⟨⟨i + 1,_,?_,hv⟩,?_⟩))
   ·rw [hS]
    simp only [nrm,xdn,reduceIte,Nat.reduceLT,Nat.reduceSub,Nat.reduceAdd,Int.toNat_natCast,c0,c1,c2,c3,c4,c5,c6,c7,c8,Wrd.cds,Mem.cds,lca,CD.row,List.headD_cons,CD.ax,cg,gV,iG]
    rfl
   ·simp only [nrm,xdn,reduceIte,Nat.reduceLT,Nat.reduceSub,Nat.reduceAdd];omega
  simp only [nrm,xdn,reduceIte,Nat.reduceLT,Nat.reduceSub,Nat.reduceAdd,Int.toNat_natCast,c2] at h3
  rw [if_neg (by rw [h3];exact Bool.false_ne_true)] at hS
  have ht:=hpt h2 h3
  refine G0 (fun h4=>?_) (fun h4=>?_)
  ·simp only [nrm,xdn,reduceIte,Nat.reduceLT,Nat.reduceSub,Nat.reduceAdd,Int.toNat_natCast,c1,Bool.not_eq_true'] at h4
   rw [if_pos h4] at hS
   refine ag (by simp only [nrm,xdn,reduceIte,Nat.reduceLT,Nat.reduceSub,Nat.reduceAdd,Int.toNat_natCast,c0];omega) (ag (by simp only [nrm,xdn,reduceIte,Nat.reduceLT,Nat.reduceSub,Nat.reduceAdd,Int.toNat_natCast,c0,aw];omega) ?_)
   refine G1 (by simp only [nrm,xdn,reduceIte,Nat.reduceLT,Nat.reduceSub,Nat.reduceAdd];omega) (ag (by simp only [nrm,xdn,reduceIte,Nat.reduceLT,Nat.reduceSub,Nat.reduceAdd,Wrd.cds,Mem.cds,lca];exact aI _) (aV ⟨⟨i + 1,_,?_,hv⟩,?_⟩))
   ·rw [hS]
    simp only [nrm,xdn,reduceIte,Nat.reduceLT,Nat.reduceSub,Nat.reduceAdd,Int.toNat_natCast,c0,c1,c2,c3,c4,c5,c6,c7,c8,Wrd.cds,Mem.cds,lca,CD.row,List.headD_cons,CD.ax,cg,gV,iG]
    rfl
   ·simp only [nrm,xdn,reduceIte,Nat.reduceLT,Nat.reduceSub,Nat.reduceAdd];omega
  simp only [nrm,xdn,reduceIte,Nat.reduceLT,Nat.reduceSub,Nat.reduceAdd,Int.toNat_natCast,c1,Bool.not_eq_false'] at h4
  rw [if_neg (by rw [h4];exact fun y=>Bool.noConfusion y)] at hS
  have hlt' : x.task.toNat < q.1.ts.length:=by omega
  obtain ⟨t,htt⟩ : ∃ t,tsk q.1 x.task=t:=⟨_,rfl⟩
  have htt' : q.1.ts.getD x.task.toNat default=t:=htt
  have e0 : ((az q.1.ts).rows.getD x.task.toNat []).getD 0 .u=.b t.busy:=by rw [cO 0 hlt',htt'];rfl
  have e1 : ((az q.1.ts).rows.getD x.task.toNat []).getD 1 .u=.i t.f.c.kind:=by rw [cO 1 hlt',htt'];rfl
  have e2 : ((az q.1.ts).rows.getD x.task.toNat []).getD 2 .u=.i t.f.c.k.a:=by rw [cO 2 hlt',htt'];rfl
  have e3 : ((az q.1.ts).rows.getD x.task.toNat []).getD 3 .u=.i t.f.c.k.b:=by rw [cO 3 hlt',htt'];rfl
  have e4 : ((az q.1.ts).rows.getD x.task.toNat []).getD 4 .u=.i t.f.c.time:=by rw [cO 4 hlt',htt'];rfl
  have e5 : ((az q.1.ts).rows.getD x.task.toNat []).getD 5 .u=.i t.f.c.bucket:=by rw [cO 5 hlt',htt'];rfl
  have e6 : ((az q.1.ts).rows.getD x.task.toNat []).getD 6 .u=.i t.f.c.slot:=by rw [cO 6 hlt',htt'];rfl
  have e7 : ((az q.1.ts).rows.getD x.task.toNat []).getD 7 .u=.i t.f.pc:=by rw [cO 7 hlt',htt'];rfl
  have e8 : ((az q.1.ts).rows.getD x.task.toNat []).getD 8 .u=.i t.f.cur:=by rw [cO 8 hlt',htt'];rfl
  have e9 : ((az q.1.ts).rows.getD x.task.toNat []).getD 9 .u=.i t.f.prev:=by rw [cO 9 hlt',htt'];rfl
  have e10 : ((az q.1.ts).rows.getD x.task.toNat []).getD 10 .u=.i t.f.slot:=by rw [cO 10 hlt',htt'];rfl
  have e11 : ((az q.1.ts).rows.getD x.task.toNat []).getD 11 .u=.i t.f.n:=by rw [cO 11 hlt',htt'];rfl
  have e12 : ((az q.1.ts).rows.getD x.task.toNat []).getD 12 .u=bS t.f.keys:=by rw [cO 12 hlt',htt'];rfl
  have e13 : ((az q.1.ts).rows.getD x.task.toNat []).getD 13 .u=.b t.f.done:=by rw [cO 13 hlt',htt'];rfl
  have e14 : ((az q.1.ts).rows.getD x.task.toNat []).getD 14 .u=.i t.f.e:=by rw [cO 14 hlt',htt'];rfl
  have hb1 : ((af s.began).rows.getD x.task.toNat []).getD 0 .u=.i (s.began.getD x.task.toNat 0):=iK (by omega)
  refine ag (by simp only [nrm,xdn,reduceIte,Nat.reduceLT,Nat.reduceSub,Nat.reduceAdd,Int.toNat_natCast,c0];omega) (ag (by simp only [nrm,xdn,reduceIte,Nat.reduceLT,Nat.reduceSub,Nat.reduceAdd,Int.toNat_natCast,c0,Wrd.cds,Mem.cds,lca,eK];omega) (G0 (fun h5=>?_) (fun h5=>?_)))
  ·simp only [nrm,xdn,reduceIte,Nat.reduceLT,Nat.reduceSub,Nat.reduceAdd,Int.toNat_natCast,c0,Wrd.cds,Mem.cds,lca,e0,Bool.not_eq_true'] at h5
   rw [htt,if_pos h5] at hS
   refine ag (by simp only [nrm,xdn,reduceIte,Nat.reduceLT,Nat.reduceSub,Nat.reduceAdd,Int.toNat_natCast,c0,aw];omega) (ai d172 [bS t.f.keys] rfl trivial (by simp only [nrm,xdn,reduceIte,Nat.reduceLT,Nat.reduceSub,Nat.reduceAdd,Int.toNat_natCast,c0,e12,Wrd.cds,Mem.cds,lca,d172,jf]) (ag (by simp only [nrm,xdn,reduceIte,Nat.reduceLT,Nat.reduceSub,Nat.reduceAdd,qm];omega) ?_))
   have hp : sO q.1 x.task (s.began.getD x.task.toNat 0) i=⟨x.task,t.f.c,s.began.getD x.task.toNat 0,i,t.f.e,t.f.slot,t.f.n,t.f.keys⟩:=by unfold sO;rw [htt]
   have ha : (gl s.past).rows ++ [[.i x.task,.i t.f.c.kind,.i t.f.c.k.a,.i t.f.c.k.b,.i t.f.c.time,.i t.f.c.bucket,.i t.f.c.slot,.i (s.began.getD x.task.toNat 0),.i (i : Int),.i t.f.e,.i t.f.slot,.i t.f.n,bS t.f.keys]]=(gl (s.past ++ [sO q.1 x.task (s.began.getD x.task.toNat 0) i])).rows:=by rw [hp];simp [gl,Pst.row]
   refine G1 (by simp only [nrm,xdn,reduceIte,Nat.reduceLT,Nat.reduceSub,Nat.reduceAdd];omega) (ag (by simp only [nrm,xdn,reduceIte,Nat.reduceLT,Nat.reduceSub,Nat.reduceAdd,Wrd.cds,Mem.cds,lca];exact aI _) (aV ⟨⟨i + 1,_,?_,hv⟩,?_⟩))
   ·rw [hS]
    simp only [nrm,xdn,reduceIte,Nat.reduceLT,Nat.reduceSub,Nat.reduceAdd,Int.toNat_natCast,c0,c1,c2,c3,c4,c5,c6,c7,c8,e1,e2,e3,e4,e5,e6,e10,e11,e14,hb1,ha,Wrd.cds,Mem.cds,lca,CD.row,List.headD_cons,CD.ax,cg,gV]
    rfl
   ·simp only [nrm,xdn,reduceIte,Nat.reduceLT,Nat.reduceSub,Nat.reduceAdd];omega
  ·simp only [nrm,xdn,reduceIte,Nat.reduceLT,Nat.reduceSub,Nat.reduceAdd,Int.toNat_natCast,c0,Wrd.cds,Mem.cds,lca,e0,Bool.not_eq_false'] at h5
   rw [htt,if_neg (by rw [h5];exact fun y=>Bool.noConfusion y)] at hS
   refine G1 (by simp only [nrm,xdn,reduceIte,Nat.reduceLT,Nat.reduceSub,Nat.reduceAdd];omega) (ag (by simp only [nrm,xdn,reduceIte,Nat.reduceLT,Nat.reduceSub,Nat.reduceAdd,Wrd.cds,Mem.cds,lca];exact aI _) (aV ⟨⟨i + 1,_,?_,hv⟩,?_⟩))
   ·rw [hS]
    simp only [nrm,xdn,reduceIte,Nat.reduceLT,Nat.reduceSub,Nat.reduceAdd,Int.toNat_natCast,c0,c1,c2,c3,c4,c5,c6,c7,c8,Wrd.cds,Mem.cds,lca,CD.row,List.headD_cons,CD.ax,cg,gV,iG]
    rfl
   ·simp only [nrm,xdn,reduceIte,Nat.reduceLT,Nat.reduceSub,Nat.reduceAdd];omega
 ·simp only [nrm,xdn,reduceIte,Nat.reduceLT,Nat.reduceSub,Nat.reduceAdd,nc] at hge ⊢
  rw [List.drop_eq_nil_of_le (show l.length≤i by omega)] at I2
  rw [I2]
  simp only [w6,Wrd.tM,Mem.cds,lca]
end Go.Proofs.Ytpmamacjepcdmaa

namespace Go.Proofs.Ytpmamacjepcdmaa
open Go Go.Sy Go.RowKit
set_option linter.unusedSimpArgs false
set_option linter.unusedVariables false
set_option maxRecDepth 20000
instance : Inhabited Pst:=⟨⟨0,⟨0,⟨0,0⟩,0,0,0⟩,0,0,0,0,0,[]⟩⟩
def qL : List Pik:=[⟨0,false,false,⟨2,⟨3,0⟩,5,0,0⟩⟩,⟨1,false,false,⟨1,⟨3,0⟩,0,0,0⟩⟩,⟨1,true,false,⟨0,⟨0,0⟩,0,0,0⟩⟩,⟨0,true,false,⟨0,⟨0,0⟩,0,0,0⟩⟩,⟨0,true,false,⟨0,⟨0,0⟩,0,0,0⟩⟩,⟨0,true,false,⟨0,⟨0,0⟩,0,0,0⟩⟩,⟨0,true,false,⟨0,⟨0,0⟩,0,0,0⟩⟩,⟨0,true,false,⟨0,⟨0,0⟩,0,0,0⟩⟩,⟨0,true,false,⟨0,⟨0,0⟩,0,0,0⟩⟩,⟨1,true,false,⟨0,⟨0,0⟩,0,0,0⟩⟩,⟨1,true,false,⟨0,⟨0,0⟩,0,0,0⟩⟩,⟨0,false,true,⟨0,⟨0,0⟩,0,0,0⟩⟩]
def pN : Wrd × Int:=iw 2 1 2
def Wrd.G4 (w : Wrd) : Wrd:=⟨w.m,w.ts.map Tsk.G4⟩
def pR : qE × Int:=BK pN.1.G4 qL
def pF : List cI × Int:=qw pR.1.w.G4
theorem pN_ok : pN.2=0:=by decide +kernel
theorem pR_ok : pR.2=0∧pR.1.said=[0,0,0,0,0,0,0,0,0,0,8,0]∧pR.1.past.length=2∧(pR.1.past.getD 0 default).e=0∧(pR.1.past.getD 0 default).task=0∧(pR.1.past.getD 1 default).e=5∧(pR.1.past.getD 1 default).to=9∧pR.1.w.m.now=1:=by decide +kernel
theorem pF_ok : pF.2=0∧pF.1.length=1:=by decide +kernel
theorem fY (a : List bp) (b c d : List Int) (n : Int) (ts : List Tsk) (l : List CD) : Wrd.of (au a :: af b :: af c :: af d :: .i n :: G2 ts :: l)=Wrd.G4 ⟨⟨a,b,c,d,n⟩,ts⟩:=by
 rw [ju];exact fX a b c d n _ l
theorem AB {l : List Pst} {i : Nat} (o : Nat) (h : i < l.length) : ((gl l).rows.getD i []).getD o .u=(l.getD i default).row.getD o .u:=dh Pst.row l i o h
def s79 : Sig:=⟨[],[.one (.bool)]⟩
def d79 : DC:=⟨s79,fun _=>True,fun _=>[.b true]⟩
def l79 : List (Nat × Ct):=[(78,d78.ct),(80,d80.ct),(134,d134.ct)]
def z79 : Cx:={ T:=ttA,C:=sigs l79,F:=[],hints:=[⟨79,5,true,[],[],[],[],0,0,false⟩],sig:=s79}
def t79 : Tree :=
 (.call 78 [.int 2,.int 1,.int 2] 0
 (.need (.clean (.var 5) 15)
 (.call 80 [.var 0,.var 1,.var 2,.var 3,.var 4,.shuts (.var 5) 15,.app (.app (.app (.app (.app (.app (.app (.app (.cons (.int 0) (.cons (.bool false) (.cons (.bool false) (.cons (.int 2) (.cons (.int 3) (.cons (.int 0) (.cons (.int 5) (.cons (.int 0) (.cons (.int 0) .row0))))))))) (.app (.cons (.int 1) (.cons (.bool false) (.cons (.bool false) (.cons (.int 1) (.cons (.int 3) (.cons (.int 0) (.cons (.int 0) (.cons (.int 0) (.cons (.int 0) .row0))))))))) (.cons (.int 1) (.cons (.bool true) (.cons (.bool false) (.cons (.int 0) (.cons (.int 0) (.cons (.int 0) (.cons (.int 0) (.cons (.int 0) (.cons (.int 0) .row0))))))))))) (.cons (.int 0) (.cons (.bool true) (.cons (.bool false) (.cons (.int 0) (.cons (.int 0) (.cons (.int 0) (.cons (.int 0) (.cons (.int 0) (.cons (.int 0) .row0)))))))))) (.cons (.int 0) (.cons (.bool true) (.cons (.bool false) (.cons (.int 0) (.cons (.int 0) (.cons (.int 0) (.cons (.int 0) (.cons (.int 0) (.cons (.int 0) .row0)))))))))) (.cons (.int 0) (.cons (.bool true) (.cons (.bool false) (.cons (.int 0) (.cons (.int 0) (.cons (.int 0) (.cons (.int 0) (.cons (.int 0) (.cons (.int 0) .row0)))))))))) (.cons (.int 0) (.cons (.bool true) (.cons (.bool false) (.cons (.int 0) (.cons (.int 0) (.cons (.int 0) (.cons (.int 0) (.cons (.int 0) (.cons (.int 0) .row0)))))))))) (.cons (.int 0) (.cons (.bool true) (.cons (.bool false) (.cons (.int 0) (.cons (.int 0) (.cons (.int 0) (.cons (.int 0) (.cons (.int 0) (.cons (.int 0) .row0)))))))))) (.cons (.int 0) (.cons (.bool true) (.cons (.bool false) (.cons (.int 0) (.cons (.int 0) (.cons (.int 0) (.cons (.int 0) (.cons (.int 0) (.cons (.int 0) .row0)))))))))) (.app (.cons (.int 1) (.cons (.bool true) (.cons (.bool false) (.cons (.int 0) (.cons (.int 0) (.cons (.int 0) (.cons (.int 0) (.cons (.int 0) (.cons (.int 0) .row0))))))))) (.app (.cons (.int 1) (.cons (.bool true) (.cons (.bool false) (.cons (.int 0) (.cons (.int 0) (.cons (.int 0) (.cons (.int 0) (.cons (.int 0) (.cons (.int 0) .row0))))))))) (.cons (.int 0) (.cons (.bool false) (.cons (.bool true) (.cons (.int 0) (.cons (.int 0) (.cons (.int 0) (.cons (.int 0) (.cons (.int 0) (.cons (.int 0) .row0)))))))))))] 7
 (.call 134 [.var 7,.var 8,.var 9,.var 10,.var 11,.var 12] 16
 (.ite (.eq (.var 6) (.int 0))
 (.ite (.eq (.var 15) (.int 0))
 (.ite (.eq (.var 17) (.int 0))
 (.ite (.eq (.len (.var 13)) (.int 12))
 (.need (.lt (.int 10) (.len (.var 13)))
 (.ite (.eq (.cell (.var 13) (.int 10) 0) (.int 8))
 (.ite (.eq (.len (.var 14)) (.int 2))
 (.need (.lt (.int 0) (.len (.var 14)))
 (.ite (.eq (.cell (.var 14) (.int 0) 9) (.int 0))
 (.ite (.eq (.cell (.var 14) (.int 0) 0) (.int 0))
 (.need (.lt (.int 1) (.len (.var 14)))
 (.ite (.eq (.cell (.var 14) (.int 1) 9) (.int 5))
 (.ite (.eq (.cell (.var 14) (.int 1) 8) (.int 9))
 (.ite (.eq (.len (.var 16)) (.int 1))
 (.ret [.eq (.var 11) (.int 1)])
 (.ret [.bool false]))
 (.ret [.bool false]))
 (.ret [.bool false])))
 (.ret [.bool false]))
 (.ret [.bool false])))
 (.ret [.bool false]))
 (.ret [.bool false])))
 (.ret [.bool false]))
 (.ret [.bool false]))
 (.ret [.bool false]))
 (.ret [.bool false]))))))
theorem run79 : run z79 6000 [.code (Try.f79.body.getD .skip),.fin (bt z79 Try.f79.results.toList 50)] { fn:=79,tmps:=z79.sig.aM ++ List.replicate (Try.f79.ntmps - z79.sig.aM.length) (.v (.one .undef)),stk:=[],h:=z79.sig.h0,nx:=z79.sig.ins.length,known:=[]}=t79:=by kernel_rfl
theorem ok79 : cB Try.prog 79 d79.ct:=by
 refine aD (d:=d79) (Z:=z79) (Γ:=gam l79) (fn:=Try.f79) (c:=Try.f79.body.getD .skip) (bg tok mixed (all_cons ok78 (all_cons ok80 (all_cons ok134 all_nil))) bh) Try.func79 (by kernel_rfl) (by kernel_rfl) rfl run79 fun E hk hp=>?_
 clear hk
 have el : aH E d79.sig.ins.length=[]:=rfl
 rw [el] at hp
 rw [el]
 rw [Env.bJ el]
 clear el
 simp only [d79]
 unfold t79
 refine ai d78 (pN.1.cds ++ [.i pN.2]) rfl trivial (by simp only [nrm,xdn,reduceIte,Nat.reduceLT,Nat.reduceSub,Nat.reduceAdd,d78];rfl) ?_
 refine ag (by simp only [nrm,xdn,reduceIte,Nat.reduceLT,Nat.reduceSub,Nat.reduceAdd,Wrd.cds,Mem.cds,lca];exact aI _) (ai d80 (pR.1.w.tM ++ [af pR.1.said,gl pR.1.past,.i pR.2]) rfl trivial ?_ ?_)
 ·simp only [nrm,xdn,reduceIte,Nat.reduceLT,Nat.reduceSub,Nat.reduceAdd,Wrd.cds,Mem.cds,lca,cg,CD.row,List.headD_cons,CD.ax]
  show d80.fn [au pN.1.m.slots,af pN.1.m.heads,af pN.1.m.free,af pN.1.m.ae,.i pN.1.m.now,G2 pN.1.ts,eD qL]=_
  simp only [d80,fY,List.getD_cons_zero,List.getD_cons_succ,oZ]
  rfl
 obtain ⟨k1,k2,k3,k4,k5,k6,k7,k8⟩:=pR_ok
 obtain ⟨j1,j2⟩:=pF_ok
 refine ai d134 [eM pF.1,.i pF.2] rfl trivial ?_ ?_
 ·simp only [nrm,xdn,reduceIte,Nat.reduceLT,Nat.reduceSub,Nat.reduceAdd,Wrd.cds,Wrd.tM,Mem.cds,lca,d134,fY]
  rfl
 have n0:=pN_ok
 have q0 : ((gl pR.1.past).rows.getD 0 []).getD 9 .u=.i (pR.1.past.getD 0 default).e:=by rw [AB 9 (by omega)];rfl
 have q1 : ((gl pR.1.past).rows.getD 0 []).getD 0 .u=.i (pR.1.past.getD 0 default).task:=by rw [AB 0 (by omega)];rfl
 have q2 : ((gl pR.1.past).rows.getD 1 []).getD 9 .u=.i (pR.1.past.getD 1 default).e:=by rw [AB 9 (by omega)];rfl
 have q3 : ((gl pR.1.past).rows.getD 1 []).getD 8 .u=.i (pR.1.past.getD 1 default).to:=by rw [AB 8 (by omega)];rfl
 have sl : ((af pR.1.said).rows.getD 10 []).getD 0 .u=.i 8:=by rw [k2];rfl
 have sn : pR.1.said.length=12:=by rw [k2];rfl
 generalize pN=N at *
 generalize pR=R at *
 generalize pF=F at *
 have t1 : (1 : Int).toNat=1:=rfl
 have t10 : (10 : Int).toNat=10:=rfl
 repeat' first
  | refine Bf (by simp only [nrm,xdn,reduceIte,Nat.reduceLT,Nat.reduceSub,Nat.reduceAdd,Wrd.cds,Wrd.tM,Mem.cds,lca,aw,qm,iT,Int.toNat_zero,t1,t10,q0,q1,q2,q3,sl,sn,n0,k1,k3,k4,k5,k6,k7,k8,j1,j2] <;> rfl) ?_
  | refine ag (by simp only [nrm,xdn,reduceIte,Nat.reduceLT,Nat.reduceSub,Nat.reduceAdd,Wrd.cds,Wrd.tM,Mem.cds,lca,aw,qm,iT,sn,k3] <;> omega) ?_
 refine aj ?_
 simp only [nrm,xdn,reduceIte,Nat.reduceLT,Nat.reduceSub,Nat.reduceAdd,Wrd.cds,Wrd.tM,Mem.cds,lca,k8] <;> rfl
end Go.Proofs.Ytpmamacjepcdmaa
