import Derived.Test.YtpmamacjepcdmaaCWorld5
namespace Go.Proofs.Ytpmamacjepcdmaa
open Go Go.Sy Go.RowKit
set_option linter.unusedSimpArgs false
set_option linter.unusedVariables false
structure Pst where
 task : Int
 c : Cal
 fr : Int
 to : Int
 e : Int
 slot : Int
 n : Int
 keys : List Key
 deriving DecidableEq
instance : Inhabited Pik:=⟨⟨0,false,false,⟨0,⟨0,0⟩,0,0,0⟩⟩⟩
def Pik.row (x : Pik) : List CD:=[.i x.task,.b x.step,.b x.tick,.i x.c.kind,.i x.c.k.a,.i x.c.k.b,.i x.c.time,.i x.c.bucket,.i x.c.slot]
def Pst.row (p : Pst) : List CD:=[.i p.task,.i p.c.kind,.i p.c.k.a,.i p.c.k.b,.i p.c.time,.i p.c.bucket,.i p.c.slot,.i p.fr,.i p.to,.i p.e,.i p.slot,.i p.n,bK p.keys]
def dw (l : List Pik) : CD:=.l (l.map Pik.row)
def fw (l : List Pst) : CD:=.l (l.map Pst.row)
def _root_.Go.Sy.CD.tX (d : CD) : List Pik:=d.rows.map Pik.of
theorem kv (l : List Pik) : (dw l).tX=l:=by
 simp only [dw,CD.tX,CD.ay,List.map_map]
 rw [show (Pik.of ∘ Pik.row)=id from rfl,List.map_id]
theorem gC (l : List Pik) : (dw l).rows.length=l.length:=by simp [dw]
theorem pQ (l : List Pst) : (fw l).rows.length=l.length:=by simp [fw]
theorem wm {b : Nat} {d : CD} (h : CD.ok (.sl b kQ.kd) d) : ∃ l,d=dw l∧l.length * b≤140737488355328:=by
 obtain ⟨⟨rows,rfl,h1,h2⟩,_⟩:=h
 obtain ⟨l,rfl⟩:=mJ (f:=Pik.row) (fun row hr=>by
  obtain ⟨d0,row,rfl,g0,hr⟩:=cd hr
  obtain ⟨d1,row,rfl,g1,hr⟩:=cd hr
  obtain ⟨d2,row,rfl,g2,hr⟩:=cd hr
  obtain ⟨d3,row,rfl,g3,hr⟩:=cd hr
  obtain ⟨d4,row,rfl,g4,hr⟩:=cd hr
  obtain ⟨d5,row,rfl,g5,hr⟩:=cd hr
  obtain ⟨d6,row,rfl,g6,hr⟩:=cd hr
  obtain ⟨d7,row,rfl,g7,hr⟩:=cd hr
  obtain ⟨d8,row,rfl,g8,hr⟩:=cd hr
  have hr:=B8 hr
  subst hr
  obtain ⟨x,rfl,rfl,rfl,rfl,rfl,rfl,rfl,rfl,rfl⟩:=uZ (d0:=d0) (d1:=d1) (d2:=d2) g0 g1 g2 g3 g4 g5 g6 g7 g8
  exact ⟨x,rfl⟩) h2
 exact ⟨l,rfl,by simpa using h1⟩
theorem Ax (t : Tsk) : t.hU.modify 15 CD.shut=t.row:=by
 show t.rw (t.hd.shut)=_
 unfold Tsk.hd
 split <;> rfl
theorem bW (l : List Tsk) : CD.l ((ax l).rows.map fun r=>r.modify 15 CD.shut)=aX l:=by
 simp only [ax,aX,CD.ay,List.map_map]
 exact congrArg CD.l (List.map_congr_left fun t _=>Ax t)
structure pv where
 w : Wrd
 said : List Int
 past : List Pst
 began : List Int
def si (w : Wrd) (x : Int) (fr to : Int) : Pst:=⟨x,(tsk w x).f.c,fr,to,(tsk w x).f.e,(tsk w x).f.slot,(tsk w x).f.n,(tsk w x).f.keys⟩
def fT (i : Nat) (x : Pik) (s : pv) : pv :=
 if (b7 s.w.aS x).2≠0 then { s with said:=s.said ++ [(b7 s.w.aS x).2]}
 else if x.tick=true then ⟨(b7 s.w.aS x).1,s.said ++ [(b7 s.w.aS x).2],s.past,s.began⟩
 else if x.step=false then ⟨(b7 s.w.aS x).1,s.said ++ [(b7 s.w.aS x).2],s.past,s.began.set x.task.toNat i⟩
 else if (tsk (b7 s.w.aS x).1 x.task).busy=false then ⟨(b7 s.w.aS x).1,s.said ++ [(b7 s.w.aS x).2],s.past ++ [si (b7 s.w.aS x).1 x.task (s.began.getD x.task.toNat 0) i],s.began⟩
 else ⟨(b7 s.w.aS x).1,s.said ++ [(b7 s.w.aS x).2],s.past,s.began⟩
def rh : List Pik→Nat→pv→pv
 | [],_,s=>s
 | x :: l,i,s=>rh l (i + 1) (fT i x s)
def r9 (w : Wrd) (l : List Pik) : pv × Int :=
 if bz w≠0 then (⟨Wrd.none,[],[],[]⟩,bz w)
 else if 300 < l.length then (⟨Wrd.none,[],[],[]⟩,2)
 else (rh l 0 ⟨w.aS,[],[],List.replicate w.ts.length 0⟩,0)
def Wrd.gi (w : Wrd) : List CD:=w.m.cds ++ [aX w.ts]
theorem sf (w : Wrd) (x : Pik) : (b7 w x).1.ts.length=w.ts.length:=by
 unfold b7
 split
 ·split <;> rfl
 ·split
  ·rfl
  ·split
   ·unfold cG
    repeat' split
    all_goals first
     | rfl
     | simp [Wrd.gone]
   ·unfold gp
    repeat' split
    all_goals first
     | rfl
     | simp [Wrd.at]
theorem AH {w : Wrd} {x : Pik} (h : (b7 w x).2=0) (ht : x.tick=false) : 0≤x.task∧x.task < w.ts.length:=by
 unfold b7 at h
 rw [if_neg (by rw [ht];exact Bool.false_ne_true)] at h
 split at h
 ·cases h
 ·omega
theorem kc.aS {n : Nat} {w : Wrd} (h : kc n w) : kc n w.aS :=
 ⟨h.m,fun t ht=>by
  obtain ⟨u,hu,rfl⟩:=List.mem_map.1 ht
  obtain ⟨k1,k2,k3⟩:=h.t u hu
  exact ⟨rfl,k2,k3⟩⟩
theorem jP (w : Wrd) : w.aS.ts.length=w.ts.length:=by simp [Wrd.aS]
theorem zX (m : Mem) (ts : List Tsk) : (Wrd.aS (Wrd.of [aq m.slots,ae m.heads,ae m.free,ae m.af,.i m.now,aX ts]))=(Wrd.aS ⟨m,ts⟩):=by
 rw [ji,fN]
 simp only [Wrd.aS,List.map_map]
 rfl
def s80 : Sig:=⟨[.agg [.fz kS,.fz kI,.fz kI,.fz kI,.int .i64,.fz kT],.one (.fz kQ)],[.agg [.fz kS,.fz kI,.fz kI,.fz kI,.int .i64,.fz kT],.one (.own 22 kI),.one (.fz kP),.one (.int .i64)]⟩
def d80 : DC:=⟨s80,fun _=>True,fun l=>(r9 (Wrd.of l) (l.getD 6 .u).tX).1.w.gi ++ [ae (r9 (Wrd.of l) (l.getD 6 .u).tX).1.said,fw (r9 (Wrd.of l) (l.getD 6 .u).tX).1.past,.i (r9 (Wrd.of l) (l.getD 6 .u).tX).2]⟩
structure RInv (l : List Pik) (s0 : pv) (i : Nat) (s : pv) : Prop where
 le : i≤l.length
 eq : rh l 0 s0=rh (l.drop i) i s
 w : kc (100 + i) s.w.aS
 said : s.said.length=i
 past : s.past.length≤i
 began : s.began.length=s.w.ts.length
theorem vZ {l : List Pik} {s0 : pv} {i : Nat} {s : pv} (h : RInv l s0 i s) (hi : i < l.length) : RInv l s0 (i + 1) (fT i (l.getD i default) s):=by
 obtain ⟨h1,h2,h3,h4,h5,h6⟩:=h
 rw [dj hi] at h2
 have hp:=(DG h3 (l.getD i default)).aS
 have hl:=sf s.w.aS (l.getD i default)
 rw [jP] at hl
 refine ⟨hi,h2,?_,?_,?_,?_⟩
 ·unfold fT
  repeat' split
  all_goals first
   | exact h3.mono (by omega)
   | exact hp
 ·unfold fT
  repeat' split
  all_goals simp [h4]
 ·unfold fT
  repeat' split
  all_goals first
   | (simp only [List.length_append,List.length_cons,List.length_nil];omega)
   | (show s.past.length≤_;omega)
 ·unfold fT
  repeat' split
  all_goals first
   | exact h6
   | (simp only [List.length_set];omega)
   | (show s.began.length=_;omega)
def l80 : List (Nat × Ct):=[(157,d157.ct),(170,d170.ct),(171,d171.ct),(172,d172.ct)]
def z80 : Cx:={ T:=ttA,C:=sigs l80,F:=[],hints:=[⟨80,9,false,[(33,.lt),(5,.own 22 kI),(6,.own 93 kP),(9,.own 3 kI)],[(0,0,.fz kS),(0,1,.fz kI),(0,2,.fz kI),(0,3,.fz kI),(0,4,.lt),(0,5,.fz kT)],[],[],0⟩],sig:=s80}
def t80 : Tree :=
 (.call 157 [.var 0,.var 1,.var 2,.var 3,.var 4,.var 5] 7
 (.ite (.not (.eq (.var 7) (.int 0)))
 (.ret [.nil,.nil,.nil,.nil,.int 0,.nil,.nil,.nil,.var 7])
 (.ite (.lt (.int 300) (.len (.var 6)))
 (.ret [.nil,.nil,.nil,.nil,.int 0,.nil,.nil,.nil,.int 2])
 (.call 170 [.var 0,.var 1,.var 2,.var 3,.var 4,.var 5] 8
 (.need (.le (.len (.var 13)) (.int 17592186044416))
 (.need (.clean (.var 13) 15)
 (.loop 14 [.sl 8 [.int .i64],.sl 120 [.int .i64,.int .i64,.int .i64,.int .i64,.int .i64,.int .i64,.int .i64,.int .i64,.int .i64,.int .i64,.int .i64,.int .i64,.sl 16 [.int .i64,.int .i64]],.sl 8 [.int .i64],.int .i64,.sl 48 [.int .i64,.int .i64,.int .i64,.int .i64,.bool,.int .i64],.sl 8 [.int .i64],.sl 8 [.int .i64],.sl 8 [.int .i64],.int .i64,.sl 160 [.bool,.int .i64,.int .i64,.int .i64,.int .i64,.int .i64,.int .i64,.int .i64,.int .i64,.int .i64,.int .i64,.int .i64,.sl 16 [.int .i64,.int .i64],.bool,.int .i64,.sl 8 [.int .i64]]] [.nil,.nil,.rep (.len (.var 13)) (.cons (.int 0) .row0),.int 0,.var 8,.var 9,.var 10,.var 11,.var 12,.shuts (.var 13) 15]
 (.ite (.lt (.var 18) (.len (.var 6)))
 (.need (.le (.int 0) (.var 18))
 (.call 170 [.var 19,.var 20,.var 21,.var 22,.var 23,.var 24] 25
 (.need (.clean (.var 30) 15)
 (.call 171 [.var 25,.var 26,.var 27,.var 28,.var 29,.var 30,.cell (.var 6) (.var 18) 0,.cell (.var 6) (.var 18) 1,.cell (.var 6) (.var 18) 2,.cell (.var 6) (.var 18) 3,.cell (.var 6) (.var 18) 4,.cell (.var 6) (.var 18) 5,.cell (.var 6) (.var 18) 6,.cell (.var 6) (.var 18) 7,.cell (.var 6) (.var 18) 8] 31
 (.need (.le (.add (.len (.var 15)) (.int 1)) (.int 17592186044416))
 (.ite (.not (.eq (.var 37) (.int 0)))
 (.need (.fit (.add (.var 18) (.int 1)))
 (.need (.clean (.var 36) 15)
 (.back 14 [.app (.var 15) (.cons (.var 37) .row0),.var 16,.var 17,.add (.var 18) (.int 1),.var 19,.var 20,.var 21,.var 22,.var 23,.var 24])))
 (.ite (.cell (.var 6) (.var 18) 2)
 (.need (.fit (.add (.var 18) (.int 1)))
 (.need (.clean (.var 36) 15)
 (.back 14 [.app (.var 15) (.cons (.var 37) .row0),.var 16,.var 17,.add (.var 18) (.int 1),.var 31,.var 32,.var 33,.var 34,.var 35,.shuts (.var 36) 15])))
 (.ite (.not (.cell (.var 6) (.var 18) 1))
 (.need (.le (.int 0) (.cell (.var 6) (.var 18) 0))
 (.need (.lt (.cell (.var 6) (.var 18) 0) (.len (.var 17)))
 (.need (.fit (.add (.var 18) (.int 1)))
 (.need (.clean (.var 36) 15)
 (.back 14 [.app (.var 15) (.cons (.var 37) .row0),.var 16,.set (.var 17) (.cell (.var 6) (.var 18) 0) 0 (.var 18),.add (.var 18) (.int 1),.var 31,.var 32,.var 33,.var 34,.var 35,.shuts (.var 36) 15])))))
 (.need (.le (.int 0) (.cell (.var 6) (.var 18) 0))
 (.need (.lt (.cell (.var 6) (.var 18) 0) (.len (.var 36)))
 (.ite (.not (.cell (.var 36) (.cell (.var 6) (.var 18) 0) 0))
 (.need (.lt (.cell (.var 6) (.var 18) 0) (.len (.var 17)))
 (.call 172 [.cell (.var 36) (.cell (.var 6) (.var 18) 0) 12] 38
 (.need (.le (.add (.len (.var 16)) (.int 1)) (.int 1172812402961))
 (.need (.fit (.add (.var 18) (.int 1)))
 (.need (.clean (.var 36) 15)
 (.back 14 [.app (.var 15) (.cons (.var 37) .row0),.app (.var 16) (.cons (.cell (.var 6) (.var 18) 0) (.cons (.cell (.var 36) (.cell (.var 6) (.var 18) 0) 1) (.cons (.cell (.var 36) (.cell (.var 6) (.var 18) 0) 2) (.cons (.cell (.var 36) (.cell (.var 6) (.var 18) 0) 3) (.cons (.cell (.var 36) (.cell (.var 6) (.var 18) 0) 4) (.cons (.cell (.var 36) (.cell (.var 6) (.var 18) 0) 5) (.cons (.cell (.var 36) (.cell (.var 6) (.var 18) 0) 6) (.cons (.cell (.var 17) (.cell (.var 6) (.var 18) 0) 0) (.cons (.var 18) (.cons (.cell (.var 36) (.cell (.var 6) (.var 18) 0) 14) (.cons (.cell (.var 36) (.cell (.var 6) (.var 18) 0) 10) (.cons (.cell (.var 36) (.cell (.var 6) (.var 18) 0) 11) (.cons (.var 38) .row0))))))))))))),.var 17,.add (.var 18) (.int 1),.var 31,.var 32,.var 33,.var 34,.var 35,.shuts (.var 36) 15]))))))
 (.need (.fit (.add (.var 18) (.int 1)))
 (.need (.clean (.var 36) 15)
 (.back 14 [.app (.var 15) (.cons (.var 37) .row0),.var 16,.var 17,.add (.var 18) (.int 1),.var 31,.var 32,.var 33,.var 34,.var 35,.shuts (.var 36) 15]))))))))))))))
 (.ret [.var 19,.var 20,.var 21,.var 22,.var 23,.var 24,.var 15,.var 16,.int 0])))))))))
theorem run80 : run z80 6000 [.code (Try.f80.body.getD .skip),.fin (br z80 Try.f80.results.toList 50)] { fn:=80,tmps:=z80.sig.aL ++ List.replicate (Try.f80.ntmps - z80.sig.aL.length) (.v (.one .undef)),stk:=[],h:=z80.sig.h0,nx:=z80.sig.ins.length,known:=[]}=t80:=by kernel_rfl
set_option maxHeartbeats 4000000 in
theorem ok80 : cA Try.prog 80 d80.ct:=by
 refine aB (d:=d80) (Z:=z80) (Γ:=gam l80) (fn:=Try.f80) (c:=Try.f80.body.getD .skip) (bc tok mixed (all_cons ok157 (all_cons ok170 (all_cons ok171 (all_cons ok172 all_nil)))) bd) Try.func80 (by kernel_rfl) (by kernel_rfl) rfl run80 fun E hk hp=>?_
 obtain ⟨hk0,hk1,hk2,hk3,hk4,hk5,hk6,_⟩:=hk
 obtain ⟨m,e0,e1,e2,e3,e4,b0,b1,b2,b3⟩:=cr (d0:=E 0) (d1:=E 1) (d2:=E 2) (d3:=E 3) (d4:=E 4) hk0 hk1 hk2 hk3 hk4
 obtain ⟨ts,e5,hts,b5⟩:=gS (d:=E 5) hk5
 have b5 : ts.length * 160≤140737488355328:=b5
 obtain ⟨l,e6,b6⟩:=wm (d:=E 6) hk6
 have b6 : l.length * 64≤140737488355328:=b6
 have el : aH E d80.sig.ins.length=[aq m.slots,ae m.heads,ae m.free,ae m.af,.i m.now,aX ts,dw l]:=by
  show [E 0,E 1,E 2,E 3,E 4,E 5,E 6]=_
  rw [e0,e1,e2,e3,e4,e5,e6]
 rw [el] at hp
 rw [el]
 rw [Env.bE el]
 clear el e0 e1 e2 e3 e4 e5 e6
 have hown : ∀ t∈ts,t.own=false:=fun t ht=>(hts t ht).1
 simp only [d80,ke _ _ _ _ _ hown,aw,List.getD_cons_zero,List.getD_cons_succ,kv]
 unfold r9
 unfold t80
 refine ai d157 [.i (bz ⟨m,ts⟩)] rfl trivial (by simp only [nrm,xdn,reduceIte,Nat.reduceLT,Nat.reduceSub,Nat.reduceAdd,d157,ke _ _ _ _ _ hown,aw]) (ah (fun h=>aj ?_) (fun h=>?_))
 ·simp only [nrm,xdn,reduceIte,Nat.reduceLT,Nat.reduceSub,Nat.reduceAdd] at h ⊢
  rw [if_pos (by simpa using h)];rfl
 simp only [nrm,xdn,reduceIte,Nat.reduceLT,Nat.reduceSub,Nat.reduceAdd] at h
 have h : bz ⟨m,ts⟩=0:=by simpa using h
 rw [if_neg (fun y=>y h)]
 refine ah (fun h1=>aj ?_) (fun h1=>?_)
 ·simp only [nrm,xdn,reduceIte,Nat.reduceLT,Nat.reduceSub,Nat.reduceAdd,gC] at h1 ⊢
  rw [if_pos (by omega)];rfl
 simp only [nrm,xdn,reduceIte,Nat.reduceLT,Nat.reduceSub,Nat.reduceAdd,gC] at h1
 rw [if_neg (by omega)]
 have hw:=Dz h
 refine ai d170 (Wrd.aS ⟨m,ts⟩).cds rfl trivial (by simp only [nrm,xdn,reduceIte,Nat.reduceLT,Nat.reduceSub,Nat.reduceAdd,d170,zX]) ?_
 obtain ⟨s0,hs0⟩ : ∃ s0 : pv,(⟨Wrd.aS ⟨m,ts⟩,[],[],List.replicate ts.length 0⟩ : pv)=s0:=⟨_,rfl⟩
 have hlen : (Wrd.aS ⟨m,ts⟩).ts.length=ts.length:=jP _
 show Tree.den _ (fun outs=>outs=(rh l 0 ⟨Wrd.aS ⟨m,ts⟩,[],[],List.replicate ts.length 0⟩).w.gi ++ [ae (rh l 0 ⟨Wrd.aS ⟨m,ts⟩,[],[],List.replicate ts.length 0⟩).said,fw (rh l 0 ⟨Wrd.aS ⟨m,ts⟩,[],[],List.replicate ts.length 0⟩).past,.i 0]) _ _ _
 rw [hs0]
 have hz : ∀ n : Nat,CD.l (List.replicate n [CD.i 0])=ae (List.replicate n 0):=fun n=>by simp [ae]
 refine ag (by simp only [nrm,xdn,reduceIte,Nat.reduceLT,Nat.reduceSub,Nat.reduceAdd,Wrd.cds,Mem.cds,lca,eB,hlen];omega) (ag (by simp only [nrm,xdn,reduceIte,Nat.reduceLT,Nat.reduceSub,Nat.reduceAdd,Wrd.cds,Mem.cds,lca];exact aI _)
  (bY (fun ds=>∃ (i : Nat) (s : pv),ds=[ae s.said,fw s.past,ae s.began,.i i,aq s.w.m.slots,ae s.w.m.heads,ae s.w.m.free,ae s.w.m.af,.i s.w.m.now,aX s.w.ts]∧RInv l s0 i s) (fun ds=>l.length - (ds.getD 3 .u).int.toNat) ⟨0,s0,?_,?_⟩ ?_))
 ·simp only [nrm,xdn,reduceIte,Nat.reduceLT,Nat.reduceSub,Nat.reduceAdd,Wrd.cds,Mem.cds,lca,eB,hlen,bW,CD.row,List.headD_cons,Int.toNat_natCast,hz]
  rw [← hs0];rfl
 ·subst hs0
  exact ⟨Nat.zero_le _,rfl,hw.aS.mono (by omega),rfl,Nat.le_refl _,by simp [hlen]⟩
 rintro ds - ⟨i,s,rfl,hI⟩
 obtain ⟨I1,I2,I3,I4,I5,I6⟩:=id hI
 refine ah (fun hlt=>?_) (fun hge=>aj ?_)
 ·simp only [nrm,xdn,reduceIte,Nat.reduceLT,Nat.reduceSub,Nat.reduceAdd,gC] at hlt
  obtain ⟨x,hx⟩ : ∃ x,l.getD i default=x:=⟨_,rfl⟩
  have hcell : ∀ o,((dw l).rows.getD i []).getD o .u=x.row.getD o .u:=fun o=>by rw [← hx];exact fk Pik.row l i o (by omega)
  have c0 : ((dw l).rows.getD i []).getD 0 .u=.i x.task:=hcell 0
  have c1 : ((dw l).rows.getD i []).getD 1 .u=.b x.step:=hcell 1
  have c2 : ((dw l).rows.getD i []).getD 2 .u=.b x.tick:=hcell 2
  have c3 : ((dw l).rows.getD i []).getD 3 .u=.i x.c.kind:=hcell 3
  have c4 : ((dw l).rows.getD i []).getD 4 .u=.i x.c.k.a:=hcell 4
  have c5 : ((dw l).rows.getD i []).getD 5 .u=.i x.c.k.b:=hcell 5
  have c6 : ((dw l).rows.getD i []).getD 6 .u=.i x.c.time:=hcell 6
  have c7 : ((dw l).rows.getD i []).getD 7 .u=.i x.c.bucket:=hcell 7
  have c8 : ((dw l).rows.getD i []).getD 8 .u=.i x.c.slot:=hcell 8
  have hv:=vZ hI (show i < l.length by omega)
  rw [hx] at hv
  have hsw : (⟨s.w.m,s.w.ts⟩ : Wrd)=s.w:=rfl
  refine ag (by simp only [nrm,xdn,reduceIte,Nat.reduceLT,Nat.reduceSub,Nat.reduceAdd];omega) (ai d170 s.w.aS.cds rfl trivial (by simp only [nrm,xdn,reduceIte,Nat.reduceLT,Nat.reduceSub,Nat.reduceAdd,d170,zX,hsw]) ?_)
  have hpl:=sf s.w.aS x
  rw [jP] at hpl
  have hpt:=AH (w:=s.w.aS) (x:=x)
  rw [jP] at hpt
  obtain ⟨q,hq⟩ : ∃ q,b7 s.w.aS x=q:=⟨_,rfl⟩
  have hS : fT i x s=if q.2≠0 then { s with said:=s.said ++ [q.2]} else if x.tick=true then ⟨q.1,s.said ++ [q.2],s.past,s.began⟩ else if x.step=false then ⟨q.1,s.said ++ [q.2],s.past,s.began.set x.task.toNat i⟩ else if (tsk q.1 x.task).busy=false then ⟨q.1,s.said ++ [q.2],s.past ++ [si q.1 x.task (s.began.getD x.task.toNat 0) i],s.began⟩ else ⟨q.1,s.said ++ [q.2],s.past,s.began⟩:=by rw [← hq];rfl
  rw [hq] at hpl hpt
  refine ag (by simp only [nrm,xdn,reduceIte,Nat.reduceLT,Nat.reduceSub,Nat.reduceAdd,Wrd.cds,Mem.cds,lca];exact aI _) (ai d171 (q.1.cds ++ [.i q.2]) rfl ?_ ?_ ?_)
  ·simp only [nrm,xdn,reduceIte,Nat.reduceLT,Nat.reduceSub,Nat.reduceAdd,Wrd.cds,Mem.cds,lca,d171,fN,aw]
   exact I3.in (by omega)
  ·simp only [nrm,xdn,reduceIte,Nat.reduceLT,Nat.reduceSub,Nat.reduceAdd,Int.toNat_natCast,c0,c1,c2,c3,c4,c5,c6,c7,c8,Wrd.cds,Mem.cds,lca,d171,fN,aw,List.drop_succ_cons,List.drop_zero,nL,cx]
   rw [← hq]
  refine ag (by simp only [nrm,xdn,reduceIte,Nat.reduceLT,Nat.reduceSub,Nat.reduceAdd,av];omega) (ah (fun h2=>?_) (fun h2=>?_))
  ·simp only [nrm,xdn,reduceIte,Nat.reduceLT,Nat.reduceSub,Nat.reduceAdd,Wrd.cds,Mem.cds,lca] at h2
   rw [if_pos (by simpa using h2)] at hS
   refine a9 (by simp only [nrm,xdn,reduceIte,Nat.reduceLT,Nat.reduceSub,Nat.reduceAdd];omega) (ag (by simp only [nrm,xdn,reduceIte,Nat.reduceLT,Nat.reduceSub,Nat.reduceAdd,Wrd.cds,Mem.cds,lca];exact aI _) (bU ⟨⟨i + 1,_,?_,hv⟩,?_⟩))
   ·rw [hS]
    simp only [nrm,xdn,reduceIte,Nat.reduceLT,Nat.reduceSub,Nat.reduceAdd,Int.toNat_natCast,c0,c1,c2,c3,c4,c5,c6,c7,c8,Wrd.cds,Mem.cds,lca,CD.row,List.headD_cons,CD.ay,bW,gO,ij]
    rfl
   ·simp only [nrm,xdn,reduceIte,Nat.reduceLT,Nat.reduceSub,Nat.reduceAdd];omega
  simp only [nrm,xdn,reduceIte,Nat.reduceLT,Nat.reduceSub,Nat.reduceAdd,Wrd.cds,Mem.cds,lca] at h2
  have h2 : q.2=0:=by simpa using h2
  rw [if_neg (fun y=>y h2)] at hS
  refine ah (fun h3=>?_) (fun h3=>?_)
  ·simp only [nrm,xdn,reduceIte,Nat.reduceLT,Nat.reduceSub,Nat.reduceAdd,Int.toNat_natCast,c2] at h3
   rw [if_pos h3] at hS
   refine a9 (by simp only [nrm,xdn,reduceIte,Nat.reduceLT,Nat.reduceSub,Nat.reduceAdd];omega) (ag (by simp only [nrm,xdn,reduceIte,Nat.reduceLT,Nat.reduceSub,Nat.reduceAdd,Wrd.cds,Mem.cds,lca];exact aI _) (bU ⟨⟨i + 1,_,?_,hv⟩,?_⟩))
   ·rw [hS]
    simp only [nrm,xdn,reduceIte,Nat.reduceLT,Nat.reduceSub,Nat.reduceAdd,Int.toNat_natCast,c0,c1,c2,c3,c4,c5,c6,c7,c8,Wrd.cds,Mem.cds,lca,CD.row,List.headD_cons,CD.ay,bW,gO,ij]
    rfl
   ·simp only [nrm,xdn,reduceIte,Nat.reduceLT,Nat.reduceSub,Nat.reduceAdd];omega
  simp only [nrm,xdn,reduceIte,Nat.reduceLT,Nat.reduceSub,Nat.reduceAdd,Int.toNat_natCast,c2] at h3
  rw [if_neg (by rw [h3];exact Bool.false_ne_true)] at hS
  have ht:=hpt h2 h3
  refine ah (fun h4=>?_) (fun h4=>?_)
  ·simp only [nrm,xdn,reduceIte,Nat.reduceLT,Nat.reduceSub,Nat.reduceAdd,Int.toNat_natCast,c1,Bool.not_eq_true'] at h4
   rw [if_pos h4] at hS
   refine ag (by simp only [nrm,xdn,reduceIte,Nat.reduceLT,Nat.reduceSub,Nat.reduceAdd,Int.toNat_natCast,c0];omega) (ag (by simp only [nrm,xdn,reduceIte,Nat.reduceLT,Nat.reduceSub,Nat.reduceAdd,Int.toNat_natCast,c0,av];omega) ?_)
   refine a9 (by simp only [nrm,xdn,reduceIte,Nat.reduceLT,Nat.reduceSub,Nat.reduceAdd];omega) (ag (by simp only [nrm,xdn,reduceIte,Nat.reduceLT,Nat.reduceSub,Nat.reduceAdd,Wrd.cds,Mem.cds,lca];exact aI _) (bU ⟨⟨i + 1,_,?_,hv⟩,?_⟩))
   ·rw [hS]
    simp only [nrm,xdn,reduceIte,Nat.reduceLT,Nat.reduceSub,Nat.reduceAdd,Int.toNat_natCast,c0,c1,c2,c3,c4,c5,c6,c7,c8,Wrd.cds,Mem.cds,lca,CD.row,List.headD_cons,CD.ay,bW,gO,ij]
    rfl
   ·simp only [nrm,xdn,reduceIte,Nat.reduceLT,Nat.reduceSub,Nat.reduceAdd];omega
  simp only [nrm,xdn,reduceIte,Nat.reduceLT,Nat.reduceSub,Nat.reduceAdd,Int.toNat_natCast,c1,Bool.not_eq_false'] at h4
  rw [if_neg (by rw [h4];exact fun y=>Bool.noConfusion y)] at hS
  have hlt' : x.task.toNat < q.1.ts.length:=by omega
  obtain ⟨t,htt⟩ : ∃ t,tsk q.1 x.task=t:=⟨_,rfl⟩
  have htt' : q.1.ts.getD x.task.toNat default=t:=htt
  have e0 : ((ax q.1.ts).rows.getD x.task.toNat []).getD 0 .u=.b t.busy:=by rw [cO 0 hlt',htt'];rfl
  have e1 : ((ax q.1.ts).rows.getD x.task.toNat []).getD 1 .u=.i t.f.c.kind:=by rw [cO 1 hlt',htt'];rfl
  have e2 : ((ax q.1.ts).rows.getD x.task.toNat []).getD 2 .u=.i t.f.c.k.a:=by rw [cO 2 hlt',htt'];rfl
  have e3 : ((ax q.1.ts).rows.getD x.task.toNat []).getD 3 .u=.i t.f.c.k.b:=by rw [cO 3 hlt',htt'];rfl
  have e4 : ((ax q.1.ts).rows.getD x.task.toNat []).getD 4 .u=.i t.f.c.time:=by rw [cO 4 hlt',htt'];rfl
  have e5 : ((ax q.1.ts).rows.getD x.task.toNat []).getD 5 .u=.i t.f.c.bucket:=by rw [cO 5 hlt',htt'];rfl
  have e6 : ((ax q.1.ts).rows.getD x.task.toNat []).getD 6 .u=.i t.f.c.slot:=by rw [cO 6 hlt',htt'];rfl
  have e7 : ((ax q.1.ts).rows.getD x.task.toNat []).getD 7 .u=.i t.f.pc:=by rw [cO 7 hlt',htt'];rfl
  have e8 : ((ax q.1.ts).rows.getD x.task.toNat []).getD 8 .u=.i t.f.cur:=by rw [cO 8 hlt',htt'];rfl
  have e9 : ((ax q.1.ts).rows.getD x.task.toNat []).getD 9 .u=.i t.f.prev:=by rw [cO 9 hlt',htt'];rfl
  have e10 : ((ax q.1.ts).rows.getD x.task.toNat []).getD 10 .u=.i t.f.slot:=by rw [cO 10 hlt',htt'];rfl
  have e11 : ((ax q.1.ts).rows.getD x.task.toNat []).getD 11 .u=.i t.f.n:=by rw [cO 11 hlt',htt'];rfl
  have e12 : ((ax q.1.ts).rows.getD x.task.toNat []).getD 12 .u=bK t.f.keys:=by rw [cO 12 hlt',htt'];rfl
  have e13 : ((ax q.1.ts).rows.getD x.task.toNat []).getD 13 .u=.b t.f.done:=by rw [cO 13 hlt',htt'];rfl
  have e14 : ((ax q.1.ts).rows.getD x.task.toNat []).getD 14 .u=.i t.f.e:=by rw [cO 14 hlt',htt'];rfl
  have hb1 : ((ae s.began).rows.getD x.task.toNat []).getD 0 .u=.i (s.began.getD x.task.toNat 0):=iw (by omega)
  refine ag (by simp only [nrm,xdn,reduceIte,Nat.reduceLT,Nat.reduceSub,Nat.reduceAdd,Int.toNat_natCast,c0];omega) (ag (by simp only [nrm,xdn,reduceIte,Nat.reduceLT,Nat.reduceSub,Nat.reduceAdd,Int.toNat_natCast,c0,Wrd.cds,Mem.cds,lca,eB];omega) (ah (fun h5=>?_) (fun h5=>?_)))
  ·simp only [nrm,xdn,reduceIte,Nat.reduceLT,Nat.reduceSub,Nat.reduceAdd,Int.toNat_natCast,c0,Wrd.cds,Mem.cds,lca,e0,Bool.not_eq_true'] at h5
   rw [htt,if_pos h5] at hS
   refine ag (by simp only [nrm,xdn,reduceIte,Nat.reduceLT,Nat.reduceSub,Nat.reduceAdd,Int.toNat_natCast,c0,av];omega) (ai d172 [bK t.f.keys] rfl trivial (by simp only [nrm,xdn,reduceIte,Nat.reduceLT,Nat.reduceSub,Nat.reduceAdd,Int.toNat_natCast,c0,e12,Wrd.cds,Mem.cds,lca,d172,iW]) (ag (by simp only [nrm,xdn,reduceIte,Nat.reduceLT,Nat.reduceSub,Nat.reduceAdd,pQ];omega) ?_))
   have hp : si q.1 x.task (s.began.getD x.task.toNat 0) i=⟨x.task,t.f.c,s.began.getD x.task.toNat 0,i,t.f.e,t.f.slot,t.f.n,t.f.keys⟩:=by unfold si;rw [htt]
   have ha : (fw s.past).rows ++ [[.i x.task,.i t.f.c.kind,.i t.f.c.k.a,.i t.f.c.k.b,.i t.f.c.time,.i t.f.c.bucket,.i t.f.c.slot,.i (s.began.getD x.task.toNat 0),.i (i : Int),.i t.f.e,.i t.f.slot,.i t.f.n,bK t.f.keys]]=(fw (s.past ++ [si q.1 x.task (s.began.getD x.task.toNat 0) i])).rows:=by rw [hp];simp [fw,Pst.row]
   refine a9 (by simp only [nrm,xdn,reduceIte,Nat.reduceLT,Nat.reduceSub,Nat.reduceAdd];omega) (ag (by simp only [nrm,xdn,reduceIte,Nat.reduceLT,Nat.reduceSub,Nat.reduceAdd,Wrd.cds,Mem.cds,lca];exact aI _) (bU ⟨⟨i + 1,_,?_,hv⟩,?_⟩))
   ·rw [hS]
    simp only [nrm,xdn,reduceIte,Nat.reduceLT,Nat.reduceSub,Nat.reduceAdd,Int.toNat_natCast,c0,c1,c2,c3,c4,c5,c6,c7,c8,e1,e2,e3,e4,e5,e6,e10,e11,e14,hb1,ha,Wrd.cds,Mem.cds,lca,CD.row,List.headD_cons,CD.ay,bW,gO]
    rfl
   ·simp only [nrm,xdn,reduceIte,Nat.reduceLT,Nat.reduceSub,Nat.reduceAdd];omega
  ·simp only [nrm,xdn,reduceIte,Nat.reduceLT,Nat.reduceSub,Nat.reduceAdd,Int.toNat_natCast,c0,Wrd.cds,Mem.cds,lca,e0,Bool.not_eq_false'] at h5
   rw [htt,if_neg (by rw [h5];exact fun y=>Bool.noConfusion y)] at hS
   refine a9 (by simp only [nrm,xdn,reduceIte,Nat.reduceLT,Nat.reduceSub,Nat.reduceAdd];omega) (ag (by simp only [nrm,xdn,reduceIte,Nat.reduceLT,Nat.reduceSub,Nat.reduceAdd,Wrd.cds,Mem.cds,lca];exact aI _) (bU ⟨⟨i + 1,_,?_,hv⟩,?_⟩))
   ·rw [hS]
    simp only [nrm,xdn,reduceIte,Nat.reduceLT,Nat.reduceSub,Nat.reduceAdd,Int.toNat_natCast,c0,c1,c2,c3,c4,c5,c6,c7,c8,Wrd.cds,Mem.cds,lca,CD.row,List.headD_cons,CD.ay,bW,gO,ij]
    rfl
   ·simp only [nrm,xdn,reduceIte,Nat.reduceLT,Nat.reduceSub,Nat.reduceAdd];omega
 ·simp only [nrm,xdn,reduceIte,Nat.reduceLT,Nat.reduceSub,Nat.reduceAdd,gC] at hge ⊢
  rw [List.drop_eq_nil_of_le (show l.length≤i by omega)] at I2
  rw [I2]
  simp only [rh,Wrd.gi,Mem.cds,lca]
end Go.Proofs.Ytpmamacjepcdmaa

namespace Go.Proofs.Ytpmamacjepcdmaa
open Go Go.Sy Go.RowKit
set_option linter.unusedSimpArgs false
set_option linter.unusedVariables false
set_option maxRecDepth 20000
instance : Inhabited Pst:=⟨⟨0,⟨0,⟨0,0⟩,0,0,0⟩,0,0,0,0,0,[]⟩⟩
def qL : List Pik:=[⟨0,false,false,⟨2,⟨3,0⟩,5,0,0⟩⟩,⟨1,false,false,⟨1,⟨3,0⟩,0,0,0⟩⟩,⟨1,true,false,⟨0,⟨0,0⟩,0,0,0⟩⟩,⟨0,true,false,⟨0,⟨0,0⟩,0,0,0⟩⟩,⟨0,true,false,⟨0,⟨0,0⟩,0,0,0⟩⟩,⟨0,true,false,⟨0,⟨0,0⟩,0,0,0⟩⟩,⟨0,true,false,⟨0,⟨0,0⟩,0,0,0⟩⟩,⟨0,true,false,⟨0,⟨0,0⟩,0,0,0⟩⟩,⟨0,true,false,⟨0,⟨0,0⟩,0,0,0⟩⟩,⟨1,true,false,⟨0,⟨0,0⟩,0,0,0⟩⟩,⟨1,true,false,⟨0,⟨0,0⟩,0,0,0⟩⟩,⟨0,false,true,⟨0,⟨0,0⟩,0,0,0⟩⟩]
def pN : Wrd × Int:=oU 2 1 2
def Wrd.bH (w : Wrd) : Wrd:=⟨w.m,w.ts.map Tsk.bH⟩
def pR : pv × Int:=r9 pN.1.bH qL
def pF : List dV × Int:=pY pR.1.w.bH
theorem pN_ok : pN.2=0:=by decide +kernel
theorem pR_ok : pR.2=0∧pR.1.said=[0,0,0,0,0,0,0,0,0,0,8,0]∧pR.1.past.length=2∧(pR.1.past.getD 0 default).e=0∧(pR.1.past.getD 0 default).task=0∧(pR.1.past.getD 1 default).e=5∧(pR.1.past.getD 1 default).to=9∧pR.1.w.m.now=1:=by decide +kernel
theorem pF_ok : pF.2=0∧pF.1.length=1:=by decide +kernel
theorem dm (a : List bp) (b c d : List Int) (n : Int) (ts : List Tsk) (l : List CD) : Wrd.of (aq a :: ae b :: ae c :: ae d :: .i n :: aX ts :: l)=Wrd.bH ⟨⟨a,b,c,d,n⟩,ts⟩:=by
 rw [ji];exact fN a b c d n _ l
theorem zq {l : List Pst} {i : Nat} (o : Nat) (h : i < l.length) : ((fw l).rows.getD i []).getD o .u=(l.getD i default).row.getD o .u:=fk Pst.row l i o h
def s79 : Sig:=⟨[],[.one (.bool)]⟩
def d79 : DC:=⟨s79,fun _=>True,fun _=>[.b true]⟩
def l79 : List (Nat × Ct):=[(78,d78.ct),(80,d80.ct),(134,d134.ct)]
def z79 : Cx:={ T:=ttA,C:=sigs l79,F:=[],hints:=[⟨79,5,true,[],[],[],[],0⟩],sig:=s79}
def t79 : Tree :=
 (.call 78 [.int 2,.int 1,.int 2] 0
 (.need (.clean (.var 5) 15)
 (.call 80 [.var 0,.var 1,.var 2,.var 3,.var 4,.shuts (.var 5) 15,.app (.app (.app (.app (.app (.app (.app (.app (.cons (.int 0) (.cons (.bool false) (.cons (.bool false) (.cons (.int 2) (.cons (.int 3) (.cons (.int 0) (.cons (.int 5) (.cons (.int 0) (.cons (.int 0) .row0))))))))) (.app (.cons (.int 1) (.cons (.bool false) (.cons (.bool false) (.cons (.int 1) (.cons (.int 3) (.cons (.int 0) (.cons (.int 0) (.cons (.int 0) (.cons (.int 0) .row0))))))))) (.cons (.int 1) (.cons (.bool true) (.cons (.bool false) (.cons (.int 0) (.cons (.int 0) (.cons (.int 0) (.cons (.int 0) (.cons (.int 0) (.cons (.int 0) .row0))))))))))) (.cons (.int 0) (.cons (.bool true) (.cons (.bool false) (.cons (.int 0) (.cons (.int 0) (.cons (.int 0) (.cons (.int 0) (.cons (.int 0) (.cons (.int 0) .row0)))))))))) (.cons (.int 0) (.cons (.bool true) (.cons (.bool false) (.cons (.int 0) (.cons (.int 0) (.cons (.int 0) (.cons (.int 0) (.cons (.int 0) (.cons (.int 0) .row0)))))))))) (.cons (.int 0) (.cons (.bool true) (.cons (.bool false) (.cons (.int 0) (.cons (.int 0) (.cons (.int 0) (.cons (.int 0) (.cons (.int 0) (.cons (.int 0) .row0)))))))))) (.cons (.int 0) (.cons (.bool true) (.cons (.bool false) (.cons (.int 0) (.cons (.int 0) (.cons (.int 0) (.cons (.int 0) (.cons (.int 0) (.cons (.int 0) .row0)))))))))) (.cons (.int 0) (.cons (.bool true) (.cons (.bool false) (.cons (.int 0) (.cons (.int 0) (.cons (.int 0) (.cons (.int 0) (.cons (.int 0) (.cons (.int 0) .row0)))))))))) (.cons (.int 0) (.cons (.bool true) (.cons (.bool false) (.cons (.int 0) (.cons (.int 0) (.cons (.int 0) (.cons (.int 0) (.cons (.int 0) (.cons (.int 0) .row0)))))))))) (.app (.cons (.int 1) (.cons (.bool true) (.cons (.bool false) (.cons (.int 0) (.cons (.int 0) (.cons (.int 0) (.cons (.int 0) (.cons (.int 0) (.cons (.int 0) .row0))))))))) (.app (.cons (.int 1) (.cons (.bool true) (.cons (.bool false) (.cons (.int 0) (.cons (.int 0) (.cons (.int 0) (.cons (.int 0) (.cons (.int 0) (.cons (.int 0) .row0))))))))) (.cons (.int 0) (.cons (.bool false) (.cons (.bool true) (.cons (.int 0) (.cons (.int 0) (.cons (.int 0) (.cons (.int 0) (.cons (.int 0) (.cons (.int 0) .row0)))))))))))] 7
 (.call 134 [.var 7,.var 8,.var 9,.var 10,.var 11,.var 12] 16
 (.ite (.eq (.var 6) (.int 0))
 (.ite (.eq (.var 15) (.int 0))
 (.ite (.eq (.var 17) (.int 0))
 (.ite (.eq (.len (.var 13)) (.int 12))
 (.need (.lt (.int 10) (.len (.var 13)))
 (.ite (.eq (.cell (.var 13) (.int 10) 0) (.int 8))
 (.ite (.eq (.len (.var 14)) (.int 2))
 (.need (.lt (.int 0) (.len (.var 14)))
 (.ite (.eq (.cell (.var 14) (.int 0) 9) (.int 0))
 (.ite (.eq (.cell (.var 14) (.int 0) 0) (.int 0))
 (.need (.lt (.int 1) (.len (.var 14)))
 (.ite (.eq (.cell (.var 14) (.int 1) 9) (.int 5))
 (.ite (.eq (.cell (.var 14) (.int 1) 8) (.int 9))
 (.ite (.eq (.len (.var 16)) (.int 1))
 (.ret [.eq (.var 11) (.int 1)])
 (.ret [.bool false]))
 (.ret [.bool false]))
 (.ret [.bool false])))
 (.ret [.bool false]))
 (.ret [.bool false])))
 (.ret [.bool false]))
 (.ret [.bool false])))
 (.ret [.bool false]))
 (.ret [.bool false]))
 (.ret [.bool false]))
 (.ret [.bool false]))))))
theorem run79 : run z79 6000 [.code (Try.f79.body.getD .skip),.fin (br z79 Try.f79.results.toList 50)] { fn:=79,tmps:=z79.sig.aL ++ List.replicate (Try.f79.ntmps - z79.sig.aL.length) (.v (.one .undef)),stk:=[],h:=z79.sig.h0,nx:=z79.sig.ins.length,known:=[]}=t79:=by kernel_rfl
theorem ok79 : cA Try.prog 79 d79.ct:=by
 refine aB (d:=d79) (Z:=z79) (Γ:=gam l79) (fn:=Try.f79) (c:=Try.f79.body.getD .skip) (bc tok mixed (all_cons ok78 (all_cons ok80 (all_cons ok134 all_nil))) bd) Try.func79 (by kernel_rfl) (by kernel_rfl) rfl run79 fun E hk hp=>?_
 clear hk
 have el : aH E d79.sig.ins.length=[]:=rfl
 rw [el] at hp
 rw [el]
 rw [Env.bE el]
 clear el
 simp only [d79]
 unfold t79
 refine ai d78 (pN.1.cds ++ [.i pN.2]) rfl trivial (by simp only [nrm,xdn,reduceIte,Nat.reduceLT,Nat.reduceSub,Nat.reduceAdd,d78];rfl) ?_
 refine ag (by simp only [nrm,xdn,reduceIte,Nat.reduceLT,Nat.reduceSub,Nat.reduceAdd,Wrd.cds,Mem.cds,lca];exact aI _) (ai d80 (pR.1.w.gi ++ [ae pR.1.said,fw pR.1.past,.i pR.2]) rfl trivial ?_ ?_)
 ·simp only [nrm,xdn,reduceIte,Nat.reduceLT,Nat.reduceSub,Nat.reduceAdd,Wrd.cds,Mem.cds,lca,bW,CD.row,List.headD_cons,CD.ay]
  show d80.fn [aq pN.1.m.slots,ae pN.1.m.heads,ae pN.1.m.free,ae pN.1.m.af,.i pN.1.m.now,aX pN.1.ts,dw qL]=_
  simp only [d80,dm,List.getD_cons_zero,List.getD_cons_succ,kv]
  rfl
 obtain ⟨k1,k2,k3,k4,k5,k6,k7,k8⟩:=pR_ok
 obtain ⟨j1,j2⟩:=pF_ok
 refine ai d134 [eZ pF.1,.i pF.2] rfl trivial ?_ ?_
 ·simp only [nrm,xdn,reduceIte,Nat.reduceLT,Nat.reduceSub,Nat.reduceAdd,Wrd.cds,Wrd.gi,Mem.cds,lca,d134,dm]
  rfl
 have n0:=pN_ok
 have q0 : ((fw pR.1.past).rows.getD 0 []).getD 9 .u=.i (pR.1.past.getD 0 default).e:=by rw [zq 9 (by omega)];rfl
 have q1 : ((fw pR.1.past).rows.getD 0 []).getD 0 .u=.i (pR.1.past.getD 0 default).task:=by rw [zq 0 (by omega)];rfl
 have q2 : ((fw pR.1.past).rows.getD 1 []).getD 9 .u=.i (pR.1.past.getD 1 default).e:=by rw [zq 9 (by omega)];rfl
 have q3 : ((fw pR.1.past).rows.getD 1 []).getD 8 .u=.i (pR.1.past.getD 1 default).to:=by rw [zq 8 (by omega)];rfl
 have sl : ((ae pR.1.said).rows.getD 10 []).getD 0 .u=.i 8:=by rw [k2];rfl
 have sn : pR.1.said.length=12:=by rw [k2];rfl
 generalize pN=N at *
 generalize pR=R at *
 generalize pF=F at *
 have t1 : (1 : Int).toNat=1:=rfl
 have t10 : (10 : Int).toNat=10:=rfl
 repeat' first
  | refine z6 (by simp only [nrm,xdn,reduceIte,Nat.reduceLT,Nat.reduceSub,Nat.reduceAdd,Wrd.cds,Wrd.gi,Mem.cds,lca,av,pQ,jR,Int.toNat_zero,t1,t10,q0,q1,q2,q3,sl,sn,n0,k1,k3,k4,k5,k6,k7,k8,j1,j2] <;> rfl) ?_
  | refine ag (by simp only [nrm,xdn,reduceIte,Nat.reduceLT,Nat.reduceSub,Nat.reduceAdd,Wrd.cds,Wrd.gi,Mem.cds,lca,av,pQ,jR,sn,k3] <;> omega) ?_
 refine aj ?_
 simp only [nrm,xdn,reduceIte,Nat.reduceLT,Nat.reduceSub,Nat.reduceAdd,Wrd.cds,Wrd.gi,Mem.cds,lca,k8] <;> rfl
end Go.Proofs.Ytpmamacjepcdmaa
