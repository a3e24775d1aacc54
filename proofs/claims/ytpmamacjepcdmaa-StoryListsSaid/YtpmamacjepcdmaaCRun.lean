import Derived.Test.YtpmamacjepcdmaaCWorld4
import Derived.Test.YtpmamacjepcdmaaCTouch
import Derived.Test.YtpmamacjepcdmaaCChain2
namespace Go.Proofs.Ytpmamacjepcdmaa
open Go Go.Sy Go.RowKit
set_option linter.unusedSimpArgs false
set_option linter.unusedVariables false
structure kc (n : Nat) (w : Wrd) : Prop where
 m : aY w.m
 t : ∀ t∈w.ts,t.own=true∧t.held.length≤n∧(t.busy=true→bN w.m t.f)
theorem kc.in {n : Nat} {w : Wrd} (h : kc n w) (hn : n≤10000) : WIn w:=⟨h.m,fun t ht=>⟨(h.t t ht).1,by have:=(h.t t ht).2.1;omega,(h.t t ht).2.2⟩⟩
theorem kc.mono {n k : Nat} {w : Wrd} (h : kc n w) (hn : n≤k) : kc k w:=⟨h.m,fun t ht=>⟨(h.t t ht).1,by have:=(h.t t ht).2.1;omega,(h.t t ht).2.2⟩⟩
theorem Dz {w : Wrd} (h : bz w=0) : kc 100 w.aS:=by
 unfold bz at h
 split at h
 ·rename_i h1;exact absurd h h1
 ·rename_i h1
  split at h
  ·cases h
  ·refine ⟨((dv w.m).1 (Classical.not_not.1 h1)).lu,fun t ht=>?_⟩
   obtain ⟨u,hu,rfl⟩:=List.mem_map.1 ht
   obtain ⟨k1,_,k2⟩:=rQ (lE h u hu)
   exact ⟨rfl,k1,k2⟩
theorem bN.len {m x : Mem} {f : Frm} (h : bN m f) (h1 : x.slots.length=m.slots.length) (h2 : x.heads.length=m.heads.length) : bN x f :=
 h.with h1 h2 rfl h.nd ⟨h.pc0,h.pc9⟩ ⟨h.n0,h.n9⟩ ⟨h.cur0,h.cur1⟩ ⟨h.prev0,h.prev1⟩ ⟨h.slot0,h.slot1⟩ h.keys
theorem zH {g : Tsk→Tsk} {u : Tsk} : ∀ {l : List Tsk} {i : Nat},u∈l.modify i g→u∈l∨(i < l.length∧u=g (l.getD i default))
 | [],i,h=>by simp at h
 | a :: l,0,h=>by
  rcases List.mem_cons.1 (by simpa using h : u∈g a :: l) with e | h
  ·exact .inr ⟨by simp,e⟩
  ·exact .inl (List.mem_cons_of_mem _ h)
 | a :: l,i + 1,h=>by
  rcases List.mem_cons.1 (by simpa using h : u∈a :: l.modify i g) with e | h
  ·exact .inl (by rw [e];exact List.mem_cons_self)
  ·rcases zH h with h | ⟨h1,h2⟩
   ·exact .inl (List.mem_cons_of_mem _ h)
   ·exact .inr ⟨by simpa using h1,by simpa using h2⟩
theorem Aa {n : Nat} {w : Wrd} (h : kc n w) (x : Int) {m' : Mem} (hm : aY m') (l1 : m'.slots.length=w.m.slots.length) (l2 : m'.heads.length=w.m.heads.length) {g : Tsk→Tsk}
  (hg : tsk w x∈w.ts→(g (tsk w x)).own=true∧(g (tsk w x)).held.length≤n + 1∧((g (tsk w x)).busy=true→bN m' (g (tsk w x)).f)) : kc (n + 1) ⟨m',w.ts.modify x.toNat g⟩ :=
 ⟨hm,fun u hu=>by
  rcases zH hu with hu | ⟨hl,rfl⟩
  ·obtain ⟨k1,k2,k3⟩:=h.t u hu
   exact ⟨k1,by omega,fun hb=>(k3 hb).len l1 l2⟩
  ·exact hg (eQ hl)⟩
theorem pa {n : Nat} {w : Wrd} (h : kc n w) (x : Int) {r : Frm × Mem} (hm : aY r.2) (l1 : r.2.slots.length=w.m.slots.length) (l2 : r.2.heads.length=w.m.heads.length) (hf : r.1.done=false→bN r.2 r.1) : kc (n + 1) (w.gone x r) :=
 Aa h x hm l1 l2 fun ht=>⟨(h.t _ ht).1,by have:=(h.t _ ht).2.1;exact Nat.le_succ_of_le this,fun hb=>hf (by simpa using hb)⟩
theorem Cb {m : Mem} {c : Cal} (hc : aV m c=0) : bN m (ck c) :=
 ⟨hc,(by decide : (0 : Int)≤0),(by decide : (0 : Int)≤9),(by decide : (0 : Int)≤0),(by decide : (0 : Int)≤1000000),rfl,by show -(m.heads.length : Int)≤0;omega,by show (0 : Int)≤_;omega,(by decide : (0 : Int)≤0),by show (0 : Int)≤_;omega,(by decide : (-1 : Int)≤-1),by show (-1 : Int) < _;omega,by show 0≤100;omega⟩
theorem C4 {n : Nat} {w : Wrd} (h : kc n w) (x : Int) (c : Cal) : kc (n + 1) (gp w x c).1:=by
 unfold gp
 split
 ·exact h.mono (by omega)
 ·split
  ·exact h.mono (by omega)
  ·rename_i hc
   split
   ·exact h.mono (by omega)
   ·split
    ·exact h.mono (by omega)
    ·have hc : aV w.m c=0:=Classical.not_not.1 hc
     refine Aa h x h.m rfl rfl fun ht=>⟨(h.t _ ht).1,by have:=(h.t _ ht).2.1;exact Nat.le_succ_of_le this,fun _=>?_⟩
     exact Cb hc
theorem DD {n : Nat} {w : Wrd} (h : kc n w) {x : Int} (hx : tsk w x∈w.ts) : kc (n + 1) (cG w x).1:=by
 unfold cG
 split
 ·exact h.mono (by omega)
 rename_i hb
 obtain ⟨k1,k2,k3⟩:=h.t _ hx
 have hf:=k3 (by simpa using hb)
 have hm:=h.m
 split
 ·rename_i hk
  have ht:=(lU (m:=w.m) (f:=(tsk w x).f)).1
  split
  ·rename_i hd
   refine Aa h x (nk hm hf) ht.len ht.hl fun _=>⟨k1,by simp only [List.length_append,List.length_cons,List.length_nil];omega,fun hb=>?_⟩
   rw [hd.1] at hb;cases hb
  ·exact pa h x (nk hm hf) ht.len ht.hl fun hd=>(qD hm hf hk).ok hf ht hd
 split
 ·rename_i _ hk
  have ht:=gP x hm hf hk
  exact pa h x (vF x hm hf hk) ht.len ht.hl fun hd=>(tx x hm hf hk).ok hf ht hd
 split
 ·rename_i _ _ hk
  have ht:=gj x hm hf hk
  exact pa h x (tJ x hm hf) ht.len ht.hl fun hd=>(qQ x hm hf hk).ok hf ht hd
 split
 ·rename_i _ _ _ hk
  have ht:=fj x hm hf hk
  exact pa h x (rT x hm hf) ht.len ht.hl fun hd=>(oF x hm hf hk).ok hf ht hd
 rename_i q1 q2 q3 q4
 split
 ·have h6 : (tsk w x).f.c.kind=6∧0≤(tsk w x).f.c.slot∧(tsk w x).f.c.slot < w.m.slots.length:=by
   have:=hf.call
   unfold aV at this
   rw [if_neg (by omega),if_neg (by omega),if_neg (by omega)] at this
   split at this
   ·split at this
    ·cases this
    ·exact ⟨by assumption,by omega,by omega⟩
   ·cases this
  obtain ⟨l1,l2,_⟩:=oK w.m (tsk w x).f.c.slot
  refine Aa h x (hm.put h6.2.1 h6.2.2) l1 (by rw [l2]) fun _=>⟨k1,?_,fun hb=>?_⟩
  ·simp only [List.length_append,List.length_take,List.length_drop]
   omega
  ·cases hb
 ·exact pa h x hm rfl rfl fun hd=>by cases hd
theorem aY.tick {m : Mem} (hm : aY m) {n : Int} (h0 : 0≤n) (h1 : n≤1000000) : aY { m with now:=n} :=
 ⟨⟨hm.fx.ns,hm.fx.nh1,hm.fx.nh4,hm.fx.nl,h0,h1,hm.fx.slot,hm.fx.head,hm.fx.free,hm.fx.nodup,hm.fx.leak⟩,hm.nl,hm.hd⟩
theorem DG {n : Nat} {w : Wrd} (h : kc n w) (x : Pik) : kc (n + 1) (b7 w x).1:=by
 unfold b7
 split
 ·split
  ·exact h.mono (by omega)
  ·have h0:=h.m.oR
   have h1:=h.m.oQ
   refine ⟨h.m.tick (by omega) (by omega),fun t ht=>?_⟩
   obtain ⟨k1,k2,k3⟩:=h.t t ht
   exact ⟨k1,by omega,fun hb=>(k3 hb).len rfl rfl⟩
 ·split
  ·exact h.mono (by omega)
  ·rename_i hx
   split
   ·exact DD h (eQ (by omega))
   ·exact C4 h _ _
end Go.Proofs.Ytpmamacjepcdmaa

namespace Go.Proofs.Ytpmamacjepcdmaa
open Go Go.Sy Go.RowKit
set_option linter.unusedSimpArgs false
set_option linter.unusedVariables false
deriving instance DecidableEq for Tsk
end Go.Proofs.Ytpmamacjepcdmaa

namespace Go.Proofs.Ytpmamacjepcdmaa
open Go Go.Sy Go.RowKit
set_option linter.unusedSimpArgs false
set_option linter.unusedVariables false
structure Pst where
 task : Int
 c : Cal
 fr : Int
 to : Int
 e : Int
 slot : Int
 n : Int
 keys : List Key
 deriving DecidableEq
instance : Inhabited Pik:=⟨⟨0,false,false,⟨0,⟨0,0⟩,0,0,0⟩⟩⟩
def Pik.row (x : Pik) : List CD:=[.i x.task,.b x.step,.b x.tick,.i x.c.kind,.i x.c.k.a,.i x.c.k.b,.i x.c.time,.i x.c.bucket,.i x.c.slot]
def Pst.row (p : Pst) : List CD:=[.i p.task,.i p.c.kind,.i p.c.k.a,.i p.c.k.b,.i p.c.time,.i p.c.bucket,.i p.c.slot,.i p.fr,.i p.to,.i p.e,.i p.slot,.i p.n,bK p.keys]
def dw (l : List Pik) : CD:=.l (l.map Pik.row)
def fw (l : List Pst) : CD:=.l (l.map Pst.row)
def _root_.Go.Sy.CD.tX (d : CD) : List Pik:=d.rows.map Pik.of
theorem kv (l : List Pik) : (dw l).tX=l:=by
 simp only [dw,CD.tX,CD.ay,List.map_map]
 rw [show (Pik.of ∘ Pik.row)=id from rfl,List.map_id]
theorem gC (l : List Pik) : (dw l).rows.length=l.length:=by simp [dw]
theorem pQ (l : List Pst) : (fw l).rows.length=l.length:=by simp [fw]
theorem Ej {b : Nat} {d : CD} (h : CD.ok (.sl b kQ.kd) d) : ∃ l,d=dw l∧l.length * b≤140737488355328:=by
 obtain ⟨⟨rows,rfl,h1,h2⟩,_⟩:=h
 obtain ⟨l,rfl⟩:=mJ (f:=Pik.row) (fun row hr=>by
  obtain ⟨d0,row,rfl,g0,hr⟩:=cd hr
  obtain ⟨d1,row,rfl,g1,hr⟩:=cd hr
  obtain ⟨d2,row,rfl,g2,hr⟩:=cd hr
  obtain ⟨d3,row,rfl,g3,hr⟩:=cd hr
  obtain ⟨d4,row,rfl,g4,hr⟩:=cd hr
  obtain ⟨d5,row,rfl,g5,hr⟩:=cd hr
  obtain ⟨d6,row,rfl,g6,hr⟩:=cd hr
  obtain ⟨d7,row,rfl,g7,hr⟩:=cd hr
  obtain ⟨d8,row,rfl,g8,hr⟩:=cd hr
  have hr:=B8 hr
  subst hr
  obtain ⟨x,rfl,rfl,rfl,rfl,rfl,rfl,rfl,rfl,rfl⟩:=uZ (d0:=d0) (d1:=d1) (d2:=d2) g0 g1 g2 g3 g4 g5 g6 g7 g8
  exact ⟨x,rfl⟩) h2
 exact ⟨l,rfl,by simpa using h1⟩
theorem Ax (t : Tsk) : t.hU.modify 15 CD.shut=t.row:=by
 show t.rw (t.hd.shut)=_
 unfold Tsk.hd
 split <;> rfl
theorem bW (l : List Tsk) : CD.l ((ax l).rows.map fun r=>r.modify 15 CD.shut)=aX l:=by
 simp only [ax,aX,CD.ay,List.map_map]
 exact congrArg CD.l (List.map_congr_left fun t _=>Ax t)
structure pv where
 w : Wrd
 said : List Int
 past : List Pst
 began : List Int
def si (w : Wrd) (x : Int) (fr to : Int) : Pst:=⟨x,(tsk w x).f.c,fr,to,(tsk w x).f.e,(tsk w x).f.slot,(tsk w x).f.n,(tsk w x).f.keys⟩
def fT (i : Nat) (x : Pik) (s : pv) : pv :=
 if (b7 s.w.aS x).2≠0 then { s with said:=s.said ++ [(b7 s.w.aS x).2]}
 else if x.tick=true then ⟨(b7 s.w.aS x).1,s.said ++ [(b7 s.w.aS x).2],s.past,s.began⟩
 else if x.step=false then ⟨(b7 s.w.aS x).1,s.said ++ [(b7 s.w.aS x).2],s.past,s.began.set x.task.toNat i⟩
 else if (tsk (b7 s.w.aS x).1 x.task).busy=false then ⟨(b7 s.w.aS x).1,s.said ++ [(b7 s.w.aS x).2],s.past ++ [si (b7 s.w.aS x).1 x.task (s.began.getD x.task.toNat 0) i],s.began⟩
 else ⟨(b7 s.w.aS x).1,s.said ++ [(b7 s.w.aS x).2],s.past,s.began⟩
def rh : List Pik→Nat→pv→pv
 | [],_,s=>s
 | x :: l,i,s=>rh l (i + 1) (fT i x s)
def r9 (w : Wrd) (l : List Pik) : pv × Int :=
 if bz w≠0 then (⟨Wrd.none,[],[],[]⟩,bz w)
 else if 300 < l.length then (⟨Wrd.none,[],[],[]⟩,2)
 else (rh l 0 ⟨w.aS,[],[],List.replicate w.ts.length 0⟩,0)
def Wrd.gi (w : Wrd) : List CD:=w.m.cds ++ [aX w.ts]
theorem sf (w : Wrd) (x : Pik) : (b7 w x).1.ts.length=w.ts.length:=by
 unfold b7
 split
 ·split <;> rfl
 ·split
  ·rfl
  ·split
   ·unfold cG
    repeat' split
    all_goals first
     | rfl
     | simp [Wrd.gone]
   ·unfold gp
    repeat' split
    all_goals first
     | rfl
     | simp [Wrd.at]
theorem AH {w : Wrd} {x : Pik} (h : (b7 w x).2=0) (ht : x.tick=false) : 0≤x.task∧x.task < w.ts.length:=by
 unfold b7 at h
 rw [if_neg (by rw [ht];exact Bool.false_ne_true)] at h
 split at h
 ·cases h
 ·omega
theorem kc.aS {n : Nat} {w : Wrd} (h : kc n w) : kc n w.aS :=
 ⟨h.m,fun t ht=>by
  obtain ⟨u,hu,rfl⟩:=List.mem_map.1 ht
  obtain ⟨k1,k2,k3⟩:=h.t u hu
  exact ⟨rfl,k2,k3⟩⟩
theorem jP (w : Wrd) : w.aS.ts.length=w.ts.length:=by simp [Wrd.aS]
theorem zX (m : Mem) (ts : List Tsk) : (Wrd.aS (Wrd.of [aq m.slots,ae m.heads,ae m.free,ae m.af,.i m.now,aX ts]))=(Wrd.aS ⟨m,ts⟩):=by
 rw [ji,fN]
 simp only [Wrd.aS,List.map_map]
 rfl
def s80 : Sig:=⟨[.agg [.fz kS,.fz kI,.fz kI,.fz kI,.int .i64,.fz kT],.one (.fz kQ)],[.agg [.fz kS,.fz kI,.fz kI,.fz kI,.int .i64,.fz kT],.one (.own 22 kI),.one (.fz kP),.one (.int .i64)]⟩
def d80 : DC:=⟨s80,fun _=>True,fun l=>(r9 (Wrd.of l) (l.getD 6 .u).tX).1.w.gi ++ [ae (r9 (Wrd.of l) (l.getD 6 .u).tX).1.said,fw (r9 (Wrd.of l) (l.getD 6 .u).tX).1.past,.i (r9 (Wrd.of l) (l.getD 6 .u).tX).2]⟩
structure RInv (l : List Pik) (s0 : pv) (i : Nat) (s : pv) : Prop where
 le : i≤l.length
 eq : rh l 0 s0=rh (l.drop i) i s
 w : kc (100 + i) s.w.aS
 said : s.said.length=i
 past : s.past.length≤i
 began : s.began.length=s.w.ts.length
theorem vZ {l : List Pik} {s0 : pv} {i : Nat} {s : pv} (h : RInv l s0 i s) (hi : i < l.length) : RInv l s0 (i + 1) (fT i (l.getD i default) s):=by
 obtain ⟨h1,h2,h3,h4,h5,h6⟩:=h
 rw [dj hi] at h2
 have hp:=(DG h3 (l.getD i default)).aS
 have hl:=sf s.w.aS (l.getD i default)
 rw [jP] at hl
 refine ⟨hi,h2,?_,?_,?_,?_⟩
 ·unfold fT
  repeat' split
  all_goals first
   | exact h3.mono (by omega)
   | exact hp
 ·unfold fT
  repeat' split
  all_goals simp [h4]
 ·unfold fT
  repeat' split
  all_goals first
   | (simp only [List.length_append,List.length_cons,List.length_nil];omega)
   | (show s.past.length≤_;omega)
 ·unfold fT
  repeat' split
  all_goals first
   | exact h6
   | (simp only [List.length_set];omega)
   | (show s.began.length=_;omega)
def l80 : List (Nat × Ct):=[(157,d157.ct),(170,d170.ct),(171,d171.ct),(172,d172.ct)]
def z80 : Cx:={ T:=ttA,C:=sigs l80,F:=[],hints:=[⟨80,9,false,[(33,.lt),(5,.own 22 kI),(6,.own 93 kP),(9,.own 3 kI)],[(0,0,.fz kS),(0,1,.fz kI),(0,2,.fz kI),(0,3,.fz kI),(0,4,.lt),(0,5,.fz kT)],[],[],0⟩],sig:=s80}
def t80 : Tree :=
 (.call 157 [.var 0,.var 1,.var 2,.var 3,.var 4,.var 5] 7
 (.ite (.not (.eq (.var 7) (.int 0)))
 (.ret [.nil,.nil,.nil,.nil,.int 0,.nil,.nil,.nil,.var 7])
 (.ite (.lt (.int 300) (.len (.var 6)))
 (.ret [.nil,.nil,.nil,.nil,.int 0,.nil,.nil,.nil,.int 2])
 (.call 170 [.var 0,.var 1,.var 2,.var 3,.var 4,.var 5] 8
 (.need (.le (.len (.var 13)) (.int 17592186044416))
 (.need (.clean (.var 13) 15)
 (.loop 14 [.sl 8 [.int .i64],.sl 120 [.int .i64,.int .i64,.int .i64,.int .i64,.int .i64,.int .i64,.int .i64,.int .i64,.int .i64,.int .i64,.int .i64,.int .i64,.sl 16 [.int .i64,.int .i64]],.sl 8 [.int .i64],.int .i64,.sl 48 [.int .i64,.int .i64,.int .i64,.int .i64,.bool,.int .i64],.sl 8 [.int .i64],.sl 8 [.int .i64],.sl 8 [.int .i64],.int .i64,.sl 160 [.bool,.int .i64,.int .i64,.int .i64,.int .i64,.int .i64,.int .i64,.int .i64,.int .i64,.int .i64,.int .i64,.int .i64,.sl 16 [.int .i64,.int .i64],.bool,.int .i64,.sl 8 [.int .i64]]] [.nil,.nil,.rep (.len (.var 13)) (.cons (.int 0) .row0),.int 0,.var 8,.var 9,.var 10,.var 11,.var 12,.shuts (.var 13) 15]
 (.ite (.lt (.var 18) (.len (.var 6)))
 (.need (.le (.int 0) (.var 18))
 (.call 170 [.var 19,.var 20,.var 21,.var 22,.var 23,.var 24] 25
 (.need (.clean (.var 30) 15)
 (.call 171 [.var 25,.var 26,.var 27,.var 28,.var 29,.var 30,.cell (.var 6) (.var 18) 0,.cell (.var 6) (.var 18) 1,.cell (.var 6) (.var 18) 2,.cell (.var 6) (.var 18) 3,.cell (.var 6) (.var 18) 4,.cell (.var 6) (.var 18) 5,.cell (.var 6) (.var 18) 6,.cell (.var 6) (.var 18) 7,.cell (.var 6) (.var 18) 8] 31
 (.need (.le (.add (.len (.var 15)) (.int 1)) (.int 17592186044416))
 (.ite (.not (.eq (.var 37) (.int 0)))
 (.need (.fit (.add (.var 18) (.int 1)))
 (.need (.clean (.var 36) 15)
 (.back 14 [.app (.var 15) (.cons (.var 37) .row0),.var 16,.var 17,.add (.var 18) (.int 1),.var 19,.var 20,.var 21,.var 22,.var 23,.var 24])))
 (.ite (.cell (.var 6) (.var 18) 2)
 (.need (.fit (.add (.var 18) (.int 1)))
 (.need (.clean (.var 36) 15)
 (.back 14 [.app (.var 15) (.cons (.var 37) .row0),.var 16,.var 17,.add (.var 18) (.int 1),.var 31,.var 32,.var 33,.var 34,.var 35,.shuts (.var 36) 15])))
 (.ite (.not (.cell (.var 6) (.var 18) 1))
 (.need (.le (.int 0) (.cell (.var 6) (.var 18) 0))
 (.need (.lt (.cell (.var 6) (.var 18) 0) (.len (.var 17)))
 (.need (.fit (.add (.var 18) (.int 1)))
 (.need (.clean (.var 36) 15)
 (.back 14 [.app (.var 15) (.cons (.var 37) .row0),.var 16,.set (.var 17) (.cell (.var 6) (.var 18) 0) 0 (.var 18),.add (.var 18) (.int 1),.var 31,.var 32,.var 33,.var 34,.var 35,.shuts (.var 36) 15])))))
 (.need (.le (.int 0) (.cell (.var 6) (.var 18) 0))
 (.need (.lt (.cell (.var 6) (.var 18) 0) (.len (.var 36)))
 (.ite (.not (.cell (.var 36) (.cell (.var 6) (.var 18) 0) 0))
 (.need (.lt (.cell (.var 6) (.var 18) 0) (.len (.var 17)))
 (.call 172 [.cell (.var 36) (.cell (.var 6) (.var 18) 0) 12] 38
 (.need (.le (.add (.len (.var 16)) (.int 1)) (.int 1172812402961))
 (.need (.fit (.add (.var 18) (.int 1)))
 (.need (.clean (.var 36) 15)
 (.back 14 [.app (.var 15) (.cons (.var 37) .row0),.app (.var 16) (.cons (.cell (.var 6) (.var 18) 0) (.cons (.cell (.var 36) (.cell (.var 6) (.var 18) 0) 1) (.cons (.cell (.var 36) (.cell (.var 6) (.var 18) 0) 2) (.cons (.cell (.var 36) (.cell (.var 6) (.var 18) 0) 3) (.cons (.cell (.var 36) (.cell (.var 6) (.var 18) 0) 4) (.cons (.cell (.var 36) (.cell (.var 6) (.var 18) 0) 5) (.cons (.cell (.var 36) (.cell (.var 6) (.var 18) 0) 6) (.cons (.cell (.var 17) (.cell (.var 6) (.var 18) 0) 0) (.cons (.var 18) (.cons (.cell (.var 36) (.cell (.var 6) (.var 18) 0) 14) (.cons (.cell (.var 36) (.cell (.var 6) (.var 18) 0) 10) (.cons (.cell (.var 36) (.cell (.var 6) (.var 18) 0) 11) (.cons (.var 38) .row0))))))))))))),.var 17,.add (.var 18) (.int 1),.var 31,.var 32,.var 33,.var 34,.var 35,.shuts (.var 36) 15]))))))
 (.need (.fit (.add (.var 18) (.int 1)))
 (.need (.clean (.var 36) 15)
 (.back 14 [.app (.var 15) (.cons (.var 37) .row0),.var 16,.var 17,.add (.var 18) (.int 1),.var 31,.var 32,.var 33,.var 34,.var 35,.shuts (.var 36) 15]))))))))))))))
 (.ret [.var 19,.var 20,.var 21,.var 22,.var 23,.var 24,.var 15,.var 16,.int 0])))))))))
theorem run80 : run z80 6000 [.code (Try.f80.body.getD .skip),.fin (br z80 Try.f80.results.toList 50)] { fn:=80,tmps:=z80.sig.aL ++ List.replicate (Try.f80.ntmps - z80.sig.aL.length) (.v (.one .undef)),stk:=[],h:=z80.sig.h0,nx:=z80.sig.ins.length,known:=[]}=t80:=by kernel_rfl
set_option maxHeartbeats 4000000 in
theorem ok80 : cA Try.prog 80 d80.ct:=by
 refine aB (d:=d80) (Z:=z80) (Γ:=gam l80) (fn:=Try.f80) (c:=Try.f80.body.getD .skip) (bc tok mixed (all_cons ok157 (all_cons ok170 (all_cons ok171 (all_cons ok172 all_nil)))) bd) Try.func80 (by kernel_rfl) (by kernel_rfl) rfl run80 fun E hk hp=>?_
 obtain ⟨hk0,hk1,hk2,hk3,hk4,hk5,hk6,_⟩:=hk
 obtain ⟨m,e0,e1,e2,e3,e4,b0,b1,b2,b3⟩:=cr (d0:=E 0) (d1:=E 1) (d2:=E 2) (d3:=E 3) (d4:=E 4) hk0 hk1 hk2 hk3 hk4
 obtain ⟨ts,e5,hts,b5⟩:=gS (d:=E 5) hk5
 have b5 : ts.length * 160≤140737488355328:=b5
 obtain ⟨l,e6,b6⟩:=Ej (d:=E 6) hk6
 have b6 : l.length * 64≤140737488355328:=b6
 have el : aH E d80.sig.ins.length=[aq m.slots,ae m.heads,ae m.free,ae m.af,.i m.now,aX ts,dw l]:=by
  show [E 0,E 1,E 2,E 3,E 4,E 5,E 6]=_
  rw [e0,e1,e2,e3,e4,e5,e6]
 rw [el] at hp
 rw [el]
 rw [Env.bE el]
 clear el e0 e1 e2 e3 e4 e5 e6
 have hown : ∀ t∈ts,t.own=false:=fun t ht=>(hts t ht).1
 simp only [d80,ke _ _ _ _ _ hown,aw,List.getD_cons_zero,List.getD_cons_succ,kv]
 unfold r9
 unfold t80
 refine ai d157 [.i (bz ⟨m,ts⟩)] rfl trivial (by simp only [nrm,xdn,reduceIte,Nat.reduceLT,Nat.reduceSub,Nat.reduceAdd,d157,ke _ _ _ _ _ hown,aw]) (aF (fun h=>aj ?_) (fun h=>?_))
 ·simp only [nrm,xdn,reduceIte,Nat.reduceLT,Nat.reduceSub,Nat.reduceAdd] at h ⊢
  rw [if_pos (by simpa using h)];rfl
 simp only [nrm,xdn,reduceIte,Nat.reduceLT,Nat.reduceSub,Nat.reduceAdd] at h
 have h : bz ⟨m,ts⟩=0:=by simpa using h
 rw [if_neg (fun y=>y h)]
 refine aF (fun h1=>aj ?_) (fun h1=>?_)
 ·simp only [nrm,xdn,reduceIte,Nat.reduceLT,Nat.reduceSub,Nat.reduceAdd,gC] at h1 ⊢
  rw [if_pos (by omega)];rfl
 simp only [nrm,xdn,reduceIte,Nat.reduceLT,Nat.reduceSub,Nat.reduceAdd,gC] at h1
 rw [if_neg (by omega)]
 have hw:=Dz h
 refine ai d170 (Wrd.aS ⟨m,ts⟩).cds rfl trivial (by simp only [nrm,xdn,reduceIte,Nat.reduceLT,Nat.reduceSub,Nat.reduceAdd,d170,zX]) ?_
 obtain ⟨s0,hs0⟩ : ∃ s0 : pv,(⟨Wrd.aS ⟨m,ts⟩,[],[],List.replicate ts.length 0⟩ : pv)=s0:=⟨_,rfl⟩
 have hlen : (Wrd.aS ⟨m,ts⟩).ts.length=ts.length:=jP _
 show Tree.den _ (fun outs=>outs=(rh l 0 ⟨Wrd.aS ⟨m,ts⟩,[],[],List.replicate ts.length 0⟩).w.gi ++ [ae (rh l 0 ⟨Wrd.aS ⟨m,ts⟩,[],[],List.replicate ts.length 0⟩).said,fw (rh l 0 ⟨Wrd.aS ⟨m,ts⟩,[],[],List.replicate ts.length 0⟩).past,.i 0]) _ _ _
 rw [hs0]
 have hz : ∀ n : Nat,CD.l (List.replicate n [CD.i 0])=ae (List.replicate n 0):=fun n=>by simp [ae]
 refine ag (by simp only [nrm,xdn,reduceIte,Nat.reduceLT,Nat.reduceSub,Nat.reduceAdd,Wrd.cds,Mem.cds,lca,jb,hlen];omega) (ag (by simp only [nrm,xdn,reduceIte,Nat.reduceLT,Nat.reduceSub,Nat.reduceAdd,Wrd.cds,Mem.cds,lca];exact aI _)
  (bY (fun ds=>∃ (i : Nat) (s : pv),ds=[ae s.said,fw s.past,ae s.began,.i i,aq s.w.m.slots,ae s.w.m.heads,ae s.w.m.free,ae s.w.m.af,.i s.w.m.now,aX s.w.ts]∧RInv l s0 i s) (fun ds=>l.length - (ds.getD 3 .u).int.toNat) ⟨0,s0,?_,?_⟩ ?_))
 ·simp only [nrm,xdn,reduceIte,Nat.reduceLT,Nat.reduceSub,Nat.reduceAdd,Wrd.cds,Mem.cds,lca,jb,hlen,bW,CD.row,List.headD_cons,Int.toNat_natCast,hz]
  rw [← hs0];rfl
 ·subst hs0
  exact ⟨Nat.zero_le _,rfl,hw.aS.mono (by omega),rfl,Nat.le_refl _,by simp [hlen]⟩
 rintro ds - ⟨i,s,rfl,hI⟩
 obtain ⟨I1,I2,I3,I4,I5,I6⟩:=id hI
 refine aF (fun hlt=>?_) (fun hge=>aj ?_)
 ·simp only [nrm,xdn,reduceIte,Nat.reduceLT,Nat.reduceSub,Nat.reduceAdd,gC] at hlt
  obtain ⟨x,hx⟩ : ∃ x,l.getD i default=x:=⟨_,rfl⟩
  have hcell : ∀ o,((dw l).rows.getD i []).getD o .u=x.row.getD o .u:=fun o=>by rw [← hx];exact fk Pik.row l i o (by omega)
  have c0 : ((dw l).rows.getD i []).getD 0 .u=.i x.task:=hcell 0
  have c1 : ((dw l).rows.getD i []).getD 1 .u=.b x.step:=hcell 1
  have c2 : ((dw l).rows.getD i []).getD 2 .u=.b x.tick:=hcell 2
  have c3 : ((dw l).rows.getD i []).getD 3 .u=.i x.c.kind:=hcell 3
  have c4 : ((dw l).rows.getD i []).getD 4 .u=.i x.c.k.a:=hcell 4
  have c5 : ((dw l).rows.getD i []).getD 5 .u=.i x.c.k.b:=hcell 5
  have c6 : ((dw l).rows.getD i []).getD 6 .u=.i x.c.time:=hcell 6
  have c7 : ((dw l).rows.getD i []).getD 7 .u=.i x.c.bucket:=hcell 7
  have c8 : ((dw l).rows.getD i []).getD 8 .u=.i x.c.slot:=hcell 8
  have hv:=vZ hI (show i < l.length by omega)
  rw [hx] at hv
  have hsw : (⟨s.w.m,s.w.ts⟩ : Wrd)=s.w:=rfl
  refine ag (by simp only [nrm,xdn,reduceIte,Nat.reduceLT,Nat.reduceSub,Nat.reduceAdd];omega) (ai d170 s.w.aS.cds rfl trivial (by simp only [nrm,xdn,reduceIte,Nat.reduceLT,Nat.reduceSub,Nat.reduceAdd,d170,zX,hsw]) ?_)
  have hpl:=sf s.w.aS x
  rw [jP] at hpl
  have hpt:=AH (w:=s.w.aS) (x:=x)
  rw [jP] at hpt
  obtain ⟨q,hq⟩ : ∃ q,b7 s.w.aS x=q:=⟨_,rfl⟩
  have hS : fT i x s=if q.2≠0 then { s with said:=s.said ++ [q.2]} else if x.tick=true then ⟨q.1,s.said ++ [q.2],s.past,s.began⟩ else if x.step=false then ⟨q.1,s.said ++ [q.2],s.past,s.began.set x.task.toNat i⟩ else if (tsk q.1 x.task).busy=false then ⟨q.1,s.said ++ [q.2],s.past ++ [si q.1 x.task (s.began.getD x.task.toNat 0) i],s.began⟩ else ⟨q.1,s.said ++ [q.2],s.past,s.began⟩:=by rw [← hq];rfl
  rw [hq] at hpl hpt
  refine ag (by simp only [nrm,xdn,reduceIte,Nat.reduceLT,Nat.reduceSub,Nat.reduceAdd,Wrd.cds,Mem.cds,lca];exact aI _) (ai d171 (q.1.cds ++ [.i q.2]) rfl ?_ ?_ ?_)
  ·simp only [nrm,xdn,reduceIte,Nat.reduceLT,Nat.reduceSub,Nat.reduceAdd,Wrd.cds,Mem.cds,lca,d171,fN,aw]
   exact I3.in (by omega)
  ·simp only [nrm,xdn,reduceIte,Nat.reduceLT,Nat.reduceSub,Nat.reduceAdd,Int.toNat_natCast,c0,c1,c2,c3,c4,c5,c6,c7,c8,Wrd.cds,Mem.cds,lca,d171,fN,aw,List.drop_succ_cons,List.drop_zero,nL,cx]
   rw [← hq]
  refine ag (by simp only [nrm,xdn,reduceIte,Nat.reduceLT,Nat.reduceSub,Nat.reduceAdd,av];omega) (aF (fun h2=>?_) (fun h2=>?_))
  ·simp only [nrm,xdn,reduceIte,Nat.reduceLT,Nat.reduceSub,Nat.reduceAdd,Wrd.cds,Mem.cds,lca] at h2
   rw [if_pos (by simpa using h2)] at hS
   refine a9 (by simp only [nrm,xdn,reduceIte,Nat.reduceLT,Nat.reduceSub,Nat.reduceAdd];omega) (ag (by simp only [nrm,xdn,reduceIte,Nat.reduceLT,Nat.reduceSub,Nat.reduceAdd,Wrd.cds,Mem.cds,lca];exact aI _) (bU ⟨⟨i + 1,_,?_,hv⟩,?_⟩))
   ·rw [hS]
    simp only [nrm,xdn,reduceIte,Nat.reduceLT,Nat.reduceSub,Nat.reduceAdd,Int.toNat_natCast,c0,c1,c2,c3,c4,c5,c6,c7,c8,Wrd.cds,Mem.cds,lca,CD.row,List.headD_cons,CD.ay,bW,gO,ij]
    rfl
   ·simp only [nrm,xdn,reduceIte,Nat.reduceLT,Nat.reduceSub,Nat.reduceAdd];omega
  simp only [nrm,xdn,reduceIte,Nat.reduceLT,Nat.reduceSub,Nat.reduceAdd,Wrd.cds,Mem.cds,lca] at h2
  have h2 : q.2=0:=by simpa using h2
  rw [if_neg (fun y=>y h2)] at hS
  refine aF (fun h3=>?_) (fun h3=>?_)
  ·simp only [nrm,xdn,reduceIte,Nat.reduceLT,Nat.reduceSub,Nat.reduceAdd,Int.toNat_natCast,c2] at h3
   rw [if_pos h3] at hS
   refine a9 (by simp only [nrm,xdn,reduceIte,Nat.reduceLT,Nat.reduceSub,Nat.reduceAdd];omega) (ag (by simp only [nrm,xdn,reduceIte,Nat.reduceLT,Nat.reduceSub,Nat.reduceAdd,Wrd.cds,Mem.cds,lca];exact aI _) (bU ⟨⟨i + 1,_,?_,hv⟩,?_⟩))
   ·rw [hS]
    simp only [nrm,xdn,reduceIte,Nat.reduceLT,Nat.reduceSub,Nat.reduceAdd,Int.toNat_natCast,c0,c1,c2,c3,c4,c5,c6,c7,c8,Wrd.cds,Mem.cds,lca,CD.row,List.headD_cons,CD.ay,bW,gO,ij]
    rfl
   ·simp only [nrm,xdn,reduceIte,Nat.reduceLT,Nat.reduceSub,Nat.reduceAdd];omega
  simp only [nrm,xdn,reduceIte,Nat.reduceLT,Nat.reduceSub,Nat.reduceAdd,Int.toNat_natCast,c2] at h3
  rw [if_neg (by rw [h3];exact Bool.false_ne_true)] at hS
  have ht:=hpt h2 h3
  refine aF (fun h4=>?_) (fun h4=>?_)
  ·simp only [nrm,xdn,reduceIte,Nat.reduceLT,Nat.reduceSub,Nat.reduceAdd,Int.toNat_natCast,c1,Bool.not_eq_true'] at h4
   rw [if_pos h4] at hS
   refine ag (by simp only [nrm,xdn,reduceIte,Nat.reduceLT,Nat.reduceSub,Nat.reduceAdd,Int.toNat_natCast,c0];omega) (ag (by simp only [nrm,xdn,reduceIte,Nat.reduceLT,Nat.reduceSub,Nat.reduceAdd,Int.toNat_natCast,c0,av];omega) ?_)
   refine a9 (by simp only [nrm,xdn,reduceIte,Nat.reduceLT,Nat.reduceSub,Nat.reduceAdd];omega) (ag (by simp only [nrm,xdn,reduceIte,Nat.reduceLT,Nat.reduceSub,Nat.reduceAdd,Wrd.cds,Mem.cds,lca];exact aI _) (bU ⟨⟨i + 1,_,?_,hv⟩,?_⟩))
   ·rw [hS]
    simp only [nrm,xdn,reduceIte,Nat.reduceLT,Nat.reduceSub,Nat.reduceAdd,Int.toNat_natCast,c0,c1,c2,c3,c4,c5,c6,c7,c8,Wrd.cds,Mem.cds,lca,CD.row,List.headD_cons,CD.ay,bW,gO,ij]
    rfl
   ·simp only [nrm,xdn,reduceIte,Nat.reduceLT,Nat.reduceSub,Nat.reduceAdd];omega
  simp only [nrm,xdn,reduceIte,Nat.reduceLT,Nat.reduceSub,Nat.reduceAdd,Int.toNat_natCast,c1,Bool.not_eq_false'] at h4
  rw [if_neg (by rw [h4];exact fun y=>Bool.noConfusion y)] at hS
  have hlt' : x.task.toNat < q.1.ts.length:=by omega
  obtain ⟨t,htt⟩ : ∃ t,tsk q.1 x.task=t:=⟨_,rfl⟩
  have htt' : q.1.ts.getD x.task.toNat default=t:=htt
  have e0 : ((ax q.1.ts).rows.getD x.task.toNat []).getD 0 .u=.b t.busy:=by rw [cO 0 hlt',htt'];rfl
  have e1 : ((ax q.1.ts).rows.getD x.task.toNat []).getD 1 .u=.i t.f.c.kind:=by rw [cO 1 hlt',htt'];rfl
  have e2 : ((ax q.1.ts).rows.getD x.task.toNat []).getD 2 .u=.i t.f.c.k.a:=by rw [cO 2 hlt',htt'];rfl
  have e3 : ((ax q.1.ts).rows.getD x.task.toNat []).getD 3 .u=.i t.f.c.k.b:=by rw [cO 3 hlt',htt'];rfl
  have e4 : ((ax q.1.ts).rows.getD x.task.toNat []).getD 4 .u=.i t.f.c.time:=by rw [cO 4 hlt',htt'];rfl
  have e5 : ((ax q.1.ts).rows.getD x.task.toNat []).getD 5 .u=.i t.f.c.bucket:=by rw [cO 5 hlt',htt'];rfl
  have e6 : ((ax q.1.ts).rows.getD x.task.toNat []).getD 6 .u=.i t.f.c.slot:=by rw [cO 6 hlt',htt'];rfl
  have e7 : ((ax q.1.ts).rows.getD x.task.toNat []).getD 7 .u=.i t.f.pc:=by rw [cO 7 hlt',htt'];rfl
  have e8 : ((ax q.1.ts).rows.getD x.task.toNat []).getD 8 .u=.i t.f.cur:=by rw [cO 8 hlt',htt'];rfl
  have e9 : ((ax q.1.ts).rows.getD x.task.toNat []).getD 9 .u=.i t.f.prev:=by rw [cO 9 hlt',htt'];rfl
  have e10 : ((ax q.1.ts).rows.getD x.task.toNat []).getD 10 .u=.i t.f.slot:=by rw [cO 10 hlt',htt'];rfl
  have e11 : ((ax q.1.ts).rows.getD x.task.toNat []).getD 11 .u=.i t.f.n:=by rw [cO 11 hlt',htt'];rfl
  have e12 : ((ax q.1.ts).rows.getD x.task.toNat []).getD 12 .u=bK t.f.keys:=by rw [cO 12 hlt',htt'];rfl
  have e13 : ((ax q.1.ts).rows.getD x.task.toNat []).getD 13 .u=.b t.f.done:=by rw [cO 13 hlt',htt'];rfl
  have e14 : ((ax q.1.ts).rows.getD x.task.toNat []).getD 14 .u=.i t.f.e:=by rw [cO 14 hlt',htt'];rfl
  have hb1 : ((ae s.began).rows.getD x.task.toNat []).getD 0 .u=.i (s.began.getD x.task.toNat 0):=iw (by omega)
  refine ag (by simp only [nrm,xdn,reduceIte,Nat.reduceLT,Nat.reduceSub,Nat.reduceAdd,Int.toNat_natCast,c0];omega) (ag (by simp only [nrm,xdn,reduceIte,Nat.reduceLT,Nat.reduceSub,Nat.reduceAdd,Int.toNat_natCast,c0,Wrd.cds,Mem.cds,lca,jb];omega) (aF (fun h5=>?_) (fun h5=>?_)))
  ·simp only [nrm,xdn,reduceIte,Nat.reduceLT,Nat.reduceSub,Nat.reduceAdd,Int.toNat_natCast,c0,Wrd.cds,Mem.cds,lca,e0,Bool.not_eq_true'] at h5
   rw [htt,if_pos h5] at hS
   refine ag (by simp only [nrm,xdn,reduceIte,Nat.reduceLT,Nat.reduceSub,Nat.reduceAdd,Int.toNat_natCast,c0,av];omega) (ai d172 [bK t.f.keys] rfl trivial (by simp only [nrm,xdn,reduceIte,Nat.reduceLT,Nat.reduceSub,Nat.reduceAdd,Int.toNat_natCast,c0,e12,Wrd.cds,Mem.cds,lca,d172,iW]) (ag (by simp only [nrm,xdn,reduceIte,Nat.reduceLT,Nat.reduceSub,Nat.reduceAdd,pQ];omega) ?_))
   have hp : si q.1 x.task (s.began.getD x.task.toNat 0) i=⟨x.task,t.f.c,s.began.getD x.task.toNat 0,i,t.f.e,t.f.slot,t.f.n,t.f.keys⟩:=by unfold si;rw [htt]
   have ha : (fw s.past).rows ++ [[.i x.task,.i t.f.c.kind,.i t.f.c.k.a,.i t.f.c.k.b,.i t.f.c.time,.i t.f.c.bucket,.i t.f.c.slot,.i (s.began.getD x.task.toNat 0),.i (i : Int),.i t.f.e,.i t.f.slot,.i t.f.n,bK t.f.keys]]=(fw (s.past ++ [si q.1 x.task (s.began.getD x.task.toNat 0) i])).rows:=by rw [hp];simp [fw,Pst.row]
   refine a9 (by simp only [nrm,xdn,reduceIte,Nat.reduceLT,Nat.reduceSub,Nat.reduceAdd];omega) (ag (by simp only [nrm,xdn,reduceIte,Nat.reduceLT,Nat.reduceSub,Nat.reduceAdd,Wrd.cds,Mem.cds,lca];exact aI _) (bU ⟨⟨i + 1,_,?_,hv⟩,?_⟩))
   ·rw [hS]
    simp only [nrm,xdn,reduceIte,Nat.reduceLT,Nat.reduceSub,Nat.reduceAdd,Int.toNat_natCast,c0,c1,c2,c3,c4,c5,c6,c7,c8,e1,e2,e3,e4,e5,e6,e10,e11,e14,hb1,ha,Wrd.cds,Mem.cds,lca,CD.row,List.headD_cons,CD.ay,bW,gO]
    rfl
   ·simp only [nrm,xdn,reduceIte,Nat.reduceLT,Nat.reduceSub,Nat.reduceAdd];omega
  ·simp only [nrm,xdn,reduceIte,Nat.reduceLT,Nat.reduceSub,Nat.reduceAdd,Int.toNat_natCast,c0,Wrd.cds,Mem.cds,lca,e0,Bool.not_eq_false'] at h5
   rw [htt,if_neg (by rw [h5];exact fun y=>Bool.noConfusion y)] at hS
   refine a9 (by simp only [nrm,xdn,reduceIte,Nat.reduceLT,Nat.reduceSub,Nat.reduceAdd];omega) (ag (by simp only [nrm,xdn,reduceIte,Nat.reduceLT,Nat.reduceSub,Nat.reduceAdd,Wrd.cds,Mem.cds,lca];exact aI _) (bU ⟨⟨i + 1,_,?_,hv⟩,?_⟩))
   ·rw [hS]
    simp only [nrm,xdn,reduceIte,Nat.reduceLT,Nat.reduceSub,Nat.reduceAdd,Int.toNat_natCast,c0,c1,c2,c3,c4,c5,c6,c7,c8,Wrd.cds,Mem.cds,lca,CD.row,List.headD_cons,CD.ay,bW,gO,ij]
    rfl
   ·simp only [nrm,xdn,reduceIte,Nat.reduceLT,Nat.reduceSub,Nat.reduceAdd];omega
 ·simp only [nrm,xdn,reduceIte,Nat.reduceLT,Nat.reduceSub,Nat.reduceAdd,gC] at hge ⊢
  rw [List.drop_eq_nil_of_le (show l.length≤i by omega)] at I2
  rw [I2]
  simp only [rh,Wrd.gi,Mem.cds,lca]
end Go.Proofs.Ytpmamacjepcdmaa
