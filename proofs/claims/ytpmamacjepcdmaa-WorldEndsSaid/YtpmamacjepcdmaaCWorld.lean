import Derived.Test.YtpmamacjepcdmaaCChainLaws5
import Derived.Test.YtpmamacjepcdmaaCTouch
import Derived.Test.YtpmamacjepcdmaaCMemLaws
import Derived.Test.YtpmamacjepcdmaaCRef
namespace Go.Proofs.Ytpmamacjepcdmaa
open Go Go.Sy Go.RowKit
set_option linter.unusedSimpArgs false
set_option linter.unusedVariables false
theorem AR {m y : Mem} (hC : tf m) (hy : cr y) (hh : y.heads=m.heads) (hl : y.slots.length=m.slots.length) (hs : ∀ j,(msl y j).next=(msl m j).next)
  (hk : ∀ b,b < m.heads.length→∀ a∈chL m b,(msl y a.toNat).refs≠0∧(msl y a.toNat).inn=(msl m a.toNat).inn∧(msl y a.toNat).k=(msl m a.toNat).k) :
  tf y∧∀ b,b < m.heads.length→chL y b=chL m b:=by
 have hn : ∀ a,nxt y a=nxt m a:=fun a=>hs a.toNat
 have hhd : ∀ b : Int,cV y b=cV m b:=fun b=>by unfold cV;rw [hh]
 have main : ∀ b,b < m.heads.length→oa y b (chL m b):=fun b hb=>by
  have hc:=hC.ch hb
  obtain ⟨p1,p2⟩:=Aq.1 hc.of
  have hky : ∀ a∈chL m b,kys y a=kys m a:=fun a ha=>(hk b hb a ha).2.2
  refine ⟨Aq.2 ⟨by rw [hhd];exact p1.congr fun c _=>hn c,by rw [hl];exact p2⟩,fun a ha=>?_,?_⟩
  ·have h0:=hc.ok a ha
   obtain ⟨k1,k2,k3⟩:=hk b hb a ha
   exact ⟨k1,by rw [k2];exact h0.inn,by rw [hky a ha];unfold bk;rw [hh];exact h0.bk⟩
  ·have : (chL m b).map (kys y)=(chL m b).map (kys m):=List.map_congr_left hky
   rw [this];exact hc.nd
 exact ⟨⟨hy,fun b hb=>⟨_,main b (by rw [← hh];exact hb)⟩⟩,fun b hb=>BW (main b hb).of⟩
def AN (b : Int) : List Int→Int
 | []=>-1 - b
 | a :: _=>a + 1
def BJ (l : List Int) : Int:=match l.getLast? with
 | none=>0
 | some c=>c + 1
theorem B0 {m : Mem} {b : Int} : ∀ {l : List Int} {n : Int},Path m n l (-1 - b)→n=AN b l
 | [],_,h=>h.1
 | _ :: _,_,h=>h.1
theorem BM {m : Mem} (hC : tf m) {b : Nat} (hb : b < m.heads.length) : cV m b=AN b (chL m b):=B0 (Aq.1 (hC.ch hb).of).1
theorem BE {m : Mem} (hC : tf m) {b : Nat} (hb : b < m.heads.length) {l1 l2 : List Int} {a : Int} (h : chL m b=l1 ++ a :: l2) : nxt m a=AN b l2:=by
 have:=(Aq.1 (hC.ch hb).of).1
 rw [h] at this
 obtain ⟨q,_,_,_,h3⟩:=AQ.1 this
 exact B0 h3
theorem A9 {m : Mem} (hC : tf m) {b : Nat} (hb : b < m.heads.length) {l1 l2 : List Int} (h : chL m b=l1 ++ l2) (hc : 0 < AN b l2) : ∃ a l3,l2=a :: l3∧AN b l2=a + 1∧a∈chL m b∧0≤a∧a < m.slots.length:=by
 cases l2 with
 | nil =>
  have hc : 0 < -1 - (b : Int):=hc
  omega
 | cons a l3 =>
  have ha : a∈chL m b:=by rw [h];simp
  exact ⟨a,l3,rfl,rfl,ha,AF hC ha⟩
theorem B5 {m : Mem} (hC : tf m) {b : Nat} (hb : b < m.heads.length) {l1 l2 : List Int} {a : Int} (h : chL m b=l1 ++ a :: l2) : BJ l1=AO a (chL m b) 0:=by
 have hnd:=(hC.ch hb).ndl
 rw [h] at hnd ⊢
 have ha : a ∉ l1:=fun hx=>(List.nodup_append.1 hnd).2.2 a hx a (by simp) rfl
 rw [AZ ha];rfl
def Ak (m : Mem) (k : Int) : Nat:=Bl (fun i=>(chL m i).count k) m.heads.length 0
theorem A8 {m y : Mem} (hh : y.heads.length=m.heads.length) (h : ∀ b,b < m.heads.length→chL y b=chL m b) (k : Int) : Ak y k=Ak m k:=by
 unfold Ak
 rw [hh]
 exact A7 fun i _ g=>by show (chL y i).count k=_;rw [h i (by omega)]
theorem BR {m y : Mem} (hh : y.heads.length=m.heads.length) {b : Nat} (hb : b < m.heads.length) {k : Int} (h1 : (chL y b).count k=(chL m b).count k + 1) (h : ∀ i,i < m.heads.length→i≠b→chL y i=chL m i) : Ak y k=Ak m k + 1:=by
 unfold Ak
 rw [hh]
 exact BZ (c:=b) (by omega) (by omega) h1 fun i _ g2 g3=>by show (chL y i).count k=_;rw [h i (by omega) g3]
theorem BS {m y : Mem} (hh : y.heads.length=m.heads.length) {b : Nat} {k : Int} (h1 : (chL y b).count k=(chL m b).count k) (h : ∀ i,i < m.heads.length→i≠b→chL y i=chL m i) : Ak y k=Ak m k:=by
 unfold Ak
 rw [hh]
 refine A7 fun i _ g=>?_
 show (chL y i).count k=_
 by_cases e : i=b
 ·rw [e];exact h1
 ·rw [h i (by omega) e]
theorem BY {f : Nat→Nat} : ∀ {n b i : Nat},b≤i→i < b + n→f i≤Bl f n b
 | 0,b,i,h1,h2=>by omega
 | n + 1,b,i,h1,h2=>by
  simp only [Bl]
  by_cases e : b=i
  ·subst e;omega
  ·have:=BY (f:=f) (n:=n) (b:=b + 1) (i:=i) (by omega) (by omega)
   omega
theorem AU {m : Mem} {b : Nat} (hb : b < m.heads.length) {k : Int} (h : k∈chL m b) : 1≤Ak m k:=by
 have h1 : 1≤(chL m b).count k:=List.count_pos_iff.2 h
 have h2:=BY (f:=fun i=>(chL m i).count k) (n:=m.heads.length) (b:=0) (i:=b) (by omega) (by omega)
 have h2 : (chL m b).count k≤Ak m k:=h2
 omega
theorem Bn {m : Mem} {s : List bq} {i : Nat} {f : bq→bq} (hs : s=m.slots.modify i f) (hi : i < m.slots.length) (j : Nat) : s.getD j default=if i=j then f (msl m i) else msl m j:=by
 rw [hs];exact Bf hi
theorem By {m y : Mem} (hC : tf m) (hy : cr y) {a d : Int} (h0 : 0≤a) (h1 : a < m.slots.length) (hs : y.slots=m.slots.modify a.toNat (eg d)) (hh : y.heads=m.heads) (hr : (∃ b,b < m.heads.length∧a∈chL m b)→(msl m a.toNat).refs + d≠0) :
  tf y∧∀ b,b < m.heads.length→chL y b=chL m b:=by
 have hm : ∀ j,msl y j=if a.toNat=j then eg d (msl m a.toNat) else msl m j:=fun j=>Bn hs (by omega) j
 refine AR hC hy hh (by rw [hs];simp) (fun j=>?_) fun b hb c hc=>?_
 ·rw [hm];split
  ·rename_i e;rw [← e];rfl
  ·rfl
 ·rw [hm];split
  ·rename_i e
   have hca:=AF hC hc
   have hca : c=a:=by omega
   subst hca
   exact ⟨hr ⟨b,hb,hc⟩,rfl,rfl⟩
  ·exact ⟨((hC.ch hb).ok c hc).refs,rfl,rfl⟩
theorem Cd (m : Mem) (a : Int) : ((hold m a).2=false∧(hold m a).1=m)∨((hold m a).2=true∧(hold m a).1={ m with slots:=m.slots.modify a.toNat (eg 1)}):=by
 unfold hold
 split
 ·exact .inl ⟨rfl,rfl⟩
 ·exact .inr ⟨rfl,rfl⟩
theorem AP {m : Mem} {a : Int} (h : (msl m a.toNat).refs≠0) : (put m a).slots=m.slots.modify a.toNat (eg (-1))∧(put m a).heads=m.heads∧(put m a).kM=m.kM∧(put m a).now=m.now:=by
 unfold put
 rw [if_neg h]
 split <;> exact ⟨rfl,rfl,rfl,rfl⟩
theorem BX {m : Mem} (hC : tf m) {k : Key} {t : Int} (hk : Key.Ok k) (h0 : 0≤t) (h1 : t≤2000000) (hf : (take m k t).2.2=0) :
  0≤bG m∧bG m < m.slots.length∧(msl m (bG m).toNat).refs=0∧(take m k t).2.1=bG m∧(take m k t).1.slots=m.slots.modify (bG m).toNat (gj k t)∧(take m k t).1.heads=m.heads∧(take m k t).1.kM=m.kM ∧
   tf (take m k t).1∧(∀ b,b < m.heads.length→chL (take m k t).1 b=chL m b)∧(∀ b,b < m.heads.length→bG m ∉ chL m b):=by
 have hy:=wJ hC.mem hk h0 h1
 unfold take at hf hy ⊢
 split at hf
 ·cases hf
 ·rename_i hl
  rw [if_neg hl] at hy ⊢
  have hin : bG m∈m.free:=by
   unfold bG
   rw [List.getD_eq_getElem?_getD,List.getElem?_eq_getElem (by omega)]
   exact List.getElem_mem _
  obtain ⟨a0,a1,a2⟩:=hC.mem.free _ hin
  have hno : ∀ b,b < m.heads.length→bG m ∉ chL m b:=fun b hb hm=>((hC.ch hb).ok _ hm).refs a2
  obtain ⟨c1,c2⟩:=AR (y:={ m with slots:=m.slots.modify (bG m).toNat (gj k t),free:=m.free.take (m.free.length - 1)}) hC hy rfl (by simp) (fun j=>by
   have:=Bn (m:=m) rfl (show (bG m).toNat < m.slots.length by omega) (f:=gj k t) j
   show ((m.slots.modify (bG m).toNat (gj k t)).getD j default).next=_
   rw [this];split
   ·rename_i e;rw [← e];rfl
   ·rfl) fun b hb c hc=>by
   have:=Bn (m:=m) rfl (show (bG m).toNat < m.slots.length by omega) (f:=gj k t) c.toNat
   show ((m.slots.modify (bG m).toNat (gj k t)).getD c.toNat default).refs≠0∧((m.slots.modify (bG m).toNat (gj k t)).getD c.toNat default).inn=_∧((m.slots.modify (bG m).toNat (gj k t)).getD c.toNat default).k=_
   rw [this,if_neg (fun e=>hno b hb (by
    have:=AF hC hc
    rw [show bG m=c by omega];exact hc))]
   exact ⟨((hC.ch hb).ok c hc).refs,rfl,rfl⟩
  exact ⟨a0,a1,a2,rfl,rfl,rfl,rfl,c1,c2,hno⟩
theorem cr.kM {m : Mem} (hm : cr m) {l : List Int} (hl : l.length=m.kM.length) (h : ∀ i,i < m.heads.length→-1≤l.getD i 0∧l.getD i 0 < 5) : cr { m with kM:=l} :=
 ⟨hm.ns,hm.nh1,hm.nh4,hl.trans hm.nl,hm.oN,hm.oM,hm.slot,fun i hi=>⟨(hm.head i hi).h0,(hm.head i hi).n0,(hm.head i hi).n1,(h i hi).1,(h i hi).2⟩,hm.free,hm.nodup,hm.leak⟩
theorem B4 {m y : Mem} (hC : tf m) {l : List Int} (hy : y={ m with kM:=l}) (hl : l.length=m.kM.length) (h : ∀ i,i < m.heads.length→-1≤l.getD i 0∧l.getD i 0 < 5) : tf y∧∀ b,b < m.heads.length→chL y b=chL m b:=by
 subst hy
 exact AR hC (hC.mem.kM hl h) rfl rfl (fun _=>rfl) fun b hb a ha=>⟨((hC.ch hb).ok a ha).refs,rfl,rfl⟩
end Go.Proofs.Ytpmamacjepcdmaa

namespace Go.Proofs.Ytpmamacjepcdmaa
open Go Go.Sy Go.RowKit
set_option linter.unusedSimpArgs false
set_option linter.unusedVariables false
def kT : SK:=⟨160,[.bool,.int .i64,.int .i64,.int .i64,.int .i64,.int .i64,.int .i64,.int .i64,.int .i64,.int .i64,.int .i64,.int .i64,.sl 16 [.int .i64,.int .i64],.bool,.int .i64,.sl 8 [.int .i64]]⟩
def kTo : SK:=⟨160,[.bool,.int .i64,.int .i64,.int .i64,.int .i64,.int .i64,.int .i64,.int .i64,.int .i64,.int .i64,.int .i64,.int .i64,.sl 16 [.int .i64,.int .i64],.bool,.int .i64,.os 3]⟩
def kQ : SK:=⟨64,[.int .i64,.bool,.bool,.int .i64,.int .i64,.int .i64,.int .i64,.int .i64,.int .i64]⟩
def kP : SK:=⟨120,[.int .i64,.int .i64,.int .i64,.int .i64,.int .i64,.int .i64,.int .i64,.int .i64,.int .i64,.int .i64,.int .i64,.int .i64,.sl 16 [.int .i64,.int .i64]]⟩
structure Tsk where
 busy : Bool
 f : Frm
 held : List Int
 own : Bool
structure Wrd where
 m : Mem
 ts : List Tsk
def Frm.none : Frm:=⟨⟨0,⟨0,0⟩,0,0,0⟩,0,0,0,0,0,[],false,0⟩
instance : Inhabited Tsk:=⟨⟨false,Frm.none,[],false⟩⟩
def Tsk.rw (t : Tsk) (h : CD) : List CD:=[.b t.busy,.i t.f.c.kind,.i t.f.c.k.a,.i t.f.c.k.b,.i t.f.c.time,.i t.f.c.bucket,.i t.f.c.slot,.i t.f.pc,.i t.f.cur,.i t.f.prev,.i t.f.slot,.i t.f.n,ba t.f.keys,.b t.f.done,.i t.f.e,h]
def jd (l : List Int) : CD:=.o (l.map fun n=>[.i n])
def Tsk.hd (t : Tsk) : CD:=if t.own then jd t.held else aa t.held
def Tsk.row (t : Tsk) : List CD:=t.rw (aa t.held)
def Tsk.fF (t : Tsk) : List CD:=t.rw t.hd
def aA (l : List Tsk) : CD:=.l (l.map Tsk.row)
def ar (l : List Tsk) : CD:=.l (l.map Tsk.fF)
def Tsk.of (r : List CD) : Tsk:=⟨(r.getD 0 .u).bool,Frm.of (r.drop 1),(r.getD 15 .u).shut.ints,(r.getD 15 .u).isO⟩
def Tsk.bU (t : Tsk) : Tsk:={ t with own:=true}
def Tsk.cU (t : Tsk) : Tsk:={ t with own:=false}
def _root_.Go.Sy.CD.rK (d : CD) : List Tsk:=d.rows.map Tsk.of
structure Pik where
 task : Int
 step : Bool
 tick : Bool
 c : Cal
def Pik.of (l : List CD) : Pik:=⟨(l.getD 0 .u).int,(l.getD 1 .u).bool,(l.getD 2 .u).bool,Cal.of (l.drop 3)⟩
def Wrd.of (l : List CD) : Wrd:=⟨Mem.of l,(l.getD 5 .u).rK⟩
def Wrd.cds (w : Wrd) : List CD:=w.m.cds ++ [ar w.ts]
def Wrd.bU (w : Wrd) : Wrd:=⟨w.m,w.ts.map Tsk.bU⟩
def Wrd.none : Wrd:=⟨Mem.none,[]⟩
theorem yC (t : Tsk) : Tsk.of t.fF=t:=by
 obtain ⟨b,⟨⟨c1,⟨c2,c3⟩,c4,c5,c6⟩,x1,x2,x3,x4,x5,ks,x6,x7⟩,h,o⟩:=t
 cases o
 ·simp only [Tsk.of,Tsk.fF,Tsk.rw,Tsk.hd,List.drop_succ_cons,List.drop_zero,bQ,List.getD_cons_zero,List.getD_cons_succ,CD.ff,Bool.false_eq_true,if_false]
  exact congrArg (fun x=>Tsk.mk _ _ x _) (bz h)
 ·simp only [Tsk.of,Tsk.fF,Tsk.rw,Tsk.hd,List.drop_succ_cons,List.drop_zero,bQ,List.getD_cons_zero,List.getD_cons_succ,CD.ff,if_true]
  exact congrArg (fun x=>Tsk.mk _ _ x _) (bz h)
theorem kv (l : List Tsk) : (ar l).rK=l:=by
 simp only [ar,CD.rK,CD.aC,List.map_map]
 rw [show (Tsk.of ∘ Tsk.fF)=id from funext yC,List.map_id]
theorem jn (l : List Tsk) : aA l=ar (l.map Tsk.cU):=by
 simp only [aA,ar,List.map_map];rfl
theorem yH {l : List Tsk} (h : ∀ t∈l,t.own=false) : l.map Tsk.cU=l:=by
 refine (List.map_congr_left fun t ht=>?_).trans (List.map_id l)
 obtain ⟨a,b,c,d⟩:=t
 have : d=false:=h _ ht
 subst this;rfl
theorem iw {l : List Tsk} (h : ∀ t∈l,t.own=false) : aA l=ar l:=by rw [jn,yH h]
theorem cC (l : List Tsk) : (ar l).rows.length=l.length:=by simp [ar]
theorem bO (l : List Tsk) : (aA l).rows.length=l.length:=by simp [aA]
theorem Cg (t : Tsk) : (t.fF.getD 15 .u).isH=false:=by
 show t.hd.isH=false
 unfold Tsk.hd
 split <;> rfl
theorem az (l : List Tsk) : ((ar l).rows.all fun r=>!(r.getD 15 .u).isH)=true:=by
 simp only [ar,CD.aC,List.all_eq_true]
 intro r hr
 obtain ⟨t,_,rfl⟩:=List.mem_map.1 hr
 rw [Cg];rfl
theorem bN {l : List Tsk} {i : Nat} (o : Nat) (h : i < l.length) : ((ar l).rows.getD i []).getD o .u=(l.getD i default).fF.getD o .u:=fy Tsk.fF l i o h
theorem aZ {l : List Tsk} {i : Nat} (o : Nat) (h : i < l.length) : ((aA l).rows.getD i []).getD o .u=(l.getD i default).row.getD o .u:=fy Tsk.row l i o h
theorem vP {rows : List (List CD)} (h : rA rows) : ∃ l : List Int,rows=l.map (fun n=>[CD.i n])∧l.length * 8≤140737488355328:=by
 obtain ⟨l,rfl⟩:=jZ (f:=fun n : Int=>[CD.i n]) (fun row hr=>hr) h.2
 exact ⟨l,rfl,by simpa using h.1⟩
def Tsk.Fits (t : Tsk) : Prop:=t.f.keys.length * 16≤140737488355328∧t.held.length * 8≤140737488355328
theorem oD {α : Type} {f : α→List CD} {R : List CD→Prop} {S : α→Prop} (hR : ∀ row,R row→∃ a,row=f a∧S a) : ∀ {rows : List (List CD)},(∀ row,row∈rows→R row)→∃ l : List α,rows=l.map f∧∀ a∈l,S a
 | [],_=>⟨[],rfl,fun _ h=>by cases h⟩
 | r :: rows,h=>by
  obtain ⟨l,e,hl⟩:=oD hR fun row hr=>h row (List.mem_cons_of_mem _ hr)
  obtain ⟨a,e',ha⟩:=hR r (h r (by simp))
  exact ⟨a :: l,by rw [e,e'];rfl,fun x hx=>by
   rcases List.mem_cons.1 hx with rfl | hx
   ·exact ha
   ·exact hl x hx⟩
theorem qQ {d0 d1 d2 d3 d4 d5 d6 d7 d8 d9 d10 d11 d12 d13 d14 : CD} (h : CD.ok0 .bool d0) (h0 : CD.ok0 (.int .i64) d1) (h1 : CD.ok0 (.int .i64) d2) (h2 : CD.ok0 (.int .i64) d3) (h3 : CD.ok0 (.int .i64) d4) (h4 : CD.ok0 (.int .i64) d5) (h5 : CD.ok0 (.int .i64) d6)
  (h6 : CD.ok0 (.int .i64) d7) (h7 : CD.ok0 (.int .i64) d8) (h8 : CD.ok0 (.int .i64) d9) (h9 : CD.ok0 (.int .i64) d10) (h10 : CD.ok0 (.int .i64) d11) (h11 : CD.ok0 (.sl 16 [.int .i64,.int .i64]) d12) (h12 : CD.ok0 .bool d13) (h13 : CD.ok0 (.int .i64) d14) :
  ∃ (b : Bool) (f : Frm),(∀ (hd : List Int) (o : Bool) (x : CD),[d0,d1,d2,d3,d4,d5,d6,d7,d8,d9,d10,d11,d12,d13,d14,x]=(Tsk.mk b f hd o).rw x)∧f.keys.length * 16≤140737488355328:=by
 obtain ⟨b,rfl⟩:=h
 obtain ⟨f,rfl,rfl,rfl,rfl,rfl,rfl,rfl,rfl,rfl,rfl,rfl,rfl,rfl,rfl,hb⟩:=c9 h0 h1 h2 h3 h4 h5 h6 h7 h8 h9 h10 ⟨h11,CD.sL rfl⟩ h12 h13
 exact ⟨b,f,fun _ _ _=>rfl,hb⟩
theorem cj {k : Kd} {ks : List Kd} {row : List CD} (h : CD.kq (k :: ks) row) : ∃ d ds,row=d :: ds∧CD.ok0 k d∧CD.kq ks ds:=by
 cases row with
 | nil=>exact h.elim
 | cons d ds=>exact ⟨d,ds,rfl,h.1,h.2⟩
theorem xe {row : List CD} (h : CD.kq [] row) : row=[]:=by
 cases row with
 | nil=>rfl
 | cons=>exact h.elim
theorem w7 {k : Kd} {row : List CD} (h : CD.kq [.bool,.int .i64,.int .i64,.int .i64,.int .i64,.int .i64,.int .i64,.int .i64,.int .i64,.int .i64,.int .i64,.int .i64,.sl 16 [.int .i64,.int .i64],.bool,.int .i64,k] row) :
  ∃ (b : Bool) (f : Frm) (x : CD),(∀ (hd : List Int) (o : Bool),row=(Tsk.mk b f hd o).rw x)∧f.keys.length * 16≤140737488355328∧CD.ok0 k x:=by
 obtain ⟨d0,row,rfl,g0,h⟩:=cj h
 obtain ⟨d1,row,rfl,g1,h⟩:=cj h
 obtain ⟨d2,row,rfl,g2,h⟩:=cj h
 obtain ⟨d3,row,rfl,g3,h⟩:=cj h
 obtain ⟨d4,row,rfl,g4,h⟩:=cj h
 obtain ⟨d5,row,rfl,g5,h⟩:=cj h
 obtain ⟨d6,row,rfl,g6,h⟩:=cj h
 obtain ⟨d7,row,rfl,g7,h⟩:=cj h
 obtain ⟨d8,row,rfl,g8,h⟩:=cj h
 obtain ⟨d9,row,rfl,g9,h⟩:=cj h
 obtain ⟨d10,row,rfl,g10,h⟩:=cj h
 obtain ⟨d11,row,rfl,g11,h⟩:=cj h
 obtain ⟨d12,row,rfl,g12,h⟩:=cj h
 obtain ⟨d13,row,rfl,g13,h⟩:=cj h
 obtain ⟨d14,row,rfl,g14,h⟩:=cj h
 obtain ⟨d15,row,rfl,g15,h⟩:=cj h
 have h:=xe h
 subst h
 obtain ⟨b,f,hf,hk⟩:=qQ g0 g1 g2 g3 g4 g5 g6 g7 g8 g9 g10 g11 g12 g13 g14
 exact ⟨b,f,d15,fun hd o=>hf hd o d15,hk,g15⟩
theorem dB {b : Nat} {d : CD} (h : CD.ok (.sl b kT.kd) d) : ∃ l,d=aA l∧(∀ t∈l,t.own=false∧t.Fits)∧l.length * b≤140737488355328:=by
 obtain ⟨⟨rows,rfl,h1,h2⟩,_⟩:=h
 obtain ⟨l,rfl,hl⟩:=oD (f:=Tsk.row) (S:=fun t=>t.own=false∧t.Fits) (fun row hr=>by
   obtain ⟨b,f,x,hf,hk,g15⟩:=w7 hr
   obtain ⟨hd,rfl,hb⟩:=fB (b:=8) (k:=.i64) ⟨g15,CD.sL rfl⟩
   exact ⟨⟨b,f,hd,false⟩,hf hd false,rfl,hk,hb⟩) h2
 exact ⟨l,rfl,hl,by simpa using h1⟩
theorem mB {b : Nat} {d : CD} (h : CD.ok (.sl b kTo.kd) d) : ∃ l,d=ar l∧(∀ t∈l,t.Fits)∧l.length * b≤140737488355328:=by
 obtain ⟨⟨rows,rfl,h1,h2⟩,hc⟩:=h
 have h2 : ∀ row∈rows,CD.kq kTo.kd row∧(row.getD 15 .u).isH=false:=fun row hr=>⟨h2 row hr,hc rows rfl 15 3 rfl row hr⟩
 obtain ⟨l,rfl,hl⟩:=oD (f:=Tsk.fF) (S:=Tsk.Fits) (fun row hr=>by
   obtain ⟨b,f,x,hf,hk,g15⟩:=w7 hr.1
   have gh : x.isH=false:=by
    have:=hr.2
    rw [hf [] false] at this
    exact this
   rcases g15 with ⟨rows,hd,hn⟩ | h
   ·obtain ⟨hd',rfl,hb⟩:=vP hn
    rcases hd with rfl | rfl
    ·exact ⟨⟨b,f,hd',false⟩,hf hd' false,hk,hb⟩
    ·exact ⟨⟨b,f,hd',true⟩,hf hd' true,hk,hb⟩
   ·rw [h] at gh;cases gh) h2
 exact ⟨l,rfl,hl,by simpa using h1⟩
theorem lS {d0 d1 d2 d3 d4 d5 d6 d7 d8 : CD} (h0 : CD.ok (.int .i64) d0) (h1 : CD.ok .bool d1) (h2 : CD.ok .bool d2) (h3 : CD.ok (.int .i64) d3) (h4 : CD.ok (.int .i64) d4) (h5 : CD.ok (.int .i64) d5) (h6 : CD.ok (.int .i64) d6) (h7 : CD.ok (.int .i64) d7) (h8 : CD.ok (.int .i64) d8) :
  ∃ x : Pik,d0=.i x.task∧d1=.b x.step∧d2=.b x.tick∧d3=.i x.c.kind∧d4=.i x.c.k.a∧d5=.i x.c.k.b∧d6=.i x.c.time∧d7=.i x.c.bucket∧d8=.i x.c.slot:=by
 obtain ⟨a,rfl⟩:=ok_int h0
 obtain ⟨b,rfl⟩:=qR h1
 obtain ⟨c,rfl⟩:=qR h2
 obtain ⟨d,rfl,rfl,rfl,rfl,rfl,rfl⟩:=gB h3 h4 h5 h6 h7 h8
 exact ⟨⟨a,b,c,d⟩,rfl,rfl,rfl,rfl,rfl,rfl,rfl,rfl,rfl⟩
theorem dn {l : List Tsk} {i : Nat} (h : i < l.length) : l.getD i default∈l:=by
 rw [List.getD_eq_getElem?_getD,List.getElem?_eq_getElem h]
 exact List.getElem_mem h
def s207 : Sig:=⟨[.one (.fz kT)],[.one (.own 129 kTo)]⟩
def d207 : DC:=⟨s207,fun _=>True,fun l=>[aA (l.getD 0 .u).rK]⟩
theorem dR {l : List Tsk} (h : ∀ t∈l,t.own=false) : (aA l).rK=l:=by rw [iw h,kv]
def l207 : List (Nat × Ct):=[]
def z207 : Cx:={ T:=ttA,C:=sigs l207,F:=[],hints:=[],sig:=s207}
def t207 : Tree :=
 (.ite (.eq (.len (.var 0)) (.int 0))
 (.both
 (.ret [.nil])
 (.need (.le (.len (.var 0)) (.int 879609302220))
 (.need (.clean (.app .nil (.var 0)) 15)
 (.ret [.app .nil (.var 0)]))))
 (.need (.le (.len (.var 0)) (.int 879609302220))
 (.need (.clean (.app .nil (.var 0)) 15)
 (.ret [.app .nil (.var 0)]))))
theorem run207 : run z207 6000 [.code (Try.f207.body.getD .skip),.fin (aP z207 Try.f207.results.toList 50)] { fn:=207,tmps:=z207.sig.aE ++ List.replicate (Try.f207.ntmps - z207.sig.aE.length) (.v (.one .undef)),stk:=[],h:=z207.sig.h0,nx:=z207.sig.ins.length,known:=[]}=t207:=by kernel_rfl
theorem ok207 : bJ Try.prog 207 d207.ct:=by
 refine ax (d:=d207) (Z:=z207) (Γ:=gam l207) (fn:=Try.f207) (c:=Try.f207.body.getD .skip) (aJ tok mixed all_nil aK) Try.func207 (by kernel_rfl) (by kernel_rfl) rfl run207 fun E hk hp=>?_
 obtain ⟨hk0,_⟩:=hk
 obtain ⟨ts,e0,hts,b0⟩:=dB (d:=E 0) hk0
 have b0 : ts.length * 160≤140737488355328:=b0
 have el : aG E d207.sig.ins.length=[aA ts]:=by
  show [E 0]=_
  rw [e0]
 rw [el] at hp
 rw [el]
 rw [Env.aU el]
 clear el e0
 simp only [d207,List.getD_cons_zero,dR fun t ht=>(hts t ht).1]
 have hA : ∀ J,(Tree.need (.le (.len (.var 0)) (.int 879609302220)) (.need (.clean (.app .nil (.var 0)) 15) (.ret [.app .nil (.var 0)]))).den (gam l207) (fun outs=>outs=[aA ts]) (Env.pre [aA ts] E) J:=fun J=>by
  refine af (by simp only [nrm,xdn,reduceIte,Nat.reduceLT,Nat.reduceSub,Nat.reduceAdd,bO];omega) (af ?_ (ag ?_))
  ·simp only [nrm,xdn,reduceIte,Nat.reduceLT,Nat.reduceSub,Nat.reduceAdd]
   rw [iw fun t ht=>(hts t ht).1]
   exact az ts
  ·simp only [nrm,xdn,reduceIte,Nat.reduceLT,Nat.reduceSub,Nat.reduceAdd]
   rfl
 unfold t207
 refine ae (fun h=>jK (ag ?_) (hA _)) (fun _=>hA _)
 simp only [nrm,xdn,reduceIte,Nat.reduceLT,Nat.reduceSub,Nat.reduceAdd,bO] at h
 have : ts=[]:=List.length_eq_zero_iff.1 (by omega)
 simp only [nrm,xdn,reduceIte,Nat.reduceLT,Nat.reduceSub,Nat.reduceAdd,this]
 rfl
theorem oR {α : Type} (f : α→α) : ∀ (a : List α) (x : α) (b : List α),(a ++ x :: b).modify a.length f=a ++ f x :: b
 | [],x,b=>by simp
 | y :: a,x,b=>by simp [oR f a x b]
theorem oK {g : List CD→List CD} {h : Tsk→Tsk} : ∀ {l : List Tsk} {i : Nat},g (l.getD i default).fF=(h (l.getD i default)).fF→(l.map Tsk.fF).modify i g=(l.modify i h).map Tsk.fF
 | [],i,_=>by simp
 | a :: l,0,e=>by
  have e : g a.fF=(h a).fF:=e
  simp [e]
 | a :: l,i + 1,e=>by
  have:=oK (l:=l) (i:=i) (by simpa using e)
  simp [this]
theorem dE {l : List Tsk} {i : Nat} {g : List CD→List CD} {h : Tsk→Tsk} (e : g (l.getD i default).fF=(h (l.getD i default)).fF) : CD.l ((ar l).rows.modify i g)=ar (l.modify i h):=congrArg CD.l (oK e)
def s170 : Sig:=⟨[.agg [.fz kS,.fz kI,.fz kI,.fz kI,.int .i64,.fz kT]],[.agg [.own 52 kS,.own 3 kI,.own 3 kI,.own 3 kI,.int .i64,.own 129 kTo]]⟩
def d170 : DC:=⟨s170,fun _=>True,fun l=>(Wrd.of l).bU.cds⟩
def half (ts : List Tsk) (i : Nat) : List Tsk:=(ts.take i).map Tsk.bU ++ ts.drop i
theorem ss (ts : List Tsk) (i : Nat) (h : i≤ts.length) : (half ts i).length=ts.length:=by simp [half];omega
theorem pn (ts : List Tsk) {i : Nat} (h : i < ts.length) : (half ts i).getD i default=ts.getD i default:=by
 rw [half,List.getD_eq_getElem?_getD,List.getElem?_append_right (by simp;omega),List.getD_eq_getElem?_getD]
 simp [Nat.min_eq_left (Nat.le_of_lt h)]
theorem we (ts : List Tsk) {i : Nat} (h : i < ts.length) : (half ts i).modify i Tsk.bU=half ts (i + 1):=by
 have e1 : half ts i=(ts.take i).map Tsk.bU ++ (ts[i] :: ts.drop (i + 1)):=by rw [half,List.drop_eq_getElem_cons h]
 have e2 : half ts (i + 1)=(ts.take i).map Tsk.bU ++ (Tsk.bU ts[i] :: ts.drop (i + 1)):=by
  rw [half,List.take_succ_eq_append_getElem h,List.map_append,List.append_assoc];rfl
 have:=oR Tsk.bU ((ts.take i).map Tsk.bU) ts[i] (ts.drop (i + 1))
 rw [show ((ts.take i).map Tsk.bU).length=i from by simp;omega] at this
 rw [e1,e2,this]
theorem xG (ts : List Tsk) : half ts ts.length=ts.map Tsk.bU:=by simp [half]
def l170 : List (Nat × Ct):=[(161,d161.ct),(207,d207.ct),(53,d53.ct),(172,d172.ct)]
def z170 : Cx:={ T:=ttA,C:=sigs l170,F:=[],hints:=[⟨170,3,false,[(16,.lt),(14,.own 129 kTo)],[(0,5,.own 129 kTo)],[],[],0⟩],sig:=s170}
def t170 : Tree :=
 (.call 161 [.var 0,.var 1,.var 2,.var 3,.var 4] 6
 (.call 207 [.var 5] 11
 (.need (.clean (.var 11) 15)
 (.loop 12 [.sl 160 [.bool,.int .i64,.int .i64,.int .i64,.int .i64,.int .i64,.int .i64,.int .i64,.int .i64,.int .i64,.int .i64,.int .i64,.sl 16 [.int .i64,.int .i64],.bool,.int .i64,.os 3],.int .i64] [.var 11,.int 0]
 (.ite (.lt (.var 14) (.len (.var 11)))
 (.need (.le (.int 0) (.var 14))
 (.need (.lt (.var 14) (.len (.var 13)))
 (.need (.isL (.cell (.var 13) (.var 14) 15))
 (.call 53 [.cell (.var 13) (.var 14) 15] 15
 (.call 172 [.cell (.var 13) (.var 14) 12] 16
 (.need (.fit (.add (.var 14) (.int 1)))
 (.need (.clean (.set (.set (.var 13) (.var 14) 15 (.own (.var 15))) (.var 14) 12 (.var 16)) 15)
 (.back 12 [.set (.set (.var 13) (.var 14) 15 (.own (.var 15))) (.var 14) 12 (.var 16),.add (.var 14) (.int 1)]))))))))
 (.need (.clean (.var 13) 15)
 (.ret [.var 6,.var 7,.var 8,.var 9,.var 10,.var 13])))))))
theorem run170 : run z170 6000 [.code (Try.f170.body.getD .skip),.fin (aP z170 Try.f170.results.toList 50)] { fn:=170,tmps:=z170.sig.aE ++ List.replicate (Try.f170.ntmps - z170.sig.aE.length) (.v (.one .undef)),stk:=[],h:=z170.sig.h0,nx:=z170.sig.ins.length,known:=[]}=t170:=by kernel_rfl
theorem ok170 : bJ Try.prog 170 d170.ct:=by
 refine ax (d:=d170) (Z:=z170) (Γ:=gam l170) (fn:=Try.f170) (c:=Try.f170.body.getD .skip) (aJ tok mixed (all_cons ok161 (all_cons ok207 (all_cons ok53 (all_cons ok172 all_nil)))) aK) Try.func170 (by kernel_rfl) (by kernel_rfl) rfl run170 fun E hk hp=>?_
 obtain ⟨hk0,hk1,hk2,hk3,hk4,hk5,_⟩:=hk
 obtain ⟨m,e0,e1,e2,e3,e4,b0,b1,b2,b3⟩:=bp (d0:=E 0) (d1:=E 1) (d2:=E 2) (d3:=E 3) (d4:=E 4) hk0 hk1 hk2 hk3 hk4
 obtain ⟨ts,e5,hts,b5⟩:=dB (d:=E 5) hk5
 have b5 : ts.length * 160≤140737488355328:=b5
 have el : aG E d170.sig.ins.length=[ai m.slots,aa m.heads,aa m.free,aa m.kM,.i m.now,aA ts]:=by
  show [E 0,E 1,E 2,E 3,E 4,E 5]=_
  rw [e0,e1,e2,e3,e4,e5]
 rw [el] at hp
 rw [el]
 rw [Env.aU el]
 clear el e0 e1 e2 e3 e4 e5
 have hc : d170.fn [ai m.slots,aa m.heads,aa m.free,aa m.kM,.i m.now,aA ts]=m.cds ++ [ar (ts.map Tsk.bU)]:=by
  simp only [d170,Wrd.of,Wrd.bU,Wrd.cds,mem_of,aq,List.getD_cons_zero,List.getD_cons_succ,dR fun t ht=>(hts t ht).1]
 rw [hc]
 have hto : aA ts=ar ts:=iw fun t ht=>(hts t ht).1
 unfold t170
 refine ah d161 [ai m.slots,aa m.heads,aa m.free,aa m.kM,.i m.now] rfl trivial (by simp only [nrm,xdn,reduceIte,Nat.reduceLT,Nat.reduceSub,Nat.reduceAdd,d161,mem_of,aq,Mem.cds]) (ah d207 [aA ts] rfl trivial (by simp only [nrm,xdn,reduceIte,Nat.reduceLT,Nat.reduceSub,Nat.reduceAdd,d207,dR fun t ht=>(hts t ht).1]) ?_)
 refine af (by simp only [nrm,xdn,reduceIte,Nat.reduceLT,Nat.reduceSub,Nat.reduceAdd];rw [hto];exact az ts) (bD (fun ds=>∃ i : Nat,ds=[ar (half ts i),.i i]∧i≤ts.length) (fun ds=>ts.length - (ds.getD 1 .u).int.toNat) ⟨0,?_,by omega⟩ ?_)
 ·simp only [nrm,xdn,reduceIte,Nat.reduceLT,Nat.reduceSub,Nat.reduceAdd,half,List.take_zero,List.nil_append,List.drop_zero,hto];rfl
 rintro ds - ⟨i,rfl,hi⟩
 refine ae (fun h1=>?_) (fun h1=>?_)
 ·simp only [nrm,xdn,reduceIte,Nat.reduceLT,Nat.reduceSub,Nat.reduceAdd,bO] at h1
  have hi' : i < (half ts i).length:=by rw [ss ts i hi];omega
  have ht:=(hts _ (dn (l:=ts) (i:=i) (by omega)))
  have e15 : ((ar (half ts i)).rows.getD i []).getD 15 .u=aa (ts.getD i default).held:=by
   rw [bN 15 hi',pn ts (by omega)]
   show (ts.getD i default).hd=_
   unfold Tsk.hd;rw [ht.1];rfl
  have e12 : ((ar (half ts i)).rows.getD i []).getD 12 .u=ba (ts.getD i default).f.keys:=by
   rw [bN 12 hi',pn ts (by omega)];rfl
  refine af (by simp only [nrm,xdn,reduceIte,Nat.reduceLT,Nat.reduceSub,Nat.reduceAdd];omega) (af (by simp only [nrm,xdn,reduceIte,Nat.reduceLT,Nat.reduceSub,Nat.reduceAdd,cC,ss ts i hi];omega) (af (by simp only [nrm,xdn,reduceIte,Nat.reduceLT,Nat.reduceSub,Nat.reduceAdd,Int.toNat_natCast,e15];rfl) ?_))
  refine ah d53 [aa (ts.getD i default).held] rfl trivial (by simp only [nrm,xdn,reduceIte,Nat.reduceLT,Nat.reduceSub,Nat.reduceAdd,Int.toNat_natCast,e15,d53,bz]) (ah d172 [ba (ts.getD i default).f.keys] rfl trivial (by simp only [nrm,xdn,reduceIte,Nat.reduceLT,Nat.reduceSub,Nat.reduceAdd,Int.toNat_natCast,e12,d172,eE]) ?_)
  have hset : CD.l ((ar (half ts i)).rows.modify i fun r=>(r.set 15 (.o (aa (ts.getD i default).held).rows)).set 12 (ba (ts.getD i default).f.keys))=ar (half ts (i + 1)):=by
   rw [← we ts (by omega),← pn ts (by omega)]
   exact dE rfl
  refine aH (by simp only [nrm,xdn,reduceIte,Nat.reduceLT,Nat.reduceSub,Nat.reduceAdd];omega) (af ?_ (bx ⟨⟨i + 1,?_,by omega⟩,?_⟩))
  ·simp only [nrm,xdn,reduceIte,Nat.reduceLT,Nat.reduceSub,Nat.reduceAdd,Int.toNat_natCast,e15,CD.aC,av]
   rw [show ((ar (half ts i)).rows.modify i fun r=>(r.set 15 (.o (aa (ts.getD i default).held).rows)).set 12 (ba (ts.getD i default).f.keys))=(ar (half ts (i + 1))).rows from congrArg CD.rows hset]
   exact az _
  ·simp only [nrm,xdn,reduceIte,Nat.reduceLT,Nat.reduceSub,Nat.reduceAdd,Int.toNat_natCast,CD.aC,av]
   rw [hset];rfl
  ·simp only [nrm,xdn,reduceIte,Nat.reduceLT,Nat.reduceSub,Nat.reduceAdd];omega
 ·simp only [nrm,xdn,reduceIte,Nat.reduceLT,Nat.reduceSub,Nat.reduceAdd,bO] at h1
  have : i=ts.length:=by omega
  subst this
  refine af (by simp only [nrm,xdn,reduceIte,Nat.reduceLT,Nat.reduceSub,Nat.reduceAdd];exact az _) (ag ?_)
  simp only [nrm,xdn,reduceIte,Nat.reduceLT,Nat.reduceSub,Nat.reduceAdd,xG,Mem.cds]
  rfl
end Go.Proofs.Ytpmamacjepcdmaa
