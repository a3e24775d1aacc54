import Derived.Test.YtpmamacjepcdmaaCStep
import Derived.Test.YtpmamacjepcdmaaCTouch
import Derived.Test.YtpmamacjepcdmaaCRef2
import Derived.Test.YtpmamacjepcdmaaCFrame
namespace Go.Proofs.Ytpmamacjepcdmaa
open Go Go.Sy Go.RowKit
set_option linter.unusedSimpArgs false
set_option linter.unusedVariables false
theorem jr {m y : Mem} (hC : aK m) (hy : bs y) (hh : y.heads=m.heads) (hl : y.slots.length=m.slots.length) (hs : ∀ j,(msl y j).next=(msl m j).next)
  (hk : ∀ b,b < m.heads.length→∀ a∈chL m b,(msl y a.toNat).refs≠0∧(msl y a.toNat).inn=(msl m a.toNat).inn∧(msl y a.toNat).k=(msl m a.toNat).k) :
  aK y∧∀ b,b < m.heads.length→chL y b=chL m b:=by
 have hn : ∀ a,nxt y a=nxt m a:=fun a=>hs a.toNat
 have hhd : ∀ b : Int,aM y b=aM m b:=fun b=>by unfold aM;rw [hh]
 have main : ∀ b,b < m.heads.length→ft y b (chL m b):=fun b hb=>by
  have hc:=hC.ch hb
  obtain ⟨p1,p2⟩:=bF.1 hc.of
  have hky : ∀ a∈chL m b,kys y a=kys m a:=fun a ha=>(hk b hb a ha).2.2
  refine ⟨bF.2 ⟨by rw [hhd];exact p1.congr fun c _=>hn c,by rw [hl];exact p2⟩,fun a ha=>?_,?_⟩
  ·have h0:=hc.ok a ha
   obtain ⟨k1,k2,k3⟩:=hk b hb a ha
   exact ⟨k1,by rw [k2];exact h0.inn,by rw [hky a ha];unfold bk;rw [hh];exact h0.bk⟩
  ·have : (chL m b).map (kys y)=(chL m b).map (kys m):=List.map_congr_left hky
   rw [this];exact hc.nd
 exact ⟨⟨hy,fun b hb=>⟨_,main b (by rw [← hh];exact hb)⟩⟩,fun b hb=>tp (main b hb).of⟩
def fL (b : Int) : List Int→Int
 | []=>-1 - b
 | a :: _=>a + 1
def jz (l : List Int) : Int:=match l.getLast? with
 | none=>0
 | some c=>c + 1
theorem wc {m : Mem} {b : Int} : ∀ {l : List Int} {n : Int},Path m n l (-1 - b)→n=fL b l
 | [],_,h=>h.1
 | _ :: _,_,h=>h.1
theorem o8 {m : Mem} (hC : aK m) {b : Nat} (hb : b < m.heads.length) : aM m b=fL b (chL m b):=wc (bF.1 (hC.ch hb).of).1
theorem iB {m : Mem} (hC : aK m) {b : Nat} (hb : b < m.heads.length) {l1 l2 : List Int} {a : Int} (h : chL m b=l1 ++ a :: l2) : nxt m a=fL b l2:=by
 have:=(bF.1 (hC.ch hb).of).1
 rw [h] at this
 obtain ⟨q,_,_,_,h3⟩:=fF.1 this
 exact wc h3
theorem fm {m : Mem} (hC : aK m) {b : Nat} (hb : b < m.heads.length) {l1 l2 : List Int} (h : chL m b=l1 ++ l2) (hc : 0 < fL b l2) : ∃ a l3,l2=a :: l3∧fL b l2=a + 1∧a∈chL m b∧0≤a∧a < m.slots.length:=by
 cases l2 with
 | nil =>
  have hc : 0 < -1 - (b : Int):=hc
  omega
 | cons a l3 =>
  have ha : a∈chL m b:=by rw [h];simp
  exact ⟨a,l3,rfl,rfl,ha,df hC ha⟩
theorem wC {m : Mem} (hC : aK m) {b : Nat} (hb : b < m.heads.length) {l1 l2 : List Int} {a : Int} (h : chL m b=l1 ++ a :: l2) : jz l1=gx a (chL m b) 0:=by
 have hnd:=(hC.ch hb).ndl
 rw [h] at hnd ⊢
 have ha : a ∉ l1:=fun hx=>(List.nodup_append.1 hnd).2.2 a hx a (by simp) rfl
 rw [iA ha];rfl
def fe (m : Mem) (k : Int) : Nat:=gr (fun i=>(chL m i).count k) m.heads.length 0
theorem mO {m y : Mem} (hh : y.heads.length=m.heads.length) (h : ∀ b,b < m.heads.length→chL y b=chL m b) (k : Int) : fe y k=fe m k:=by
 unfold fe
 rw [hh]
 exact mF fun i _ g=>by show (chL y i).count k=_;rw [h i (by omega)]
theorem uj {m y : Mem} (hh : y.heads.length=m.heads.length) {b : Nat} (hb : b < m.heads.length) {k : Int} (h1 : (chL y b).count k=(chL m b).count k + 1) (h : ∀ i,i < m.heads.length→i≠b→chL y i=chL m i) : fe y k=fe m k + 1:=by
 unfold fe
 rw [hh]
 exact vS (c:=b) (by omega) (by omega) h1 fun i _ g2 g3=>by show (chL y i).count k=_;rw [h i (by omega) g3]
theorem um {m y : Mem} (hh : y.heads.length=m.heads.length) {b : Nat} {k : Int} (h1 : (chL y b).count k=(chL m b).count k) (h : ∀ i,i < m.heads.length→i≠b→chL y i=chL m i) : fe y k=fe m k:=by
 unfold fe
 rw [hh]
 refine mF fun i _ g=>?_
 show (chL y i).count k=_
 by_cases e : i=b
 ·rw [e];exact h1
 ·rw [h i (by omega) e]
theorem rW {f : Nat→Nat} : ∀ {n b i : Nat},b≤i→i < b + n→f i≤gr f n b
 | 0,b,i,h1,h2=>by omega
 | n + 1,b,i,h1,h2=>by
  simp only [gr]
  by_cases e : b=i
  ·subst e;omega
  ·have:=rW (f:=f) (n:=n) (b:=b + 1) (i:=i) (by omega) (by omega)
   omega
theorem gU {m : Mem} {b : Nat} (hb : b < m.heads.length) {k : Int} (h : k∈chL m b) : 1≤fe m k:=by
 have h1 : 1≤(chL m b).count k:=List.count_pos_iff.2 h
 have h2:=rW (f:=fun i=>(chL m i).count k) (n:=m.heads.length) (b:=0) (i:=b) (by omega) (by omega)
 have h2 : (chL m b).count k≤fe m k:=h2
 omega
theorem fV {m : Mem} {s : List bp} {i : Nat} {f : bp→bp} (hs : s=m.slots.modify i f) (hi : i < m.slots.length) (j : Nat) : s.getD j default=if i=j then f (msl m i) else msl m j:=by
 rw [hs];exact nR hi
theorem fE {m y : Mem} (hC : aK m) (hy : bs y) {a d : Int} (h0 : 0≤a) (h1 : a < m.slots.length) (hs : y.slots=m.slots.modify a.toNat (cB d)) (hh : y.heads=m.heads) (hr : (∃ b,b < m.heads.length∧a∈chL m b)→(msl m a.toNat).refs + d≠0) :
  aK y∧∀ b,b < m.heads.length→chL y b=chL m b:=by
 have hm : ∀ j,msl y j=if a.toNat=j then cB d (msl m a.toNat) else msl m j:=fun j=>fV hs (by omega) j
 refine jr hC hy hh (by rw [hs];simp) (fun j=>?_) fun b hb c hc=>?_
 ·rw [hm];split
  ·rename_i e;rw [← e];rfl
  ·rfl
 ·rw [hm];split
  ·rename_i e
   have hca:=df hC hc
   have hca : c=a:=by omega
   subst hca
   exact ⟨hr ⟨b,hb,hc⟩,rfl,rfl⟩
  ·exact ⟨((hC.ch hb).ok c hc).refs,rfl,rfl⟩
theorem EC (m : Mem) (a : Int) : ((hold m a).2=false∧(hold m a).1=m)∨((hold m a).2=true∧(hold m a).1={ m with slots:=m.slots.modify a.toNat (cB 1)}):=by
 unfold hold
 split
 ·exact .inl ⟨rfl,rfl⟩
 ·exact .inr ⟨rfl,rfl⟩
theorem eK {m : Mem} {a : Int} (h : (msl m a.toNat).refs≠0) : (put m a).slots=m.slots.modify a.toNat (cB (-1))∧(put m a).heads=m.heads∧(put m a).af=m.af∧(put m a).now=m.now:=by
 unfold put
 rw [if_neg h]
 split <;> exact ⟨rfl,rfl,rfl,rfl⟩
theorem qp {m : Mem} (hC : aK m) {k : Key} {t : Int} (hk : Key.Ok k) (h0 : 0≤t) (h1 : t≤2000000) (hf : (take m k t).2.2=0) :
  0≤bg m∧bg m < m.slots.length∧(msl m (bg m).toNat).refs=0∧(take m k t).2.1=bg m∧(take m k t).1.slots=m.slots.modify (bg m).toNat (dp k t)∧(take m k t).1.heads=m.heads∧(take m k t).1.af=m.af ∧
   aK (take m k t).1∧(∀ b,b < m.heads.length→chL (take m k t).1 b=chL m b)∧(∀ b,b < m.heads.length→bg m ∉ chL m b):=by
 have hy:=vQ hC.mem hk h0 h1
 unfold take at hf hy ⊢
 split at hf
 ·cases hf
 ·rename_i hl
  rw [if_neg hl] at hy ⊢
  have hin : bg m∈m.free:=by
   unfold bg
   rw [List.getD_eq_getElem?_getD,List.getElem?_eq_getElem (by omega)]
   exact List.getElem_mem _
  obtain ⟨a0,a1,a2⟩:=hC.mem.free _ hin
  have hno : ∀ b,b < m.heads.length→bg m ∉ chL m b:=fun b hb hm=>((hC.ch hb).ok _ hm).refs a2
  obtain ⟨c1,c2⟩:=jr (y:={ m with slots:=m.slots.modify (bg m).toNat (dp k t),free:=m.free.take (m.free.length - 1)}) hC hy rfl (by simp) (fun j=>by
   have:=fV (m:=m) rfl (show (bg m).toNat < m.slots.length by omega) (f:=dp k t) j
   show ((m.slots.modify (bg m).toNat (dp k t)).getD j default).next=_
   rw [this];split
   ·rename_i e;rw [← e];rfl
   ·rfl) fun b hb c hc=>by
   have:=fV (m:=m) rfl (show (bg m).toNat < m.slots.length by omega) (f:=dp k t) c.toNat
   show ((m.slots.modify (bg m).toNat (dp k t)).getD c.toNat default).refs≠0∧((m.slots.modify (bg m).toNat (dp k t)).getD c.toNat default).inn=_∧((m.slots.modify (bg m).toNat (dp k t)).getD c.toNat default).k=_
   rw [this,if_neg (fun e=>hno b hb (by
    have:=df hC hc
    rw [show bg m=c by omega];exact hc))]
   exact ⟨((hC.ch hb).ok c hc).refs,rfl,rfl⟩
  exact ⟨a0,a1,a2,rfl,rfl,rfl,rfl,c1,c2,hno⟩
theorem bs.af {m : Mem} (hm : bs m) {l : List Int} (hl : l.length=m.af.length) (h : ∀ i,i < m.heads.length→-1≤l.getD i 0∧l.getD i 0 < 5) : bs { m with af:=l} :=
 ⟨hm.ns,hm.nh1,hm.nh4,hl.trans hm.nl,hm.oR,hm.oQ,hm.slot,fun i hi=>⟨(hm.head i hi).h0,(hm.head i hi).n0,(hm.head i hi).n1,(h i hi).1,(h i hi).2⟩,hm.free,hm.nodup,hm.leak⟩
theorem wA {m y : Mem} (hC : aK m) {l : List Int} (hy : y={ m with af:=l}) (hl : l.length=m.af.length) (h : ∀ i,i < m.heads.length→-1≤l.getD i 0∧l.getD i 0 < 5) : aK y∧∀ b,b < m.heads.length→chL y b=chL m b:=by
 subst hy
 exact jr hC (hC.mem.af hl h) rfl rfl (fun _=>rfl) fun b hb a ha=>⟨((hC.ch hb).ok a ha).refs,rfl,rfl⟩
end Go.Proofs.Ytpmamacjepcdmaa

namespace Go.Proofs.Ytpmamacjepcdmaa
open Go Go.Sy Go.RowKit
set_option linter.unusedSimpArgs false
set_option linter.unusedVariables false
def kT : SK:=⟨160,[.bool,.int .i64,.int .i64,.int .i64,.int .i64,.int .i64,.int .i64,.int .i64,.int .i64,.int .i64,.int .i64,.int .i64,.sl 16 [.int .i64,.int .i64],.bool,.int .i64,.sl 8 [.int .i64]]⟩
def kTo : SK:=⟨160,[.bool,.int .i64,.int .i64,.int .i64,.int .i64,.int .i64,.int .i64,.int .i64,.int .i64,.int .i64,.int .i64,.int .i64,.sl 16 [.int .i64,.int .i64],.bool,.int .i64,.os 3]⟩
def kQ : SK:=⟨64,[.int .i64,.bool,.bool,.int .i64,.int .i64,.int .i64,.int .i64,.int .i64,.int .i64]⟩
def kP : SK:=⟨120,[.int .i64,.int .i64,.int .i64,.int .i64,.int .i64,.int .i64,.int .i64,.int .i64,.int .i64,.int .i64,.int .i64,.int .i64,.sl 16 [.int .i64,.int .i64]]⟩
structure Tsk where
 busy : Bool
 f : Frm
 held : List Int
 own : Bool
structure Wrd where
 m : Mem
 ts : List Tsk
def Frm.none : Frm:=⟨⟨0,⟨0,0⟩,0,0,0⟩,0,0,0,0,0,[],false,0⟩
instance : Inhabited Tsk:=⟨⟨false,Frm.none,[],false⟩⟩
def Tsk.rw (t : Tsk) (h : CD) : List CD:=[.b t.busy,.i t.f.c.kind,.i t.f.c.k.a,.i t.f.c.k.b,.i t.f.c.time,.i t.f.c.bucket,.i t.f.c.slot,.i t.f.pc,.i t.f.cur,.i t.f.prev,.i t.f.slot,.i t.f.n,bK t.f.keys,.b t.f.done,.i t.f.e,h]
def oO (l : List Int) : CD:=.o (l.map fun n=>[.i n])
def Tsk.hd (t : Tsk) : CD:=if t.own then oO t.held else ae t.held
def Tsk.row (t : Tsk) : List CD:=t.rw (ae t.held)
def Tsk.hU (t : Tsk) : List CD:=t.rw t.hd
def aX (l : List Tsk) : CD:=.l (l.map Tsk.row)
def ax (l : List Tsk) : CD:=.l (l.map Tsk.hU)
def Tsk.of (r : List CD) : Tsk:=⟨(r.getD 0 .u).bool,Frm.of (r.drop 1),(r.getD 15 .u).shut.ints,(r.getD 15 .u).isO⟩
def Tsk.aS (t : Tsk) : Tsk:={ t with own:=true}
def Tsk.bH (t : Tsk) : Tsk:={ t with own:=false}
def _root_.Go.Sy.CD.tS (d : CD) : List Tsk:=d.rows.map Tsk.of
structure Pik where
 task : Int
 step : Bool
 tick : Bool
 c : Cal
def Pik.of (l : List CD) : Pik:=⟨(l.getD 0 .u).int,(l.getD 1 .u).bool,(l.getD 2 .u).bool,Cal.of (l.drop 3)⟩
def Wrd.of (l : List CD) : Wrd:=⟨Mem.of l,(l.getD 5 .u).tS⟩
def Wrd.cds (w : Wrd) : List CD:=w.m.cds ++ [ax w.ts]
def Wrd.aS (w : Wrd) : Wrd:=⟨w.m,w.ts.map Tsk.aS⟩
def Wrd.none : Wrd:=⟨Mem.none,[]⟩
theorem DH (t : Tsk) : Tsk.of t.hU=t:=by
 obtain ⟨b,⟨⟨c1,⟨c2,c3⟩,c4,c5,c6⟩,x1,x2,x3,x4,x5,ks,x6,x7⟩,h,o⟩:=t
 cases o
 ·simp only [Tsk.of,Tsk.hU,Tsk.rw,Tsk.hd,List.drop_succ_cons,List.drop_zero,dH,List.getD_cons_zero,List.getD_cons_succ,CD.gl,Bool.false_eq_true,if_false]
  exact congrArg (fun x=>Tsk.mk _ _ x _) (bS h)
 ·simp only [Tsk.of,Tsk.hU,Tsk.rw,Tsk.hd,List.drop_succ_cons,List.drop_zero,dH,List.getD_cons_zero,List.getD_cons_succ,CD.gl,if_true]
  exact congrArg (fun x=>Tsk.mk _ _ x _) (bS h)
theorem jw (l : List Tsk) : (ax l).tS=l:=by
 simp only [ax,CD.tS,CD.ay,List.map_map]
 rw [show (Tsk.of ∘ Tsk.hU)=id from funext DH,List.map_id]
theorem ji (l : List Tsk) : aX l=ax (l.map Tsk.bH):=by
 simp only [aX,ax,List.map_map];rfl
theorem DO {l : List Tsk} (h : ∀ t∈l,t.own=false) : l.map Tsk.bH=l:=by
 refine (List.map_congr_left fun t ht=>?_).trans (List.map_id l)
 obtain ⟨a,b,c,d⟩:=t
 have : d=false:=h _ ht
 subst this;rfl
theorem kg {l : List Tsk} (h : ∀ t∈l,t.own=false) : aX l=ax l:=by rw [ji,DO h]
theorem jb (l : List Tsk) : (ax l).rows.length=l.length:=by simp [ax]
theorem cz (l : List Tsk) : (aX l).rows.length=l.length:=by simp [aX]
theorem yL (t : Tsk) : (t.hU.getD 15 .u).isH=false:=by
 show t.hd.isH=false
 unfold Tsk.hd
 split <;> rfl
theorem aI (l : List Tsk) : ((ax l).rows.all fun r=>!(r.getD 15 .u).isH)=true:=by
 simp only [ax,CD.ay,List.all_eq_true]
 intro r hr
 obtain ⟨t,_,rfl⟩:=List.mem_map.1 hr
 rw [yL];rfl
theorem cO {l : List Tsk} {i : Nat} (o : Nat) (h : i < l.length) : ((ax l).rows.getD i []).getD o .u=(l.getD i default).hU.getD o .u:=fk Tsk.hU l i o h
theorem ib {l : List Tsk} {i : Nat} (o : Nat) (h : i < l.length) : ((aX l).rows.getD i []).getD o .u=(l.getD i default).row.getD o .u:=fk Tsk.row l i o h
theorem AM {rows : List (List CD)} (h : vI rows) : ∃ l : List Int,rows=l.map (fun n=>[CD.i n])∧l.length * 8≤140737488355328:=by
 obtain ⟨l,rfl⟩:=mJ (f:=fun n : Int=>[CD.i n]) (fun row hr=>hr) h.2
 exact ⟨l,rfl,by simpa using h.1⟩
def Tsk.Fits (t : Tsk) : Prop:=t.f.keys.length * 16≤140737488355328∧t.held.length * 8≤140737488355328
theorem sb {α : Type} {f : α→List CD} {R : List CD→Prop} {S : α→Prop} (hR : ∀ row,R row→∃ a,row=f a∧S a) : ∀ {rows : List (List CD)},(∀ row,row∈rows→R row)→∃ l : List α,rows=l.map f∧∀ a∈l,S a
 | [],_=>⟨[],rfl,fun _ h=>by cases h⟩
 | r :: rows,h=>by
  obtain ⟨l,e,hl⟩:=sb hR fun row hr=>h row (List.mem_cons_of_mem _ hr)
  obtain ⟨a,e',ha⟩:=hR r (h r (by simp))
  exact ⟨a :: l,by rw [e,e'];rfl,fun x hx=>by
   rcases List.mem_cons.1 hx with rfl | hx
   ·exact ha
   ·exact hl x hx⟩
theorem u5 {d0 d1 d2 d3 d4 d5 d6 d7 d8 d9 d10 d11 d12 d13 d14 : CD} (h : CD.ok0 .bool d0) (h0 : CD.ok0 (.int .i64) d1) (h1 : CD.ok0 (.int .i64) d2) (h2 : CD.ok0 (.int .i64) d3) (h3 : CD.ok0 (.int .i64) d4) (h4 : CD.ok0 (.int .i64) d5) (h5 : CD.ok0 (.int .i64) d6)
  (h6 : CD.ok0 (.int .i64) d7) (h7 : CD.ok0 (.int .i64) d8) (h8 : CD.ok0 (.int .i64) d9) (h9 : CD.ok0 (.int .i64) d10) (h10 : CD.ok0 (.int .i64) d11) (h11 : CD.ok0 (.sl 16 [.int .i64,.int .i64]) d12) (h12 : CD.ok0 .bool d13) (h13 : CD.ok0 (.int .i64) d14) :
  ∃ (b : Bool) (f : Frm),(∀ (hd : List Int) (o : Bool) (x : CD),[d0,d1,d2,d3,d4,d5,d6,d7,d8,d9,d10,d11,d12,d13,d14,x]=(Tsk.mk b f hd o).rw x)∧f.keys.length * 16≤140737488355328:=by
 obtain ⟨b,rfl⟩:=h
 obtain ⟨f,rfl,rfl,rfl,rfl,rfl,rfl,rfl,rfl,rfl,rfl,rfl,rfl,rfl,rfl,hb⟩:=iU h0 h1 h2 h3 h4 h5 h6 h7 h8 h9 h10 ⟨h11,CD.EZ rfl⟩ h12 h13
 exact ⟨b,f,fun _ _ _=>rfl,hb⟩
theorem cd {k : Kd} {ks : List Kd} {row : List CD} (h : CD.Ed (k :: ks) row) : ∃ d ds,row=d :: ds∧CD.ok0 k d∧CD.Ed ks ds:=by
 cases row with
 | nil=>exact h.elim
 | cons d ds=>exact ⟨d,ds,rfl,h.1,h.2⟩
theorem B8 {row : List CD} (h : CD.Ed [] row) : row=[]:=by
 cases row with
 | nil=>rfl
 | cons=>exact h.elim
theorem FF {k : Kd} {row : List CD} (h : CD.Ed [.bool,.int .i64,.int .i64,.int .i64,.int .i64,.int .i64,.int .i64,.int .i64,.int .i64,.int .i64,.int .i64,.int .i64,.sl 16 [.int .i64,.int .i64],.bool,.int .i64,k] row) :
  ∃ (b : Bool) (f : Frm) (x : CD),(∀ (hd : List Int) (o : Bool),row=(Tsk.mk b f hd o).rw x)∧f.keys.length * 16≤140737488355328∧CD.ok0 k x:=by
 obtain ⟨d0,row,rfl,g0,h⟩:=cd h
 obtain ⟨d1,row,rfl,g1,h⟩:=cd h
 obtain ⟨d2,row,rfl,g2,h⟩:=cd h
 obtain ⟨d3,row,rfl,g3,h⟩:=cd h
 obtain ⟨d4,row,rfl,g4,h⟩:=cd h
 obtain ⟨d5,row,rfl,g5,h⟩:=cd h
 obtain ⟨d6,row,rfl,g6,h⟩:=cd h
 obtain ⟨d7,row,rfl,g7,h⟩:=cd h
 obtain ⟨d8,row,rfl,g8,h⟩:=cd h
 obtain ⟨d9,row,rfl,g9,h⟩:=cd h
 obtain ⟨d10,row,rfl,g10,h⟩:=cd h
 obtain ⟨d11,row,rfl,g11,h⟩:=cd h
 obtain ⟨d12,row,rfl,g12,h⟩:=cd h
 obtain ⟨d13,row,rfl,g13,h⟩:=cd h
 obtain ⟨d14,row,rfl,g14,h⟩:=cd h
 obtain ⟨d15,row,rfl,g15,h⟩:=cd h
 have h:=B8 h
 subst h
 obtain ⟨b,f,hf,hk⟩:=u5 g0 g1 g2 g3 g4 g5 g6 g7 g8 g9 g10 g11 g12 g13 g14
 exact ⟨b,f,d15,fun hd o=>hf hd o d15,hk,g15⟩
theorem gS {b : Nat} {d : CD} (h : CD.ok (.sl b kT.kd) d) : ∃ l,d=aX l∧(∀ t∈l,t.own=false∧t.Fits)∧l.length * b≤140737488355328:=by
 obtain ⟨⟨rows,rfl,h1,h2⟩,_⟩:=h
 obtain ⟨l,rfl,hl⟩:=sb (f:=Tsk.row) (S:=fun t=>t.own=false∧t.Fits) (fun row hr=>by
   obtain ⟨b,f,x,hf,hk,g15⟩:=FF hr
   obtain ⟨hd,rfl,hb⟩:=jm (b:=8) (k:=.i64) ⟨g15,CD.EZ rfl⟩
   exact ⟨⟨b,f,hd,false⟩,hf hd false,rfl,hk,hb⟩) h2
 exact ⟨l,rfl,hl,by simpa using h1⟩
theorem pJ {b : Nat} {d : CD} (h : CD.ok (.sl b kTo.kd) d) : ∃ l,d=ax l∧(∀ t∈l,t.Fits)∧l.length * b≤140737488355328:=by
 obtain ⟨⟨rows,rfl,h1,h2⟩,hc⟩:=h
 have h2 : ∀ row∈rows,CD.Ed kTo.kd row∧(row.getD 15 .u).isH=false:=fun row hr=>⟨h2 row hr,hc rows rfl 15 3 rfl row hr⟩
 obtain ⟨l,rfl,hl⟩:=sb (f:=Tsk.hU) (S:=Tsk.Fits) (fun row hr=>by
   obtain ⟨b,f,x,hf,hk,g15⟩:=FF hr.1
   have gh : x.isH=false:=by
    have:=hr.2
    rw [hf [] false] at this
    exact this
   rcases g15 with ⟨rows,hd,hn⟩ | h
   ·obtain ⟨hd',rfl,hb⟩:=AM hn
    rcases hd with rfl | rfl
    ·exact ⟨⟨b,f,hd',false⟩,hf hd' false,hk,hb⟩
    ·exact ⟨⟨b,f,hd',true⟩,hf hd' true,hk,hb⟩
   ·rw [h] at gh;cases gh) h2
 exact ⟨l,rfl,hl,by simpa using h1⟩
theorem uZ {d0 d1 d2 d3 d4 d5 d6 d7 d8 : CD} (h0 : CD.ok (.int .i64) d0) (h1 : CD.ok .bool d1) (h2 : CD.ok .bool d2) (h3 : CD.ok (.int .i64) d3) (h4 : CD.ok (.int .i64) d4) (h5 : CD.ok (.int .i64) d5) (h6 : CD.ok (.int .i64) d6) (h7 : CD.ok (.int .i64) d7) (h8 : CD.ok (.int .i64) d8) :
  ∃ x : Pik,d0=.i x.task∧d1=.b x.step∧d2=.b x.tick∧d3=.i x.c.kind∧d4=.i x.c.k.a∧d5=.i x.c.k.b∧d6=.i x.c.time∧d7=.i x.c.bucket∧d8=.i x.c.slot:=by
 obtain ⟨a,rfl⟩:=ok_int h0
 obtain ⟨b,rfl⟩:=u6 h1
 obtain ⟨c,rfl⟩:=u6 h2
 obtain ⟨d,rfl,rfl,rfl,rfl,rfl,rfl⟩:=mL h3 h4 h5 h6 h7 h8
 exact ⟨⟨a,b,c,d⟩,rfl,rfl,rfl,rfl,rfl,rfl,rfl,rfl,rfl⟩
theorem eQ {l : List Tsk} {i : Nat} (h : i < l.length) : l.getD i default∈l:=by
 rw [List.getD_eq_getElem?_getD,List.getElem?_eq_getElem h]
 exact List.getElem_mem h
def s207 : Sig:=⟨[.one (.fz kT)],[.one (.own 129 kTo)]⟩
def d207 : DC:=⟨s207,fun _=>True,fun l=>[aX (l.getD 0 .u).tS]⟩
theorem fO {l : List Tsk} (h : ∀ t∈l,t.own=false) : (aX l).tS=l:=by rw [kg h,jw]
def l207 : List (Nat × Ct):=[]
def z207 : Cx:={ T:=ttA,C:=sigs l207,F:=[],hints:=[],sig:=s207}
def t207 : Tree :=
 (.ite (.eq (.len (.var 0)) (.int 0))
 (.both
 (.ret [.nil])
 (.need (.le (.len (.var 0)) (.int 879609302220))
 (.need (.clean (.app .nil (.var 0)) 15)
 (.ret [.app .nil (.var 0)]))))
 (.need (.le (.len (.var 0)) (.int 879609302220))
 (.need (.clean (.app .nil (.var 0)) 15)
 (.ret [.app .nil (.var 0)]))))
theorem run207 : run z207 6000 [.code (Try.f207.body.getD .skip),.fin (br z207 Try.f207.results.toList 50)] { fn:=207,tmps:=z207.sig.aL ++ List.replicate (Try.f207.ntmps - z207.sig.aL.length) (.v (.one .undef)),stk:=[],h:=z207.sig.h0,nx:=z207.sig.ins.length,known:=[]}=t207:=by kernel_rfl
theorem ok207 : cA Try.prog 207 d207.ct:=by
 refine aB (d:=d207) (Z:=z207) (Γ:=gam l207) (fn:=Try.f207) (c:=Try.f207.body.getD .skip) (bc tok mixed all_nil bd) Try.func207 (by kernel_rfl) (by kernel_rfl) rfl run207 fun E hk hp=>?_
 obtain ⟨hk0,_⟩:=hk
 obtain ⟨ts,e0,hts,b0⟩:=gS (d:=E 0) hk0
 have b0 : ts.length * 160≤140737488355328:=b0
 have el : aH E d207.sig.ins.length=[aX ts]:=by
  show [E 0]=_
  rw [e0]
 rw [el] at hp
 rw [el]
 rw [Env.bE el]
 clear el e0
 simp only [d207,List.getD_cons_zero,fO fun t ht=>(hts t ht).1]
 have hA : ∀ J,(Tree.need (.le (.len (.var 0)) (.int 879609302220)) (.need (.clean (.app .nil (.var 0)) 15) (.ret [.app .nil (.var 0)]))).den (gam l207) (fun outs=>outs=[aX ts]) (Env.pre [aX ts] E) J:=fun J=>by
  refine ag (by simp only [nrm,xdn,reduceIte,Nat.reduceLT,Nat.reduceSub,Nat.reduceAdd,cz];omega) (ag ?_ (aj ?_))
  ·simp only [nrm,xdn,reduceIte,Nat.reduceLT,Nat.reduceSub,Nat.reduceAdd]
   rw [kg fun t ht=>(hts t ht).1]
   exact aI ts
  ·simp only [nrm,xdn,reduceIte,Nat.reduceLT,Nat.reduceSub,Nat.reduceAdd]
   rfl
 unfold t207
 refine aF (fun h=>pj (aj ?_) (hA _)) (fun _=>hA _)
 simp only [nrm,xdn,reduceIte,Nat.reduceLT,Nat.reduceSub,Nat.reduceAdd,cz] at h
 have : ts=[]:=List.length_eq_zero_iff.1 (by omega)
 simp only [nrm,xdn,reduceIte,Nat.reduceLT,Nat.reduceSub,Nat.reduceAdd,this]
 rfl
theorem su {α : Type} (f : α→α) : ∀ (a : List α) (x : α) (b : List α),(a ++ x :: b).modify a.length f=a ++ f x :: b
 | [],x,b=>by simp
 | y :: a,x,b=>by simp [su f a x b]
theorem sm {g : List CD→List CD} {h : Tsk→Tsk} : ∀ {l : List Tsk} {i : Nat},g (l.getD i default).hU=(h (l.getD i default)).hU→(l.map Tsk.hU).modify i g=(l.modify i h).map Tsk.hU
 | [],i,_=>by simp
 | a :: l,0,e=>by
  have e : g a.hU=(h a).hU:=e
  simp [e]
 | a :: l,i + 1,e=>by
  have:=sm (l:=l) (i:=i) (by simpa using e)
  simp [this]
theorem gy {l : List Tsk} {i : Nat} {g : List CD→List CD} {h : Tsk→Tsk} (e : g (l.getD i default).hU=(h (l.getD i default)).hU) : CD.l ((ax l).rows.modify i g)=ax (l.modify i h):=congrArg CD.l (sm e)
def s170 : Sig:=⟨[.agg [.fz kS,.fz kI,.fz kI,.fz kI,.int .i64,.fz kT]],[.agg [.own 52 kS,.own 3 kI,.own 3 kI,.own 3 kI,.int .i64,.own 129 kTo]]⟩
def d170 : DC:=⟨s170,fun _=>True,fun l=>(Wrd.of l).aS.cds⟩
def half (ts : List Tsk) (i : Nat) : List Tsk:=(ts.take i).map Tsk.aS ++ ts.drop i
theorem wH (ts : List Tsk) (i : Nat) (h : i≤ts.length) : (half ts i).length=ts.length:=by simp [half];omega
theorem sU (ts : List Tsk) {i : Nat} (h : i < ts.length) : (half ts i).getD i default=ts.getD i default:=by
 rw [half,List.getD_eq_getElem?_getD,List.getElem?_append_right (by simp;omega),List.getD_eq_getElem?_getD]
 simp [Nat.min_eq_left (Nat.le_of_lt h)]
theorem Bb (ts : List Tsk) {i : Nat} (h : i < ts.length) : (half ts i).modify i Tsk.aS=half ts (i + 1):=by
 have e1 : half ts i=(ts.take i).map Tsk.aS ++ (ts[i] :: ts.drop (i + 1)):=by rw [half,List.drop_eq_getElem_cons h]
 have e2 : half ts (i + 1)=(ts.take i).map Tsk.aS ++ (Tsk.aS ts[i] :: ts.drop (i + 1)):=by
  rw [half,List.take_succ_eq_append_getElem h,List.map_append,List.append_assoc];rfl
 have:=su Tsk.aS ((ts.take i).map Tsk.aS) ts[i] (ts.drop (i + 1))
 rw [show ((ts.take i).map Tsk.aS).length=i from by simp;omega] at this
 rw [e1,e2,this]
theorem CB (ts : List Tsk) : half ts ts.length=ts.map Tsk.aS:=by simp [half]
def l170 : List (Nat × Ct):=[(161,d161.ct),(207,d207.ct),(53,d53.ct),(172,d172.ct)]
def z170 : Cx:={ T:=ttA,C:=sigs l170,F:=[],hints:=[⟨170,3,false,[(16,.lt),(14,.own 129 kTo)],[(0,5,.own 129 kTo)],[],[],0⟩],sig:=s170}
def t170 : Tree :=
 (.call 161 [.var 0,.var 1,.var 2,.var 3,.var 4] 6
 (.call 207 [.var 5] 11
 (.need (.clean (.var 11) 15)
 (.loop 12 [.sl 160 [.bool,.int .i64,.int .i64,.int .i64,.int .i64,.int .i64,.int .i64,.int .i64,.int .i64,.int .i64,.int .i64,.int .i64,.sl 16 [.int .i64,.int .i64],.bool,.int .i64,.os 3],.int .i64] [.var 11,.int 0]
 (.ite (.lt (.var 14) (.len (.var 11)))
 (.need (.le (.int 0) (.var 14))
 (.need (.lt (.var 14) (.len (.var 13)))
 (.need (.isL (.cell (.var 13) (.var 14) 15))
 (.call 53 [.cell (.var 13) (.var 14) 15] 15
 (.call 172 [.cell (.var 13) (.var 14) 12] 16
 (.need (.fit (.add (.var 14) (.int 1)))
 (.need (.clean (.set (.set (.var 13) (.var 14) 15 (.own (.var 15))) (.var 14) 12 (.var 16)) 15)
 (.back 12 [.set (.set (.var 13) (.var 14) 15 (.own (.var 15))) (.var 14) 12 (.var 16),.add (.var 14) (.int 1)]))))))))
 (.need (.clean (.var 13) 15)
 (.ret [.var 6,.var 7,.var 8,.var 9,.var 10,.var 13])))))))
theorem run170 : run z170 6000 [.code (Try.f170.body.getD .skip),.fin (br z170 Try.f170.results.toList 50)] { fn:=170,tmps:=z170.sig.aL ++ List.replicate (Try.f170.ntmps - z170.sig.aL.length) (.v (.one .undef)),stk:=[],h:=z170.sig.h0,nx:=z170.sig.ins.length,known:=[]}=t170:=by kernel_rfl
theorem ok170 : cA Try.prog 170 d170.ct:=by
 refine aB (d:=d170) (Z:=z170) (Γ:=gam l170) (fn:=Try.f170) (c:=Try.f170.body.getD .skip) (bc tok mixed (all_cons ok161 (all_cons ok207 (all_cons ok53 (all_cons ok172 all_nil)))) bd) Try.func170 (by kernel_rfl) (by kernel_rfl) rfl run170 fun E hk hp=>?_
 obtain ⟨hk0,hk1,hk2,hk3,hk4,hk5,_⟩:=hk
 obtain ⟨m,e0,e1,e2,e3,e4,b0,b1,b2,b3⟩:=cr (d0:=E 0) (d1:=E 1) (d2:=E 2) (d3:=E 3) (d4:=E 4) hk0 hk1 hk2 hk3 hk4
 obtain ⟨ts,e5,hts,b5⟩:=gS (d:=E 5) hk5
 have b5 : ts.length * 160≤140737488355328:=b5
 have el : aH E d170.sig.ins.length=[aq m.slots,ae m.heads,ae m.free,ae m.af,.i m.now,aX ts]:=by
  show [E 0,E 1,E 2,E 3,E 4,E 5]=_
  rw [e0,e1,e2,e3,e4,e5]
 rw [el] at hp
 rw [el]
 rw [Env.bE el]
 clear el e0 e1 e2 e3 e4 e5
 have hc : d170.fn [aq m.slots,ae m.heads,ae m.free,ae m.af,.i m.now,aX ts]=m.cds ++ [ax (ts.map Tsk.aS)]:=by
  simp only [d170,Wrd.of,Wrd.aS,Wrd.cds,mem_of,aw,List.getD_cons_zero,List.getD_cons_succ,fO fun t ht=>(hts t ht).1]
 rw [hc]
 have hto : aX ts=ax ts:=kg fun t ht=>(hts t ht).1
 unfold t170
 refine ai d161 [aq m.slots,ae m.heads,ae m.free,ae m.af,.i m.now] rfl trivial (by simp only [nrm,xdn,reduceIte,Nat.reduceLT,Nat.reduceSub,Nat.reduceAdd,d161,mem_of,aw,Mem.cds]) (ai d207 [aX ts] rfl trivial (by simp only [nrm,xdn,reduceIte,Nat.reduceLT,Nat.reduceSub,Nat.reduceAdd,d207,fO fun t ht=>(hts t ht).1]) ?_)
 refine ag (by simp only [nrm,xdn,reduceIte,Nat.reduceLT,Nat.reduceSub,Nat.reduceAdd];rw [hto];exact aI ts) (bY (fun ds=>∃ i : Nat,ds=[ax (half ts i),.i i]∧i≤ts.length) (fun ds=>ts.length - (ds.getD 1 .u).int.toNat) ⟨0,?_,by omega⟩ ?_)
 ·simp only [nrm,xdn,reduceIte,Nat.reduceLT,Nat.reduceSub,Nat.reduceAdd,half,List.take_zero,List.nil_append,List.drop_zero,hto];rfl
 rintro ds - ⟨i,rfl,hi⟩
 refine aF (fun h1=>?_) (fun h1=>?_)
 ·simp only [nrm,xdn,reduceIte,Nat.reduceLT,Nat.reduceSub,Nat.reduceAdd,cz] at h1
  have hi' : i < (half ts i).length:=by rw [wH ts i hi];omega
  have ht:=(hts _ (eQ (l:=ts) (i:=i) (by omega)))
  have e15 : ((ax (half ts i)).rows.getD i []).getD 15 .u=ae (ts.getD i default).held:=by
   rw [cO 15 hi',sU ts (by omega)]
   show (ts.getD i default).hd=_
   unfold Tsk.hd;rw [ht.1];rfl
  have e12 : ((ax (half ts i)).rows.getD i []).getD 12 .u=bK (ts.getD i default).f.keys:=by
   rw [cO 12 hi',sU ts (by omega)];rfl
  refine ag (by simp only [nrm,xdn,reduceIte,Nat.reduceLT,Nat.reduceSub,Nat.reduceAdd];omega) (ag (by simp only [nrm,xdn,reduceIte,Nat.reduceLT,Nat.reduceSub,Nat.reduceAdd,jb,wH ts i hi];omega) (ag (by simp only [nrm,xdn,reduceIte,Nat.reduceLT,Nat.reduceSub,Nat.reduceAdd,Int.toNat_natCast,e15];rfl) ?_))
  refine ai d53 [ae (ts.getD i default).held] rfl trivial (by simp only [nrm,xdn,reduceIte,Nat.reduceLT,Nat.reduceSub,Nat.reduceAdd,Int.toNat_natCast,e15,d53,bS]) (ai d172 [bK (ts.getD i default).f.keys] rfl trivial (by simp only [nrm,xdn,reduceIte,Nat.reduceLT,Nat.reduceSub,Nat.reduceAdd,Int.toNat_natCast,e12,d172,iW]) ?_)
  have hset : CD.l ((ax (half ts i)).rows.modify i fun r=>(r.set 15 (.o (ae (ts.getD i default).held).rows)).set 12 (bK (ts.getD i default).f.keys))=ax (half ts (i + 1)):=by
   rw [← Bb ts (by omega),← sU ts (by omega)]
   exact gy rfl
  refine a9 (by simp only [nrm,xdn,reduceIte,Nat.reduceLT,Nat.reduceSub,Nat.reduceAdd];omega) (ag ?_ (bU ⟨⟨i + 1,?_,by omega⟩,?_⟩))
  ·simp only [nrm,xdn,reduceIte,Nat.reduceLT,Nat.reduceSub,Nat.reduceAdd,Int.toNat_natCast,e15,CD.ay,az]
   rw [show ((ax (half ts i)).rows.modify i fun r=>(r.set 15 (.o (ae (ts.getD i default).held).rows)).set 12 (bK (ts.getD i default).f.keys))=(ax (half ts (i + 1))).rows from congrArg CD.rows hset]
   exact aI _
  ·simp only [nrm,xdn,reduceIte,Nat.reduceLT,Nat.reduceSub,Nat.reduceAdd,Int.toNat_natCast,CD.ay,az]
   rw [hset];rfl
  ·simp only [nrm,xdn,reduceIte,Nat.reduceLT,Nat.reduceSub,Nat.reduceAdd];omega
 ·simp only [nrm,xdn,reduceIte,Nat.reduceLT,Nat.reduceSub,Nat.reduceAdd,cz] at h1
  have : i=ts.length:=by omega
  subst this
  refine ag (by simp only [nrm,xdn,reduceIte,Nat.reduceLT,Nat.reduceSub,Nat.reduceAdd];exact aI _) (aj ?_)
  simp only [nrm,xdn,reduceIte,Nat.reduceLT,Nat.reduceSub,Nat.reduceAdd,CB,Mem.cds]
  rfl
end Go.Proofs.Ytpmamacjepcdmaa

namespace Go.Proofs.Ytpmamacjepcdmaa
open Go Go.Sy Go.RowKit
set_option linter.unusedSimpArgs false
set_option linter.unusedVariables false
theorem CV {α : Type} {r : List α} {i j : Nat} (hij : i≤j) (hj : j≤r.length) (z : List α) :
  (((r.take i ++ ((r.drop j).take (r.length - j) ++ r.drop (i + (r.length - j)))).take (i + (r.length - j)) ++ z).take (i + (r.length - j)))=r.take i ++ r.drop j:=by
 have e1 : (r.drop j).take (r.length - j)=r.drop j:=List.take_of_length_le (by simp)
 have e2 : (r.take i ++ r.drop j).length=i + (r.length - j):=by simp;omega
 rw [e1,← List.append_assoc,List.take_left' e2,List.take_left' e2]
end Go.Proofs.Ytpmamacjepcdmaa
