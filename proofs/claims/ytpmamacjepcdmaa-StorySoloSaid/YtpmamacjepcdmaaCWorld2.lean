import Derived.Test.YtpmamacjepcdmaaCAloneAdd
import Derived.Test.YtpmamacjepcdmaaCTouch
import Derived.Test.YtpmamacjepcdmaaCStep
import Derived.Test.YtpmamacjepcdmaaCRef
import Derived.Test.YtpmamacjepcdmaaCDelete
namespace Go.Proofs.Ytpmamacjepcdmaa
open Go Go.Sy Go.RowKit
set_option linter.unusedSimpArgs false
set_option linter.unusedVariables false
theorem jC {m y : Mem} (hC : aK m) (hy : bB y) (hh : y.heads=m.heads) (hl : y.slots.length=m.slots.length) (hs : ∀ j,(msl y j).next=(msl m j).next)
  (hk : ∀ b,b < m.heads.length→∀ a∈chL m b,(msl y a.toNat).refs≠0∧(msl y a.toNat).inn=(msl m a.toNat).inn∧(msl y a.toNat).k=(msl m a.toNat).k) :
  aK y∧∀ b,b < m.heads.length→chL y b=chL m b:=by
 have hn : ∀ a,nxt y a=nxt m a:=fun a=>hs a.toNat
 have hhd : ∀ b : Int,aO y b=aO m b:=fun b=>by unfold aO;rw [hh]
 have main : ∀ b,b < m.heads.length→fH y b (chL m b):=fun b hb=>by
  have hc:=hC.ch hb
  obtain ⟨p1,p2⟩:=br.1 hc.of
  have hky : ∀ a∈chL m b,kys y a=kys m a:=fun a ha=>(hk b hb a ha).2.2
  refine ⟨br.2 ⟨by rw [hhd];exact p1.congr fun c _=>hn c,by rw [hl];exact p2⟩,fun a ha=>?_,?_⟩
  ·have h0:=hc.ok a ha
   obtain ⟨k1,k2,k3⟩:=hk b hb a ha
   exact ⟨k1,by rw [k2];exact h0.inn,by rw [hky a ha];unfold bk;rw [hh];exact h0.bk⟩
  ·have : (chL m b).map (kys y)=(chL m b).map (kys m):=List.map_congr_left hky
   rw [this];exact hc.nd
 exact ⟨⟨hy,fun b hb=>⟨_,main b (by rw [← hh];exact hb)⟩⟩,fun b hb=>tV (main b hb).of⟩
def ig (b : Int) : List Int→Int
 | []=>-1 - b
 | a :: _=>a + 1
def jJ (l : List Int) : Int:=match l.getLast? with
 | none=>0
 | some c=>c + 1
theorem xi {m : Mem} {b : Int} : ∀ {l : List Int} {n : Int},Path m n l (-1 - b)→n=ig b l
 | [],_,h=>h.1
 | _ :: _,_,h=>h.1
theorem tA {m : Mem} (hC : aK m) {b : Nat} (hb : b < m.heads.length) : aO m b=ig b (chL m b):=xi (br.1 (hC.ch hb).of).1
theorem rV {m : Mem} (hC : aK m) {b : Nat} (hb : b < m.heads.length) {l1 l2 : List Int} {a : Int} (h : chL m b=l1 ++ a :: l2) : nxt m a=ig b l2:=by
 have:=(br.1 (hC.ch hb).of).1
 rw [h] at this
 obtain ⟨q,_,_,_,h3⟩:=eE.1 this
 exact xi h3
theorem jA {m : Mem} (hC : aK m) {b : Nat} (hb : b < m.heads.length) {l1 l2 : List Int} (h : chL m b=l1 ++ l2) (hc : 0 < ig b l2) : ∃ a l3,l2=a :: l3∧ig b l2=a + 1∧a∈chL m b∧0≤a∧a < m.slots.length:=by
 cases l2 with
 | nil =>
  have hc : 0 < -1 - (b : Int):=hc
  omega
 | cons a l3 =>
  have ha : a∈chL m b:=by rw [h];simp
  exact ⟨a,l3,rfl,rfl,ha,cW hC ha⟩
theorem xH {m : Mem} (hC : aK m) {b : Nat} (hb : b < m.heads.length) {l1 l2 : List Int} {a : Int} (h : chL m b=l1 ++ a :: l2) : jJ l1=gk a (chL m b) 0:=by
 have hnd:=(hC.ch hb).ndl
 rw [h] at hnd ⊢
 have ha : a ∉ l1:=fun hx=>(List.nodup_append.1 hnd).2.2 a hx a (by simp) rfl
 rw [gj ha];rfl
def fK (m : Mem) (k : Int) : Nat:=iX (fun i=>(chL m i).count k) m.heads.length 0
theorem nb {m y : Mem} (hh : y.heads.length=m.heads.length) (h : ∀ b,b < m.heads.length→chL y b=chL m b) (k : Int) : fK y k=fK m k:=by
 unfold fK
 rw [hh]
 exact jQ fun i _ g=>by show (chL y i).count k=_;rw [h i (by omega)]
theorem uV {m y : Mem} (hh : y.heads.length=m.heads.length) {b : Nat} (hb : b < m.heads.length) {k : Int} (h1 : (chL y b).count k=(chL m b).count k + 1) (h : ∀ i,i < m.heads.length→i≠b→chL y i=chL m i) : fK y k=fK m k + 1:=by
 unfold fK
 rw [hh]
 exact sE (c:=b) (by omega) (by omega) h1 fun i _ g2 g3=>by show (chL y i).count k=_;rw [h i (by omega) g3]
theorem uW {m y : Mem} (hh : y.heads.length=m.heads.length) {b : Nat} {k : Int} (h1 : (chL y b).count k=(chL m b).count k) (h : ∀ i,i < m.heads.length→i≠b→chL y i=chL m i) : fK y k=fK m k:=by
 unfold fK
 rw [hh]
 refine jQ fun i _ g=>?_
 show (chL y i).count k=_
 by_cases e : i=b
 ·rw [e];exact h1
 ·rw [h i (by omega) e]
theorem wW {f : Nat→Nat} : ∀ {n b i : Nat},b≤i→i < b + n→f i≤iX f n b
 | 0,b,i,h1,h2=>by omega
 | n + 1,b,i,h1,h2=>by
  simp only [iX]
  by_cases e : b=i
  ·subst e;omega
  ·have:=wW (f:=f) (n:=n) (b:=b + 1) (i:=i) (by omega) (by omega)
   omega
theorem HU {m : Mem} {b : Nat} (hb : b < m.heads.length) {k : Int} (h : k∈chL m b) : 1≤fK m k:=by
 have h1 : 1≤(chL m b).count k:=List.count_pos_iff.2 h
 have h2:=wW (f:=fun i=>(chL m i).count k) (n:=m.heads.length) (b:=0) (i:=b) (by omega) (by omega)
 have h2 : (chL m b).count k≤fK m k:=h2
 omega
theorem gn {m : Mem} {s : List bp} {i : Nat} {f : bp→bp} (hs : s=m.slots.modify i f) (hi : i < m.slots.length) (j : Nat) : s.getD j default=if i=j then f (msl m i) else msl m j:=by
 rw [hs];exact oq hi
theorem gX {m y : Mem} (hC : aK m) (hy : bB y) {a d : Int} (h0 : 0≤a) (h1 : a < m.slots.length) (hs : y.slots=m.slots.modify a.toNat (bx d)) (hh : y.heads=m.heads) (hr : (∃ b,b < m.heads.length∧a∈chL m b)→(msl m a.toNat).refs + d≠0) :
  aK y∧∀ b,b < m.heads.length→chL y b=chL m b:=by
 have hm : ∀ j,msl y j=if a.toNat=j then bx d (msl m a.toNat) else msl m j:=fun j=>gn hs (by omega) j
 refine jC hC hy hh (by rw [hs];simp) (fun j=>?_) fun b hb c hc=>?_
 ·rw [hm];split
  ·rename_i e;rw [← e];rfl
  ·rfl
 ·rw [hm];split
  ·rename_i e
   have hca:=cW hC hc
   have hca : c=a:=by omega
   subst hca
   exact ⟨hr ⟨b,hb,hc⟩,rfl,rfl⟩
  ·exact ⟨((hC.ch hb).ok c hc).refs,rfl,rfl⟩
theorem oD (m : Mem) (a : Int) : ((hold m a).2=false∧(hold m a).1=m)∨((hold m a).2=true∧(hold m a).1={ m with slots:=m.slots.modify a.toNat (bx 1)}):=by
 unfold hold
 split
 ·exact .inl ⟨rfl,rfl⟩
 ·exact .inr ⟨rfl,rfl⟩
theorem fQ {m : Mem} {a : Int} (h : (msl m a.toNat).refs≠0) : (put m a).slots=m.slots.modify a.toNat (bx (-1))∧(put m a).heads=m.heads∧(put m a).ae=m.ae∧(put m a).now=m.now:=by
 unfold put
 rw [if_neg h]
 split <;> exact ⟨rfl,rfl,rfl,rfl⟩
theorem qI {m : Mem} (hC : aK m) {k : Key} {t : Int} (hk : Key.Ok k) (h0 : 0≤t) (h1 : t≤2000000) (hf : (take m k t).2.2=0) :
  0≤bc m∧bc m < m.slots.length∧(msl m (bc m).toNat).refs=0∧(take m k t).2.1=bc m∧(take m k t).1.slots=m.slots.modify (bc m).toNat (cp k t)∧(take m k t).1.heads=m.heads∧(take m k t).1.ae=m.ae ∧
   aK (take m k t).1∧(∀ b,b < m.heads.length→chL (take m k t).1 b=chL m b)∧(∀ b,b < m.heads.length→bc m ∉ chL m b):=by
 have hy:=wS hC.mem hk h0 h1
 unfold take at hf hy ⊢
 split at hf
 ·cases hf
 ·rename_i hl
  rw [if_neg hl] at hy ⊢
  have hin : bc m∈m.free:=by
   unfold bc
   rw [List.getD_eq_getElem?_getD,List.getElem?_eq_getElem (by omega)]
   exact List.getElem_mem _
  obtain ⟨a0,a1,a2⟩:=hC.mem.free _ hin
  have hno : ∀ b,b < m.heads.length→bc m ∉ chL m b:=fun b hb hm=>((hC.ch hb).ok _ hm).refs a2
  obtain ⟨c1,c2⟩:=jC (y:={ m with slots:=m.slots.modify (bc m).toNat (cp k t),free:=m.free.take (m.free.length - 1)}) hC hy rfl (by simp) (fun j=>by
   have:=gn (m:=m) rfl (show (bc m).toNat < m.slots.length by omega) (f:=cp k t) j
   show ((m.slots.modify (bc m).toNat (cp k t)).getD j default).next=_
   rw [this];split
   ·rename_i e;rw [← e];rfl
   ·rfl) fun b hb c hc=>by
   have:=gn (m:=m) rfl (show (bc m).toNat < m.slots.length by omega) (f:=cp k t) c.toNat
   show ((m.slots.modify (bc m).toNat (cp k t)).getD c.toNat default).refs≠0∧((m.slots.modify (bc m).toNat (cp k t)).getD c.toNat default).inn=_∧((m.slots.modify (bc m).toNat (cp k t)).getD c.toNat default).k=_
   rw [this,if_neg (fun e=>hno b hb (by
    have:=cW hC hc
    rw [show bc m=c by omega];exact hc))]
   exact ⟨((hC.ch hb).ok c hc).refs,rfl,rfl⟩
  exact ⟨a0,a1,a2,rfl,rfl,rfl,rfl,c1,c2,hno⟩
theorem bB.ae {m : Mem} (hm : bB m) {l : List Int} (hl : l.length=m.ae.length) (h : ∀ i,i < m.heads.length→-1≤l.getD i 0∧l.getD i 0 < 5) : bB { m with ae:=l} :=
 ⟨hm.ns,hm.nh1,hm.nh4,hl.trans hm.nl,hm.ma,hm.Ik,hm.slot,fun i hi=>⟨(hm.head i hi).h0,(hm.head i hi).n0,(hm.head i hi).n1,(h i hi).1,(h i hi).2⟩,hm.free,hm.nodup,hm.leak⟩
theorem xF {m y : Mem} (hC : aK m) {l : List Int} (hy : y={ m with ae:=l}) (hl : l.length=m.ae.length) (h : ∀ i,i < m.heads.length→-1≤l.getD i 0∧l.getD i 0 < 5) : aK y∧∀ b,b < m.heads.length→chL y b=chL m b:=by
 subst hy
 exact jC hC (hC.mem.ae hl h) rfl rfl (fun _=>rfl) fun b hb a ha=>⟨((hC.ch hb).ok a ha).refs,rfl,rfl⟩
end Go.Proofs.Ytpmamacjepcdmaa

namespace Go.Proofs.Ytpmamacjepcdmaa
open Go Go.Sy Go.RowKit
set_option linter.unusedSimpArgs false
set_option linter.unusedVariables false
def kT : SK:=⟨160,[.bool,.int .i64,.int .i64,.int .i64,.int .i64,.int .i64,.int .i64,.int .i64,.int .i64,.int .i64,.int .i64,.int .i64,.sl 16 [.int .i64,.int .i64],.bool,.int .i64,.sl 8 [.int .i64]]⟩
def kTo : SK:=⟨160,[.bool,.int .i64,.int .i64,.int .i64,.int .i64,.int .i64,.int .i64,.int .i64,.int .i64,.int .i64,.int .i64,.int .i64,.sl 16 [.int .i64,.int .i64],.bool,.int .i64,.os 3]⟩
def kQ : SK:=⟨64,[.int .i64,.bool,.bool,.int .i64,.int .i64,.int .i64,.int .i64,.int .i64,.int .i64]⟩
def kP : SK:=⟨120,[.int .i64,.int .i64,.int .i64,.int .i64,.int .i64,.int .i64,.int .i64,.int .i64,.int .i64,.int .i64,.int .i64,.int .i64,.sl 16 [.int .i64,.int .i64]]⟩
structure Tsk where
 busy : Bool
 f : Frm
 held : List Int
 own : Bool
structure Wrd where
 m : Mem
 ts : List Tsk
def Frm.none : Frm:=⟨⟨0,⟨0,0⟩,0,0,0⟩,0,0,0,0,0,[],false,0⟩
instance : Inhabited Tsk:=⟨⟨false,Frm.none,[],false⟩⟩
def Tsk.rw (t : Tsk) (h : CD) : List CD:=[.b t.busy,.i t.f.c.kind,.i t.f.c.k.a,.i t.f.c.k.b,.i t.f.c.time,.i t.f.c.bucket,.i t.f.c.slot,.i t.f.pc,.i t.f.cur,.i t.f.prev,.i t.f.slot,.i t.f.n,bS t.f.keys,.b t.f.done,.i t.f.e,h]
def o8 (l : List Int) : CD:=.o (l.map fun n=>[.i n])
def Tsk.hd (t : Tsk) : CD:=if t.own then o8 t.held else af t.held
def Tsk.row (t : Tsk) : List CD:=t.rw (af t.held)
def Tsk.iv (t : Tsk) : List CD:=t.rw t.hd
def G2 (l : List Tsk) : CD:=.l (l.map Tsk.row)
def az (l : List Tsk) : CD:=.l (l.map Tsk.iv)
def Tsk.of (r : List CD) : Tsk:=⟨(r.getD 0 .u).bool,Frm.of (r.drop 1),(r.getD 15 .u).shut.ints,(r.getD 15 .u).isO⟩
def Tsk.bm (t : Tsk) : Tsk:={ t with own:=true}
def Tsk.G4 (t : Tsk) : Tsk:={ t with own:=false}
end Go.Proofs.Ytpmamacjepcdmaa
def Go.Sy.CD.uH (d : Go.Sy.CD) : List Go.Proofs.Ytpmamacjepcdmaa.Tsk:=d.rows.map Go.Proofs.Ytpmamacjepcdmaa.Tsk.of
namespace Go.Proofs.Ytpmamacjepcdmaa
open Go Go.Sy Go.RowKit
set_option linter.unusedSimpArgs false
set_option linter.unusedVariables false
structure Pik where
 task : Int
 step : Bool
 tick : Bool
 c : Cal
def Pik.of (l : List CD) : Pik:=⟨(l.getD 0 .u).int,(l.getD 1 .u).bool,(l.getD 2 .u).bool,Cal.of (l.drop 3)⟩
def Wrd.of (l : List CD) : Wrd:=⟨Mem.of l,(l.getD 5 .u).uH⟩
def Wrd.cds (w : Wrd) : List CD:=w.m.cds ++ [az w.ts]
def Wrd.bm (w : Wrd) : Wrd:=⟨w.m,w.ts.map Tsk.bm⟩
def Wrd.none : Wrd:=⟨Mem.none,[]⟩
theorem EL (t : Tsk) : Tsk.of t.iv=t:=by
 obtain ⟨b,⟨⟨c1,⟨c2,c3⟩,c4,c5,c6⟩,x1,x2,x3,x4,x5,ks,x6,x7⟩,h,o⟩:=t
 cases o
 ·simp only [Tsk.of,Tsk.iv,Tsk.rw,Tsk.hd,List.drop_succ_cons,List.drop_zero,dJ,List.getD_cons_zero,List.getD_cons_succ,CD.gB,Bool.false_eq_true,if_false]
  exact congrArg (fun x=>Tsk.mk _ _ x _) (bY h)
 ·simp only [Tsk.of,Tsk.iv,Tsk.rw,Tsk.hd,List.drop_succ_cons,List.drop_zero,dJ,List.getD_cons_zero,List.getD_cons_succ,CD.gB,if_true]
  exact congrArg (fun x=>Tsk.mk _ _ x _) (bY h)
theorem jH (l : List Tsk) : (az l).uH=l:=by
 simp only [az,CD.uH,CD.ax,List.map_map]
 rw [show (Tsk.of ∘ Tsk.iv)=id from funext EL,List.map_id]
theorem ju (l : List Tsk) : G2 l=az (l.map Tsk.G4):=by
 simp only [G2,az,List.map_map];rfl
theorem E4 {l : List Tsk} (h : ∀ t∈l,t.own=false) : l.map Tsk.G4=l:=by
 refine (List.map_congr_left fun t ht=>?_).trans (List.map_id l)
 obtain ⟨a,b,c,d⟩:=t
 have : d=false:=h _ ht
 subst this;rfl
theorem kv {l : List Tsk} (h : ∀ t∈l,t.own=false) : G2 l=az l:=by rw [ju,E4 h]
theorem eK (l : List Tsk) : (az l).rows.length=l.length:=by simp [az]
theorem cJ (l : List Tsk) : (G2 l).rows.length=l.length:=by simp [G2]
theorem zX (t : Tsk) : (t.iv.getD 15 .u).isH=false:=by
 show t.hd.isH=false
 unfold Tsk.hd
 split <;> rfl
theorem aI (l : List Tsk) : ((az l).rows.all fun r=>!(r.getD 15 .u).isH)=true:=by
 simp only [az,CD.ax,List.all_eq_true]
 intro r hr
 obtain ⟨t,_,rfl⟩:=List.mem_map.1 hr
 rw [zX];rfl
theorem cO {l : List Tsk} {i : Nat} (o : Nat) (h : i < l.length) : ((az l).rows.getD i []).getD o .u=(l.getD i default).iv.getD o .u:=dh Tsk.iv l i o h
theorem iB {l : List Tsk} {i : Nat} (o : Nat) (h : i < l.length) : ((G2 l).rows.getD i []).getD o .u=(l.getD i default).row.getD o .u:=dh Tsk.row l i o h
theorem BS {rows : List (List CD)} (h : wI rows) : ∃ l : List Int,rows=l.map (fun n=>[CD.i n])∧l.length * 8≤140737488355328:=by
 obtain ⟨l,rfl⟩:=jv (f:=fun n : Int=>[CD.i n]) (fun row hr=>hr) h.2
 exact ⟨l,rfl,by simpa using h.1⟩
def Tsk.Fits (t : Tsk) : Prop:=t.f.keys.length * 16≤140737488355328∧t.held.length * 8≤140737488355328
theorem sJ {α : Type} {f : α→List CD} {R : List CD→Prop} {S : α→Prop} (hR : ∀ row,R row→∃ a,row=f a∧S a) : ∀ {rows : List (List CD)},(∀ row,row∈rows→R row)→∃ l : List α,rows=l.map f∧∀ a∈l,S a
 | [],_=>⟨[],rfl,fun _ h=>by cases h⟩
 | r :: rows,h=>by
  obtain ⟨l,e,hl⟩:=sJ hR fun row hr=>h row (List.mem_cons_of_mem _ hr)
  obtain ⟨a,e',ha⟩:=hR r (h r (by simp))
  exact ⟨a :: l,by rw [e,e'];rfl,fun x hx=>by
   rcases List.mem_cons.1 hx with rfl | hx
   ·exact ha
   ·exact hl x hx⟩
theorem vN {d0 d1 d2 d3 d4 d5 d6 d7 d8 d9 d10 d11 d12 d13 d14 : CD} (h : CD.ok0 .bool d0) (h0 : CD.ok0 (.int .i64) d1) (h1 : CD.ok0 (.int .i64) d2) (h2 : CD.ok0 (.int .i64) d3) (h3 : CD.ok0 (.int .i64) d4) (h4 : CD.ok0 (.int .i64) d5) (h5 : CD.ok0 (.int .i64) d6)
  (h6 : CD.ok0 (.int .i64) d7) (h7 : CD.ok0 (.int .i64) d8) (h8 : CD.ok0 (.int .i64) d9) (h9 : CD.ok0 (.int .i64) d10) (h10 : CD.ok0 (.int .i64) d11) (h11 : CD.ok0 (.sl 16 [.int .i64,.int .i64]) d12) (h12 : CD.ok0 .bool d13) (h13 : CD.ok0 (.int .i64) d14) :
  ∃ (b : Bool) (f : Frm),(∀ (hd : List Int) (o : Bool) (x : CD),[d0,d1,d2,d3,d4,d5,d6,d7,d8,d9,d10,d11,d12,d13,d14,x]=(Tsk.mk b f hd o).rw x)∧f.keys.length * 16≤140737488355328:=by
 obtain ⟨b,rfl⟩:=h
 obtain ⟨f,rfl,rfl,rfl,rfl,rfl,rfl,rfl,rfl,rfl,rfl,rfl,rfl,rfl,rfl,hb⟩:=ja h0 h1 h2 h3 h4 h5 h6 h7 h8 h9 h10 ⟨h11,CD.yi rfl⟩ h12 h13
 exact ⟨b,f,fun _ _ _=>rfl,hb⟩
theorem bG {k : Kd} {ks : List Kd} {row : List CD} (h : CD.ny (k :: ks) row) : ∃ d ds,row=d :: ds∧CD.ok0 k d∧CD.ny ks ds:=by
 cases row with
 | nil=>exact h.elim
 | cons d ds=>exact ⟨d,ds,rfl,h.1,h.2⟩
theorem vT {row : List CD} (h : CD.ny [] row) : row=[]:=by
 cases row with
 | nil=>rfl
 | cons=>exact h.elim
theorem Db {k : Kd} {row : List CD} (h : CD.ny [.bool,.int .i64,.int .i64,.int .i64,.int .i64,.int .i64,.int .i64,.int .i64,.int .i64,.int .i64,.int .i64,.int .i64,.sl 16 [.int .i64,.int .i64],.bool,.int .i64,k] row) :
  ∃ (b : Bool) (f : Frm) (x : CD),(∀ (hd : List Int) (o : Bool),row=(Tsk.mk b f hd o).rw x)∧f.keys.length * 16≤140737488355328∧CD.ok0 k x:=by
 obtain ⟨d0,row,rfl,g0,h⟩:=bG h
 obtain ⟨d1,row,rfl,g1,h⟩:=bG h
 obtain ⟨d2,row,rfl,g2,h⟩:=bG h
 obtain ⟨d3,row,rfl,g3,h⟩:=bG h
 obtain ⟨d4,row,rfl,g4,h⟩:=bG h
 obtain ⟨d5,row,rfl,g5,h⟩:=bG h
 obtain ⟨d6,row,rfl,g6,h⟩:=bG h
 obtain ⟨d7,row,rfl,g7,h⟩:=bG h
 obtain ⟨d8,row,rfl,g8,h⟩:=bG h
 obtain ⟨d9,row,rfl,g9,h⟩:=bG h
 obtain ⟨d10,row,rfl,g10,h⟩:=bG h
 obtain ⟨d11,row,rfl,g11,h⟩:=bG h
 obtain ⟨d12,row,rfl,g12,h⟩:=bG h
 obtain ⟨d13,row,rfl,g13,h⟩:=bG h
 obtain ⟨d14,row,rfl,g14,h⟩:=bG h
 obtain ⟨d15,row,rfl,g15,h⟩:=bG h
 have h:=vT h
 subst h
 obtain ⟨b,f,hf,hk⟩:=vN g0 g1 g2 g3 g4 g5 g6 g7 g8 g9 g10 g11 g12 g13 g14
 exact ⟨b,f,d15,fun hd o=>hf hd o d15,hk,g15⟩
theorem hU {b : Nat} {d : CD} (h : CD.ok (.sl b kT.kd) d) : ∃ l,d=G2 l∧(∀ t∈l,t.own=false∧t.Fits)∧l.length * b≤140737488355328:=by
 obtain ⟨⟨rows,rfl,h1,h2⟩,_⟩:=h
 obtain ⟨l,rfl,hl⟩:=sJ (f:=Tsk.row) (S:=fun t=>t.own=false∧t.Fits) (fun row hr=>by
   obtain ⟨b,f,x,hf,hk,g15⟩:=Db hr
   obtain ⟨hd,rfl,hb⟩:=iL (b:=8) (k:=.i64) ⟨g15,CD.yi rfl⟩
   exact ⟨⟨b,f,hd,false⟩,hf hd false,rfl,hk,hb⟩) h2
 exact ⟨l,rfl,hl,by simpa using h1⟩
theorem qf {b : Nat} {d : CD} (h : CD.ok (.sl b kTo.kd) d) : ∃ l,d=az l∧(∀ t∈l,t.Fits)∧l.length * b≤140737488355328:=by
 obtain ⟨⟨rows,rfl,h1,h2⟩,hc⟩:=h
 have h2 : ∀ row∈rows,CD.ny kTo.kd row∧(row.getD 15 .u).isH=false:=fun row hr=>⟨h2 row hr,hc rows rfl 15 3 rfl row hr⟩
 obtain ⟨l,rfl,hl⟩:=sJ (f:=Tsk.iv) (S:=Tsk.Fits) (fun row hr=>by
   obtain ⟨b,f,x,hf,hk,g15⟩:=Db hr.1
   have gh : x.isH=false:=by
    have:=hr.2
    rw [hf [] false] at this
    exact this
   rcases g15 with ⟨rows,hd,hn⟩ | h
   ·obtain ⟨hd',rfl,hb⟩:=BS hn
    rcases hd with rfl | rfl
    ·exact ⟨⟨b,f,hd',false⟩,hf hd' false,hk,hb⟩
    ·exact ⟨⟨b,f,hd',true⟩,hf hd' true,hk,hb⟩
   ·rw [h] at gh;cases gh) h2
 exact ⟨l,rfl,hl,by simpa using h1⟩
theorem vL {d0 d1 d2 d3 d4 d5 d6 d7 d8 : CD} (h0 : CD.ok (.int .i64) d0) (h1 : CD.ok .bool d1) (h2 : CD.ok .bool d2) (h3 : CD.ok (.int .i64) d3) (h4 : CD.ok (.int .i64) d4) (h5 : CD.ok (.int .i64) d5) (h6 : CD.ok (.int .i64) d6) (h7 : CD.ok (.int .i64) d7) (h8 : CD.ok (.int .i64) d8) :
  ∃ x : Pik,d0=.i x.task∧d1=.b x.step∧d2=.b x.tick∧d3=.i x.c.kind∧d4=.i x.c.k.a∧d5=.i x.c.k.b∧d6=.i x.c.time∧d7=.i x.c.bucket∧d8=.i x.c.slot:=by
 obtain ⟨a,rfl⟩:=ok_int h0
 obtain ⟨b,rfl⟩:=vO h1
 obtain ⟨c,rfl⟩:=vO h2
 obtain ⟨d,rfl,rfl,rfl,rfl,rfl,rfl⟩:=kR h3 h4 h5 h6 h7 h8
 exact ⟨⟨a,b,c,d⟩,rfl,rfl,rfl,rfl,rfl,rfl,rfl,rfl,rfl⟩
theorem fc {l : List Tsk} {i : Nat} (h : i < l.length) : l.getD i default∈l:=by
 rw [List.getD_eq_getElem?_getD,List.getElem?_eq_getElem h]
 exact List.getElem_mem h
def s207 : Sig:=⟨[.one (.fz kT)],[.one (.own 129 kTo)]⟩
def d207 : DC:=⟨s207,fun _=>True,fun l=>[G2 (l.getD 0 .u).uH]⟩
theorem fZ {l : List Tsk} (h : ∀ t∈l,t.own=false) : (G2 l).uH=l:=by rw [kv h,jH]
def l207 : List (Nat × Ct):=[]
def z207 : Cx:={ T:=ttA,C:=sigs l207,F:=[],hints:=[],sig:=s207}
def t207 : Tree :=
 (.ite (.eq (.len (.var 0)) (.int 0))
 (.both
 (.ret [.nil])
 (.need (.le (.len (.var 0)) (.int 879609302220))
 (.need (.clean (.app .nil (.var 0)) 15)
 (.ret [.app .nil (.var 0)]))))
 (.need (.le (.len (.var 0)) (.int 879609302220))
 (.need (.clean (.app .nil (.var 0)) 15)
 (.ret [.app .nil (.var 0)]))))
theorem run207 : run z207 6000 [.code (Try.f207.body.getD .skip),.fin (bt z207 Try.f207.results.toList 50)] { fn:=207,tmps:=z207.sig.aM ++ List.replicate (Try.f207.ntmps - z207.sig.aM.length) (.v (.one .undef)),stk:=[],h:=z207.sig.h0,nx:=z207.sig.ins.length,known:=[]}=t207:=by kernel_rfl
theorem ok207 : cB Try.prog 207 d207.ct:=by
 refine aD (d:=d207) (Z:=z207) (Γ:=gam l207) (fn:=Try.f207) (c:=Try.f207.body.getD .skip) (bg tok mixed all_nil bh) Try.func207 (by kernel_rfl) (by kernel_rfl) rfl run207 fun E hk hp=>?_
 obtain ⟨hk0,_⟩:=hk
 obtain ⟨ts,e0,hts,b0⟩:=hU (d:=E 0) hk0
 have b0 : ts.length * 160≤140737488355328:=b0
 have el : aH E d207.sig.ins.length=[G2 ts]:=by
  show [E 0]=_
  rw [e0]
 rw [el] at hp
 rw [el]
 rw [Env.bJ el]
 clear el e0
 simp only [d207,List.getD_cons_zero,fZ fun t ht=>(hts t ht).1]
 have hA : ∀ J,(Tree.need (.le (.len (.var 0)) (.int 879609302220)) (.need (.clean (.app .nil (.var 0)) 15) (.ret [.app .nil (.var 0)]))).den (gam l207) (fun outs=>outs=[G2 ts]) (Env.pre [G2 ts] E) J:=fun J=>by
  refine ag (by simp only [nrm,xdn,reduceIte,Nat.reduceLT,Nat.reduceSub,Nat.reduceAdd,cJ];omega) (ag ?_ (aj ?_))
  ·simp only [nrm,xdn,reduceIte,Nat.reduceLT,Nat.reduceSub,Nat.reduceAdd]
   rw [kv fun t ht=>(hts t ht).1]
   exact aI ts
  ·simp only [nrm,xdn,reduceIte,Nat.reduceLT,Nat.reduceSub,Nat.reduceAdd]
   rfl
 unfold t207
 refine G0 (fun h=>pJ (aj ?_) (hA _)) (fun _=>hA _)
 simp only [nrm,xdn,reduceIte,Nat.reduceLT,Nat.reduceSub,Nat.reduceAdd,cJ] at h
 have : ts=[]:=List.length_eq_zero_iff.1 (by omega)
 simp only [nrm,xdn,reduceIte,Nat.reduceLT,Nat.reduceSub,Nat.reduceAdd,this]
 rfl
theorem sW {α : Type} (f : α→α) : ∀ (a : List α) (x : α) (b : List α),(a ++ x :: b).modify a.length f=a ++ f x :: b
 | [],x,b=>by simp
 | y :: a,x,b=>by simp [sW f a x b]
theorem sR {g : List CD→List CD} {h : Tsk→Tsk} : ∀ {l : List Tsk} {i : Nat},g (l.getD i default).iv=(h (l.getD i default)).iv→(l.map Tsk.iv).modify i g=(l.modify i h).map Tsk.iv
 | [],i,_=>by simp
 | a :: l,0,e=>by
  have e : g a.iv=(h a).iv:=e
  simp [e]
 | a :: l,i + 1,e=>by
  have:=sR (l:=l) (i:=i) (by simpa using e)
  simp [this]
theorem gH {l : List Tsk} {i : Nat} {g : List CD→List CD} {h : Tsk→Tsk} (e : g (l.getD i default).iv=(h (l.getD i default)).iv) : CD.l ((az l).rows.modify i g)=az (l.modify i h):=congrArg CD.l (sR e)
def s170 : Sig:=⟨[.agg [.fz kS,.fz kI,.fz kI,.fz kI,.int .i64,.fz kT]],[.agg [.own 52 kS,.own 3 kI,.own 3 kI,.own 3 kI,.int .i64,.own 129 kTo]]⟩
def d170 : DC:=⟨s170,fun _=>True,fun l=>(Wrd.of l).bm.cds⟩
def half (ts : List Tsk) (i : Nat) : List Tsk:=(ts.take i).map Tsk.bm ++ ts.drop i
theorem xM (ts : List Tsk) (i : Nat) (h : i≤ts.length) : (half ts i).length=ts.length:=by simp [half];omega
theorem tF (ts : List Tsk) {i : Nat} (h : i < ts.length) : (half ts i).getD i default=ts.getD i default:=by
 rw [half,List.getD_eq_getElem?_getD,List.getElem?_append_right (by simp;omega),List.getD_eq_getElem?_getD]
 simp [Nat.min_eq_left (Nat.le_of_lt h)]
theorem Cb (ts : List Tsk) {i : Nat} (h : i < ts.length) : (half ts i).modify i Tsk.bm=half ts (i + 1):=by
 have e1 : half ts i=(ts.take i).map Tsk.bm ++ (ts[i] :: ts.drop (i + 1)):=by rw [half,List.drop_eq_getElem_cons h]
 have e2 : half ts (i + 1)=(ts.take i).map Tsk.bm ++ (Tsk.bm ts[i] :: ts.drop (i + 1)):=by
  rw [half,List.take_succ_eq_append_getElem h,List.map_append,List.append_assoc];rfl
 have:=sW Tsk.bm ((ts.take i).map Tsk.bm) ts[i] (ts.drop (i + 1))
 rw [show ((ts.take i).map Tsk.bm).length=i from by simp;omega] at this
 rw [e1,e2,this]
theorem DM (ts : List Tsk) : half ts ts.length=ts.map Tsk.bm:=by simp [half]
def l170 : List (Nat × Ct):=[(161,d161.ct),(207,d207.ct),(53,d53.ct),(172,d172.ct)]
def z170 : Cx:={ T:=ttA,C:=sigs l170,F:=[],hints:=[⟨170,3,false,[(16,.lt),(14,.own 129 kTo)],[(0,5,.own 129 kTo)],[],[],0,0,false⟩],sig:=s170}
def t170 : Tree :=
 (.call 161 [.var 0,.var 1,.var 2,.var 3,.var 4] 6
 (.call 207 [.var 5] 11
 (.need (.clean (.var 11) 15)
 (.loop 12 [.sl 160 [.bool,.int .i64,.int .i64,.int .i64,.int .i64,.int .i64,.int .i64,.int .i64,.int .i64,.int .i64,.int .i64,.int .i64,.sl 16 [.int .i64,.int .i64],.bool,.int .i64,.os 3],.int .i64] [.var 11,.int 0]
 (.ite (.lt (.var 14) (.len (.var 11)))
 (.need (.le (.int 0) (.var 14))
 (.need (.lt (.var 14) (.len (.var 13)))
 (.need (.isL (.cell (.var 13) (.var 14) 15))
 (.call 53 [.cell (.var 13) (.var 14) 15] 15
 (.call 172 [.cell (.var 13) (.var 14) 12] 16
 (.need (.fit (.add (.var 14) (.int 1)))
 (.need (.clean (.set (.set (.var 13) (.var 14) 15 (.own (.var 15))) (.var 14) 12 (.var 16)) 15)
 (.back 12 [.set (.set (.var 13) (.var 14) 15 (.own (.var 15))) (.var 14) 12 (.var 16),.add (.var 14) (.int 1)]))))))))
 (.need (.clean (.var 13) 15)
 (.ret [.var 6,.var 7,.var 8,.var 9,.var 10,.var 13])))))))
theorem run170 : run z170 6000 [.code (Try.f170.body.getD .skip),.fin (bt z170 Try.f170.results.toList 50)] { fn:=170,tmps:=z170.sig.aM ++ List.replicate (Try.f170.ntmps - z170.sig.aM.length) (.v (.one .undef)),stk:=[],h:=z170.sig.h0,nx:=z170.sig.ins.length,known:=[]}=t170:=by kernel_rfl
theorem ok170 : cB Try.prog 170 d170.ct:=by
 refine aD (d:=d170) (Z:=z170) (Γ:=gam l170) (fn:=Try.f170) (c:=Try.f170.body.getD .skip) (bg tok mixed (all_cons ok161 (all_cons ok207 (all_cons ok53 (all_cons ok172 all_nil)))) bh) Try.func170 (by kernel_rfl) (by kernel_rfl) rfl run170 fun E hk hp=>?_
 obtain ⟨hk0,hk1,hk2,hk3,hk4,hk5,_⟩:=hk
 obtain ⟨m,e0,e1,e2,e3,e4,b0,b1,b2,b3⟩:=cv (d0:=E 0) (d1:=E 1) (d2:=E 2) (d3:=E 3) (d4:=E 4) hk0 hk1 hk2 hk3 hk4
 obtain ⟨ts,e5,hts,b5⟩:=hU (d:=E 5) hk5
 have b5 : ts.length * 160≤140737488355328:=b5
 have el : aH E d170.sig.ins.length=[au m.slots,af m.heads,af m.free,af m.ae,.i m.now,G2 ts]:=by
  show [E 0,E 1,E 2,E 3,E 4,E 5]=_
  rw [e0,e1,e2,e3,e4,e5]
 rw [el] at hp
 rw [el]
 rw [Env.bJ el]
 clear el e0 e1 e2 e3 e4 e5
 have hc : d170.fn [au m.slots,af m.heads,af m.free,af m.ae,.i m.now,G2 ts]=m.cds ++ [az (ts.map Tsk.bm)]:=by
  simp only [d170,Wrd.of,Wrd.bm,Wrd.cds,mem_of,aA,List.getD_cons_zero,List.getD_cons_succ,fZ fun t ht=>(hts t ht).1]
 rw [hc]
 have hto : G2 ts=az ts:=kv fun t ht=>(hts t ht).1
 unfold t170
 refine ai d161 [au m.slots,af m.heads,af m.free,af m.ae,.i m.now] rfl trivial (by simp only [nrm,xdn,reduceIte,Nat.reduceLT,Nat.reduceSub,Nat.reduceAdd,d161,mem_of,aA,Mem.cds]) (ai d207 [G2 ts] rfl trivial (by simp only [nrm,xdn,reduceIte,Nat.reduceLT,Nat.reduceSub,Nat.reduceAdd,d207,fZ fun t ht=>(hts t ht).1]) ?_)
 refine ag (by simp only [nrm,xdn,reduceIte,Nat.reduceLT,Nat.reduceSub,Nat.reduceAdd];rw [hto];exact aI ts) (bO (fun ds=>∃ i : Nat,ds=[az (half ts i),.i i]∧i≤ts.length) (fun ds=>ts.length - (ds.getD 1 .u).int.toNat) ⟨0,?_,by omega⟩ ?_)
 ·simp only [nrm,xdn,reduceIte,Nat.reduceLT,Nat.reduceSub,Nat.reduceAdd,half,List.take_zero,List.nil_append,List.drop_zero,hto];rfl
 rintro ds - ⟨i,rfl,hi⟩
 refine G0 (fun h1=>?_) (fun h1=>?_)
 ·simp only [nrm,xdn,reduceIte,Nat.reduceLT,Nat.reduceSub,Nat.reduceAdd,cJ] at h1
  have hi' : i < (half ts i).length:=by rw [xM ts i hi];omega
  have ht:=(hts _ (fc (l:=ts) (i:=i) (by omega)))
  have e15 : ((az (half ts i)).rows.getD i []).getD 15 .u=af (ts.getD i default).held:=by
   rw [cO 15 hi',tF ts (by omega)]
   show (ts.getD i default).hd=_
   unfold Tsk.hd;rw [ht.1];rfl
  have e12 : ((az (half ts i)).rows.getD i []).getD 12 .u=bS (ts.getD i default).f.keys:=by
   rw [cO 12 hi',tF ts (by omega)];rfl
  refine ag (by simp only [nrm,xdn,reduceIte,Nat.reduceLT,Nat.reduceSub,Nat.reduceAdd];omega) (ag (by simp only [nrm,xdn,reduceIte,Nat.reduceLT,Nat.reduceSub,Nat.reduceAdd,eK,xM ts i hi];omega) (ag (by simp only [nrm,xdn,reduceIte,Nat.reduceLT,Nat.reduceSub,Nat.reduceAdd,Int.toNat_natCast,e15];rfl) ?_))
  refine ai d53 [af (ts.getD i default).held] rfl trivial (by simp only [nrm,xdn,reduceIte,Nat.reduceLT,Nat.reduceSub,Nat.reduceAdd,Int.toNat_natCast,e15,d53,bY]) (ai d172 [bS (ts.getD i default).f.keys] rfl trivial (by simp only [nrm,xdn,reduceIte,Nat.reduceLT,Nat.reduceSub,Nat.reduceAdd,Int.toNat_natCast,e12,d172,jf]) ?_)
  have hset : CD.l ((az (half ts i)).rows.modify i fun r=>(r.set 15 (.o (af (ts.getD i default).held).rows)).set 12 (bS (ts.getD i default).f.keys))=az (half ts (i + 1)):=by
   rw [← Cb ts (by omega),← tF ts (by omega)]
   exact gH rfl
  refine G1 (by simp only [nrm,xdn,reduceIte,Nat.reduceLT,Nat.reduceSub,Nat.reduceAdd];omega) (ag ?_ (aV ⟨⟨i + 1,?_,by omega⟩,?_⟩))
  ·simp only [nrm,xdn,reduceIte,Nat.reduceLT,Nat.reduceSub,Nat.reduceAdd,Int.toNat_natCast,e15,CD.ax,aC]
   rw [show ((az (half ts i)).rows.modify i fun r=>(r.set 15 (.o (af (ts.getD i default).held).rows)).set 12 (bS (ts.getD i default).f.keys))=(az (half ts (i + 1))).rows from congrArg CD.rows hset]
   exact aI _
  ·simp only [nrm,xdn,reduceIte,Nat.reduceLT,Nat.reduceSub,Nat.reduceAdd,Int.toNat_natCast,CD.ax,aC]
   rw [hset];rfl
  ·simp only [nrm,xdn,reduceIte,Nat.reduceLT,Nat.reduceSub,Nat.reduceAdd];omega
 ·simp only [nrm,xdn,reduceIte,Nat.reduceLT,Nat.reduceSub,Nat.reduceAdd,cJ] at h1
  have : i=ts.length:=by omega
  subst this
  refine ag (by simp only [nrm,xdn,reduceIte,Nat.reduceLT,Nat.reduceSub,Nat.reduceAdd];exact aI _) (aj ?_)
  simp only [nrm,xdn,reduceIte,Nat.reduceLT,Nat.reduceSub,Nat.reduceAdd,DM,Mem.cds]
  rfl
end Go.Proofs.Ytpmamacjepcdmaa

namespace Go.Proofs.Ytpmamacjepcdmaa
open Go Go.Sy Go.RowKit
set_option linter.unusedSimpArgs false
set_option linter.unusedVariables false
def s215 : Sig:=⟨[.one (.own 3 kI),.one (.int .i64),.one (.int .i64)],[.one (.own 3 kI)]⟩
def d215 : DC:=⟨s215,fun l=>0≤(l.getD 1 .u).int∧(l.getD 1 .u).int≤(l.getD 2 .u).int∧(l.getD 2 .u).int≤(l.getD 0 .u).ints.length,fun l=>[af ((l.getD 0 .u).ints.take (l.getD 1 .u).int.toNat ++ (l.getD 0 .u).ints.drop (l.getD 2 .u).int.toNat)]⟩
def l215 : List (Nat × Ct):=[]
def z215 : Cx:={ T:=ttA,C:=sigs l215,F:=[],hints:=[],sig:=s215}
def t215 : Tree :=
 (.need (.le (.int 0) (.var 1))
 (.need (.le (.var 1) (.var 2))
 (.need (.le (.var 2) (.len (.var 0)))
 (.ite (.eq (.var 1) (.var 2))
 (.ret [.var 0])
 (.need (.le (.var 1) (.len (.var 0)))
 (.need (.le (.int 0) (.var 2))
 (.need (.le (.add (.var 1) (.sub (.len (.var 0)) (.var 2))) (.len (.var 0)))
 (.need (.le (.add (.var 2) (.sub (.len (.var 0)) (.var 2))) (.len (.var 0)))
 (.need (.le (.int 0) (.add (.var 1) (.sub (.len (.var 0)) (.var 2))))
 (.need (.le (.len (.var 0)) (.add (.len (.take (.var 1) (.var 0))) (.add (.len (.take (.sub (.len (.var 0)) (.var 2)) (.drop (.var 2) (.var 0)))) (.len (.drop (.add (.var 1) (.sub (.len (.var 0)) (.var 2))) (.var 0))))))
 (.need (.le (.add (.add (.var 1) (.sub (.len (.var 0)) (.var 2))) (.sub (.len (.var 0)) (.add (.var 1) (.sub (.len (.var 0)) (.var 2))))) (.add (.len (.take (.var 1) (.var 0))) (.add (.len (.take (.sub (.len (.var 0)) (.var 2)) (.drop (.var 2) (.var 0)))) (.len (.drop (.add (.var 1) (.sub (.len (.var 0)) (.var 2))) (.var 0))))))
 (.need (.le (.add (.var 1) (.sub (.len (.var 0)) (.var 2))) (.add (.len (.take (.add (.var 1) (.sub (.len (.var 0)) (.var 2))) (.app (.take (.var 1) (.var 0)) (.app (.take (.sub (.len (.var 0)) (.var 2)) (.drop (.var 2) (.var 0))) (.drop (.add (.var 1) (.sub (.len (.var 0)) (.var 2))) (.var 0)))))) (.add (.len (.rep (.sub (.len (.var 0)) (.add (.var 1) (.sub (.len (.var 0)) (.var 2)))) (.cons (.int 0) .row0))) (.len (.drop (.add (.add (.var 1) (.sub (.len (.var 0)) (.var 2))) (.sub (.len (.var 0)) (.add (.var 1) (.sub (.len (.var 0)) (.var 2))))) (.app (.take (.var 1) (.var 0)) (.app (.take (.sub (.len (.var 0)) (.var 2)) (.drop (.var 2) (.var 0))) (.drop (.add (.var 1) (.sub (.len (.var 0)) (.var 2))) (.var 0)))))))))
 (.ret [.take (.add (.var 1) (.sub (.len (.var 0)) (.var 2))) (.app (.take (.add (.var 1) (.sub (.len (.var 0)) (.var 2))) (.app (.take (.var 1) (.var 0)) (.app (.take (.sub (.len (.var 0)) (.var 2)) (.drop (.var 2) (.var 0))) (.drop (.add (.var 1) (.sub (.len (.var 0)) (.var 2))) (.var 0))))) (.app (.rep (.sub (.len (.var 0)) (.add (.var 1) (.sub (.len (.var 0)) (.var 2)))) (.cons (.int 0) .row0)) (.drop (.add (.add (.var 1) (.sub (.len (.var 0)) (.var 2))) (.sub (.len (.var 0)) (.add (.var 1) (.sub (.len (.var 0)) (.var 2))))) (.app (.take (.var 1) (.var 0)) (.app (.take (.sub (.len (.var 0)) (.var 2)) (.drop (.var 2) (.var 0))) (.drop (.add (.var 1) (.sub (.len (.var 0)) (.var 2))) (.var 0)))))))])))))))))))))
theorem run215 : run z215 6000 [.code (Try.f215.body.getD .skip),.fin (bt z215 Try.f215.results.toList 50)] { fn:=215,tmps:=z215.sig.aM ++ List.replicate (Try.f215.ntmps - z215.sig.aM.length) (.v (.one .undef)),stk:=[],h:=z215.sig.h0,nx:=z215.sig.ins.length,known:=[]}=t215:=by kernel_rfl
theorem ok215 : cB Try.prog 215 d215.ct:=by
 refine aD (d:=d215) (Z:=z215) (Γ:=gam l215) (fn:=Try.f215) (c:=Try.f215.body.getD .skip) (bg tok mixed all_nil bh) Try.func215 (by kernel_rfl) (by kernel_rfl) rfl run215 fun E hk hp=>?_
 obtain ⟨hk0,hk1,hk2,_⟩:=hk
 obtain ⟨l,e0,b0⟩:=iL (d:=E 0) hk0
 have b0 : l.length * 8≤140737488355328:=b0
 obtain ⟨x,e1⟩:=ok_int (d:=E 1) hk1
 obtain ⟨x2,e2⟩:=ok_int (d:=E 2) hk2
 have el : aH E d215.sig.ins.length=[af l,.i x,.i x2]:=by
  show [E 0,E 1,E 2]=_
  rw [e0,e1,e2]
 rw [el] at hp
 rw [el]
 rw [Env.bJ el]
 clear el e0 e1 e2
 simp only [d215,List.getD_cons_zero,List.getD_cons_succ,CD.aR,bY] at hp ⊢
 obtain ⟨p0,p1,p2⟩:=hp
 obtain ⟨i,rfl⟩ : ∃ i : Nat,x=i:=⟨x.toNat,by omega⟩
 obtain ⟨j,rfl⟩ : ∃ j : Nat,x2=j:=⟨x2.toNat,by omega⟩
 simp only [Int.toNat_natCast]
 unfold t215
 have hf : ∀ l : List Int,(af l).rows=l.map fun n=>[CD.i n]:=fun _=>rfl
 refine ag (by simp only [nrm,xdn,reduceIte,Nat.reduceLT,Nat.reduceSub,Nat.reduceAdd];omega) (ag (by simp only [nrm,xdn,reduceIte,Nat.reduceLT,Nat.reduceSub,Nat.reduceAdd];omega) (ag (by simp only [nrm,xdn,reduceIte,Nat.reduceLT,Nat.reduceSub,Nat.reduceAdd,aw];omega) (G0 (fun h=>aj ?_) (fun h=>?_))))
 ·simp only [nrm,xdn,reduceIte,Nat.reduceLT,Nat.reduceSub,Nat.reduceAdd] at h ⊢
  have : i=j:=by omega
  subst this
  rw [List.take_append_drop]
 simp only [nrm,xdn,reduceIte,Nat.reduceLT,Nat.reduceSub,Nat.reduceAdd] at h
 have hij : ¬ (i : Int)=j:=by simpa using h
 repeat refine ag (by simp only [nrm,xdn,reduceIte,Nat.reduceLT,Nat.reduceSub,Nat.reduceAdd,hf,List.length_take,List.length_drop,List.length_append,List.length_replicate,List.length_map];omega) ?_
 refine aj ?_
 simp only [nrm,xdn,reduceIte,Nat.reduceLT,Nat.reduceSub,Nat.reduceAdd,hf,List.length_map,Int.toNat_natCast]
 have en : ((i : Int) + ((l.length : Int) - (j : Int))).toNat=i + ((l.map fun n=>[CD.i n]).length - j):=by rw [List.length_map];omega
 have em : ((l.length : Int) - (j : Int)).toNat=(l.map fun n=>[CD.i n]).length - j:=by rw [List.length_map];omega
 rw [en,em,x8 (by omega) (by rw [List.length_map];omega)]
 simp only [af,List.map_append,List.map_take,List.map_drop]
def tsk (w : Wrd) (x : Int) : Tsk:=w.ts.getD x.toNat default
def Wrd.at (w : Wrd) (x : Int) (h : Tsk→Tsk) : Wrd:=⟨w.m,w.ts.modify x.toNat h⟩
def eR (w : Wrd) (x : Int) (c : Cal) : Wrd × Int :=
 if (tsk w x).busy=true then (w,8)
 else if bf w.m c≠0 then (w,bf w.m c)
 else if (tsk w x).held.length=100∧c.kind=1 then (w,7)
 else if c.kind=6∧c.slot ∉ (tsk w x).held then (w,6)
 else (w.at x fun t=>{ t with busy:=true,f:=aX c},0)
theorem hd_own {t : Tsk} (h : t.own=true) : t.hd=o8 t.held:=by unfold Tsk.hd;rw [h];rfl
theorem gZ {t : Tsk} (h : t.own=true) : t.iv=t.rw (o8 t.held):=by unfold Tsk.iv;rw [hd_own h]
theorem sX {α : Type} : ∀ (l : List α) (i : Nat),l.modify i (fun x=>x)=l
 | [],i=>by simp
 | _ :: _,0=>by simp
 | _ :: l,i + 1=>by simp [sX l i]
theorem cls {l : List Tsk} {r : List (List CD)} (h : CD.l r=az l) : (r.all fun r=>!(r.getD 15 .u).isH)=true:=by
 rw [show r=(az l).rows from congrArg CD.rows h];exact aI l
theorem put_A {ts : List Tsk} {k : Nat} {t : Tsk} (ht : ts.getD k default=t) (hto : t.own=true) (b : Bool) (f : Frm) : CD.l ((az ts).rows.modify k fun r=>((((((((((((((((r.set 15 (.o (af t.held).rows)).set 0 (.b b)).set 1 (.i f.c.kind)).set 2 (.i f.c.k.a)).set 3 (.i f.c.k.b)).set 4 (.i f.c.time)).set 5 (.i f.c.bucket)).set 6 (.i f.c.slot)).set 7 (.i f.pc)).set 8 (.i f.cur)).set 9 (.i f.prev)).set 10 (.i f.slot)).set 11 (.i f.n)).set 12 (bS f.keys)).set 13 (.b f.done)).set 14 (.i f.e)))=az (ts.modify k fun t=>{ t with busy:=b,f:=f}) :=
 gH (by rw [ht,gZ hto];simp only [Tsk.iv,Tsk.hd,hto,if_true];rfl)
theorem Jo {ts : List Tsk} {k : Nat} {t : Tsk} (ht : ts.getD k default=t) (hto : t.own=true) (b : Bool) (f : Frm) : CD.l ((az ts).rows.modify k fun r=>(((((((((((((((r.set 1 (.i f.c.kind)).set 2 (.i f.c.k.a)).set 3 (.i f.c.k.b)).set 4 (.i f.c.time)).set 5 (.i f.c.bucket)).set 6 (.i f.c.slot)).set 7 (.i f.pc)).set 8 (.i f.cur)).set 9 (.i f.prev)).set 10 (.i f.slot)).set 11 (.i f.n)).set 12 (bS f.keys)).set 13 (.b f.done)).set 14 (.i f.e)).set 0 (.b b)))=az (ts.modify k fun t=>{ t with busy:=b,f:=f}) :=
 gH (by rw [ht,gZ hto];simp only [Tsk.iv,Tsk.hd,hto,if_true];rfl)
theorem put_C {ts : List Tsk} {k : Nat} {t : Tsk} (ht : ts.getD k default=t) (hto : t.own=true) (b : Bool) (f : Frm) (l : List Int) : CD.l ((az ts).rows.modify k fun r=>((((((((((((((((r.set 1 (.i f.c.kind)).set 2 (.i f.c.k.a)).set 3 (.i f.c.k.b)).set 4 (.i f.c.time)).set 5 (.i f.c.bucket)).set 6 (.i f.c.slot)).set 7 (.i f.pc)).set 8 (.i f.cur)).set 9 (.i f.prev)).set 10 (.i f.slot)).set 11 (.i f.n)).set 12 (bS f.keys)).set 13 (.b f.done)).set 14 (.i f.e)).set 15 (.o (af l).rows)).set 0 (.b b)))=az (ts.modify k fun t=>{ t with busy:=b,f:=f,held:=l}) :=
 gH (by rw [ht,gZ hto];simp only [Tsk.iv,Tsk.hd,hto,if_true];rfl)
theorem put_D {ts : List Tsk} {k : Nat} {t : Tsk} (ht : ts.getD k default=t) (hto : t.own=true) (b : Bool) (f : Frm) (l : List Int) : CD.l ((az ts).rows.modify k fun r=>((((((((((((((((r.set 15 (.o (af l).rows)).set 1 (.i f.c.kind)).set 2 (.i f.c.k.a)).set 3 (.i f.c.k.b)).set 4 (.i f.c.time)).set 5 (.i f.c.bucket)).set 6 (.i f.c.slot)).set 7 (.i f.pc)).set 8 (.i f.cur)).set 9 (.i f.prev)).set 10 (.i f.slot)).set 11 (.i f.n)).set 12 (bS f.keys)).set 13 (.b f.done)).set 14 (.i f.e)).set 0 (.b b)))=az (ts.modify k fun t=>{ t with busy:=b,f:=f,held:=l}) :=
 gH (by rw [ht,gZ hto];simp only [Tsk.iv,Tsk.hd,hto,if_true];rfl)
def s209 : Sig:=⟨[.ptr [.own 52 kS,.own 3 kI,.own 3 kI,.own 3 kI,.int .i64,.own 129 kTo],.one (.int .i64),.agg [.int .i64,.int .i64,.int .i64,.int .i64,.int .i64,.int .i64]],[.one (.int .i64)]⟩
def d209 : DC:=⟨s209,fun l=>0≤(l.getD 6 .u).int∧(l.getD 6 .u).int < (Wrd.of l).ts.length∧∀ t∈(Wrd.of l).ts,t.own=true,fun l=>(eR (Wrd.of l) (l.getD 6 .u).int (Cal.of (l.drop 7))).1.cds ++ [.i (eR (Wrd.of l) (l.getD 6 .u).int (Cal.of (l.drop 7))).2]⟩
theorem fX (a : List bp) (b c d : List Int) (n : Int) (ts : List Tsk) (l : List CD) : Wrd.of (au a :: af b :: af c :: af d :: .i n :: az ts :: l)=⟨⟨a,b,c,d,n⟩,ts⟩:=by
 simp only [Wrd.of,mem_of,List.getD_cons_zero,List.getD_cons_succ,jH]
def l209 : List (Nat × Ct):=[(40,d40.ct),(98,d98.ct),(41,d41.ct)]
def z209 : Cx:={ T:=ttA,C:=sigs l209,F:=[],hints:=[],sig:=s209}
def t209 : Tree :=
 (.need (.le (.int 0) (.var 6))
 (.need (.lt (.var 6) (.len (.var 5)))
 (.ite (.cell (.var 5) (.var 6) 0)
 (.need (.clean (.var 5) 15)
 (.ret [.var 0,.var 1,.var 2,.var 3,.var 4,.var 5,.int 8]))
 (.call 40 [.var 0,.var 1,.var 2,.var 3,.var 4,.var 7,.var 8,.var 9,.var 10,.var 11,.var 12] 13
 (.ite (.not (.eq (.var 13) (.int 0)))
 (.need (.clean (.var 5) 15)
 (.ret [.var 0,.var 1,.var 2,.var 3,.var 4,.var 5,.var 13]))
 (.need (.isO (.cell (.var 5) (.var 6) 15))
 (.ite (.eq (.len (.shut (.cell (.var 5) (.var 6) 15))) (.int 100))
 (.ite (.eq (.var 7) (.int 1))
 (.need (.clean (.set (.var 5) (.var 6) 15 (.own (.shut (.cell (.var 5) (.var 6) 15)))) 15)
 (.ret [.var 0,.var 1,.var 2,.var 3,.var 4,.set (.var 5) (.var 6) 15 (.own (.shut (.cell (.var 5) (.var 6) 15))),.int 7]))
 (.ite (.eq (.var 7) (.int 6))
 (.call 98 [.shut (.cell (.var 5) (.var 6) 15),.var 12] 14
 (.ite (.not (.var 14))
 (.need (.clean (.set (.var 5) (.var 6) 15 (.own (.shut (.cell (.var 5) (.var 6) 15)))) 15)
 (.ret [.var 0,.var 1,.var 2,.var 3,.var 4,.set (.var 5) (.var 6) 15 (.own (.shut (.cell (.var 5) (.var 6) 15))),.int 6]))
 (.call 41 [.var 7,.var 8,.var 9,.var 10,.var 11,.var 12] 15
 (.need (.clean (.set (.set (.set (.set (.set (.set (.set (.set (.set (.set (.set (.set (.set (.set (.set (.set (.var 5) (.var 6) 15 (.own (.shut (.cell (.var 5) (.var 6) 15)))) (.var 6) 0 (.bool true)) (.var 6) 1 (.var 15)) (.var 6) 2 (.var 16)) (.var 6) 3 (.var 17)) (.var 6) 4 (.var 18)) (.var 6) 5 (.var 19)) (.var 6) 6 (.var 20)) (.var 6) 7 (.var 21)) (.var 6) 8 (.var 22)) (.var 6) 9 (.var 23)) (.var 6) 10 (.var 24)) (.var 6) 11 (.var 25)) (.var 6) 12 (.var 26)) (.var 6) 13 (.var 27)) (.var 6) 14 (.var 28)) 15)
 (.ret [.var 0,.var 1,.var 2,.var 3,.var 4,.set (.set (.set (.set (.set (.set (.set (.set (.set (.set (.set (.set (.set (.set (.set (.set (.var 5) (.var 6) 15 (.own (.shut (.cell (.var 5) (.var 6) 15)))) (.var 6) 0 (.bool true)) (.var 6) 1 (.var 15)) (.var 6) 2 (.var 16)) (.var 6) 3 (.var 17)) (.var 6) 4 (.var 18)) (.var 6) 5 (.var 19)) (.var 6) 6 (.var 20)) (.var 6) 7 (.var 21)) (.var 6) 8 (.var 22)) (.var 6) 9 (.var 23)) (.var 6) 10 (.var 24)) (.var 6) 11 (.var 25)) (.var 6) 12 (.var 26)) (.var 6) 13 (.var 27)) (.var 6) 14 (.var 28),.int 0])))))
 (.call 41 [.var 7,.var 8,.var 9,.var 10,.var 11,.var 12] 14
 (.need (.clean (.set (.set (.set (.set (.set (.set (.set (.set (.set (.set (.set (.set (.set (.set (.set (.set (.var 5) (.var 6) 15 (.own (.shut (.cell (.var 5) (.var 6) 15)))) (.var 6) 0 (.bool true)) (.var 6) 1 (.var 14)) (.var 6) 2 (.var 15)) (.var 6) 3 (.var 16)) (.var 6) 4 (.var 17)) (.var 6) 5 (.var 18)) (.var 6) 6 (.var 19)) (.var 6) 7 (.var 20)) (.var 6) 8 (.var 21)) (.var 6) 9 (.var 22)) (.var 6) 10 (.var 23)) (.var 6) 11 (.var 24)) (.var 6) 12 (.var 25)) (.var 6) 13 (.var 26)) (.var 6) 14 (.var 27)) 15)
 (.ret [.var 0,.var 1,.var 2,.var 3,.var 4,.set (.set (.set (.set (.set (.set (.set (.set (.set (.set (.set (.set (.set (.set (.set (.set (.var 5) (.var 6) 15 (.own (.shut (.cell (.var 5) (.var 6) 15)))) (.var 6) 0 (.bool true)) (.var 6) 1 (.var 14)) (.var 6) 2 (.var 15)) (.var 6) 3 (.var 16)) (.var 6) 4 (.var 17)) (.var 6) 5 (.var 18)) (.var 6) 6 (.var 19)) (.var 6) 7 (.var 20)) (.var 6) 8 (.var 21)) (.var 6) 9 (.var 22)) (.var 6) 10 (.var 23)) (.var 6) 11 (.var 24)) (.var 6) 12 (.var 25)) (.var 6) 13 (.var 26)) (.var 6) 14 (.var 27),.int 0])))))
 (.ite (.eq (.var 7) (.int 6))
 (.call 98 [.shut (.cell (.var 5) (.var 6) 15),.var 12] 14
 (.ite (.not (.var 14))
 (.need (.clean (.set (.var 5) (.var 6) 15 (.own (.shut (.cell (.var 5) (.var 6) 15)))) 15)
 (.ret [.var 0,.var 1,.var 2,.var 3,.var 4,.set (.var 5) (.var 6) 15 (.own (.shut (.cell (.var 5) (.var 6) 15))),.int 6]))
 (.call 41 [.var 7,.var 8,.var 9,.var 10,.var 11,.var 12] 15
 (.need (.clean (.set (.set (.set (.set (.set (.set (.set (.set (.set (.set (.set (.set (.set (.set (.set (.set (.var 5) (.var 6) 15 (.own (.shut (.cell (.var 5) (.var 6) 15)))) (.var 6) 0 (.bool true)) (.var 6) 1 (.var 15)) (.var 6) 2 (.var 16)) (.var 6) 3 (.var 17)) (.var 6) 4 (.var 18)) (.var 6) 5 (.var 19)) (.var 6) 6 (.var 20)) (.var 6) 7 (.var 21)) (.var 6) 8 (.var 22)) (.var 6) 9 (.var 23)) (.var 6) 10 (.var 24)) (.var 6) 11 (.var 25)) (.var 6) 12 (.var 26)) (.var 6) 13 (.var 27)) (.var 6) 14 (.var 28)) 15)
 (.ret [.var 0,.var 1,.var 2,.var 3,.var 4,.set (.set (.set (.set (.set (.set (.set (.set (.set (.set (.set (.set (.set (.set (.set (.set (.var 5) (.var 6) 15 (.own (.shut (.cell (.var 5) (.var 6) 15)))) (.var 6) 0 (.bool true)) (.var 6) 1 (.var 15)) (.var 6) 2 (.var 16)) (.var 6) 3 (.var 17)) (.var 6) 4 (.var 18)) (.var 6) 5 (.var 19)) (.var 6) 6 (.var 20)) (.var 6) 7 (.var 21)) (.var 6) 8 (.var 22)) (.var 6) 9 (.var 23)) (.var 6) 10 (.var 24)) (.var 6) 11 (.var 25)) (.var 6) 12 (.var 26)) (.var 6) 13 (.var 27)) (.var 6) 14 (.var 28),.int 0])))))
 (.call 41 [.var 7,.var 8,.var 9,.var 10,.var 11,.var 12] 14
 (.need (.clean (.set (.set (.set (.set (.set (.set (.set (.set (.set (.set (.set (.set (.set (.set (.set (.set (.var 5) (.var 6) 15 (.own (.shut (.cell (.var 5) (.var 6) 15)))) (.var 6) 0 (.bool true)) (.var 6) 1 (.var 14)) (.var 6) 2 (.var 15)) (.var 6) 3 (.var 16)) (.var 6) 4 (.var 17)) (.var 6) 5 (.var 18)) (.var 6) 6 (.var 19)) (.var 6) 7 (.var 20)) (.var 6) 8 (.var 21)) (.var 6) 9 (.var 22)) (.var 6) 10 (.var 23)) (.var 6) 11 (.var 24)) (.var 6) 12 (.var 25)) (.var 6) 13 (.var 26)) (.var 6) 14 (.var 27)) 15)
 (.ret [.var 0,.var 1,.var 2,.var 3,.var 4,.set (.set (.set (.set (.set (.set (.set (.set (.set (.set (.set (.set (.set (.set (.set (.set (.var 5) (.var 6) 15 (.own (.shut (.cell (.var 5) (.var 6) 15)))) (.var 6) 0 (.bool true)) (.var 6) 1 (.var 14)) (.var 6) 2 (.var 15)) (.var 6) 3 (.var 16)) (.var 6) 4 (.var 17)) (.var 6) 5 (.var 18)) (.var 6) 6 (.var 19)) (.var 6) 7 (.var 20)) (.var 6) 8 (.var 21)) (.var 6) 9 (.var 22)) (.var 6) 10 (.var 23)) (.var 6) 11 (.var 24)) (.var 6) 12 (.var 25)) (.var 6) 13 (.var 26)) (.var 6) 14 (.var 27),.int 0])))))))))))
theorem run209 : run z209 6000 [.code (Try.f209.body.getD .skip),.fin (bt z209 Try.f209.results.toList 50)] { fn:=209,tmps:=z209.sig.aM ++ List.replicate (Try.f209.ntmps - z209.sig.aM.length) (.v (.one .undef)),stk:=[],h:=z209.sig.h0,nx:=z209.sig.ins.length,known:=[]}=t209:=by kernel_rfl
theorem ok209 : cB Try.prog 209 d209.ct:=by
 refine aD (d:=d209) (Z:=z209) (Γ:=gam l209) (fn:=Try.f209) (c:=Try.f209.body.getD .skip) (bg tok mixed (all_cons ok40 (all_cons ok98 (all_cons ok41 all_nil))) bh) Try.func209 (by kernel_rfl) (by kernel_rfl) rfl run209 fun E hk hp=>?_
 obtain ⟨hk0,hk1,hk2,hk3,hk4,hk5,hk6,hk7,hk8,hk9,hk10,hk11,hk12,_⟩:=hk
 obtain ⟨m,e0,e1,e2,e3,e4,b0,b1,b2,b3⟩:=cv (d0:=E 0) (d1:=E 1) (d2:=E 2) (d3:=E 3) (d4:=E 4) hk0 hk1 hk2 hk3 hk4
 obtain ⟨ts,e5,hts,b5⟩:=qf (d:=E 5) hk5
 have b5 : ts.length * 160≤140737488355328:=b5
 obtain ⟨x,e6⟩:=ok_int (d:=E 6) hk6
 obtain ⟨c,e7,e8,e9,e10,e11,e12⟩:=kR (d0:=E 7) (d1:=E 8) (d2:=E 9) (d3:=E 10) (d4:=E 11) (d5:=E 12) hk7 hk8 hk9 hk10 hk11 hk12
 have el : aH E d209.sig.ins.length=[au m.slots,af m.heads,af m.free,af m.ae,.i m.now,az ts,.i x,.i c.kind,.i c.k.a,.i c.k.b,.i c.time,.i c.bucket,.i c.slot]:=by
  show [E 0,E 1,E 2,E 3,E 4,E 5,E 6,E 7,E 8,E 9,E 10,E 11,E 12]=_
  rw [e0,e1,e2,e3,e4,e5,e6,e7,e8,e9,e10,e11,e12]
 rw [el] at hp
 rw [el]
 rw [Env.bJ el]
 clear el e0 e1 e2 e3 e4 e5 e6 e7 e8 e9 e10 e11 e12
 simp only [d209,fX,List.getD_cons_zero,List.getD_cons_succ,CD.aR,aA,List.drop_succ_cons,List.drop_zero,fG,cz] at hp ⊢
 obtain ⟨p0,p1,p2⟩:=hp
 obtain ⟨k,rfl⟩ : ∃ k : Nat,x=k:=⟨x.toNat,by omega⟩
 have hk : k < ts.length:=by omega
 obtain ⟨t,ht⟩ : ∃ t,ts.getD k default=t:=⟨_,rfl⟩
 have hto : t.own=true:=p2 _ (ht ▸ fc hk)
 have htt : tsk ⟨m,ts⟩ k=t:=by unfold tsk;rw [Int.toNat_natCast];exact ht
 have e0 : ((az ts).rows.getD k []).getD 0 .u=.b t.busy:=by rw [cO 0 hk,ht];rfl
 have e15 : ((az ts).rows.getD k []).getD 15 .u=o8 t.held:=by rw [cO 15 hk,ht,gZ hto];rfl
 have eo : (o8 t.held).isO=true:=rfl
 have es : (o8 t.held).shut=af t.held:=rfl
 have h0 : CD.l ((az ts).rows.modify k fun r=>r.set 15 (.o (af t.held).rows))=az ts:=by
  have:=gH (l:=ts) (i:=k) (g:=fun r=>r.set 15 (.o (af t.held).rows)) (h:=fun t=>t) (by rw [ht,gZ hto];rfl)
  rw [this,sX]
 have hB:=put_A ht hto true (aX c)
 unfold eR
 rw [htt]
 unfold t209
 refine ag (by simp only [nrm,xdn,reduceIte,Nat.reduceLT,Nat.reduceSub,Nat.reduceAdd];omega) (ag (by simp only [nrm,xdn,reduceIte,Nat.reduceLT,Nat.reduceSub,Nat.reduceAdd,eK];omega) (G0 (fun h=>?_) (fun h=>?_)))
 ·simp only [nrm,xdn,reduceIte,Nat.reduceLT,Nat.reduceSub,Nat.reduceAdd,Int.toNat_natCast,e0] at h
  rw [if_pos h]
  refine ag (by simp only [nrm,xdn,reduceIte,Nat.reduceLT,Nat.reduceSub,Nat.reduceAdd];exact aI ts) (aj ?_)
  simp only [nrm,xdn,reduceIte,Nat.reduceLT,Nat.reduceSub,Nat.reduceAdd,Wrd.cds,Mem.cds,lca]
 simp only [nrm,xdn,reduceIte,Nat.reduceLT,Nat.reduceSub,Nat.reduceAdd,Int.toNat_natCast,e0] at h
 rw [if_neg (by rw [h];exact Bool.false_ne_true)]
 refine ai d40 [.i (bf m c)] rfl trivial (by simp only [nrm,xdn,reduceIte,Nat.reduceLT,Nat.reduceSub,Nat.reduceAdd,d40,mem_of,aA,fG,cz,List.drop_succ_cons,List.drop_zero]) (G0 (fun h1=>?_) (fun h1=>?_))
 ·simp only [nrm,xdn,reduceIte,Nat.reduceLT,Nat.reduceSub,Nat.reduceAdd] at h1
  rw [if_pos (by simpa using h1)]
  refine ag (by simp only [nrm,xdn,reduceIte,Nat.reduceLT,Nat.reduceSub,Nat.reduceAdd];exact aI ts) (aj ?_)
  simp only [nrm,xdn,reduceIte,Nat.reduceLT,Nat.reduceSub,Nat.reduceAdd,Wrd.cds,Mem.cds,lca]
 simp only [nrm,xdn,reduceIte,Nat.reduceLT,Nat.reduceSub,Nat.reduceAdd] at h1
 rw [if_neg (by simpa using h1)]
 refine ag (by simp only [nrm,xdn,reduceIte,Nat.reduceLT,Nat.reduceSub,Nat.reduceAdd,Int.toNat_natCast,e15,eo]) (G0 (fun h2=>?_) (fun h2=>?_))
 ·simp only [nrm,xdn,reduceIte,Nat.reduceLT,Nat.reduceSub,Nat.reduceAdd,Int.toNat_natCast,e15,es,aw] at h2
  refine G0 (fun h3=>?_) (fun h3=>?_)
  ·simp only [nrm,xdn,reduceIte,Nat.reduceLT,Nat.reduceSub,Nat.reduceAdd] at h3
   rw [if_pos ⟨by omega,h3⟩]
   refine ag (by simp only [nrm,xdn,reduceIte,Nat.reduceLT,Nat.reduceSub,Nat.reduceAdd,Int.toNat_natCast,e15,es,CD.ax];exact cls h0) (aj ?_)
   simp only [nrm,xdn,reduceIte,Nat.reduceLT,Nat.reduceSub,Nat.reduceAdd,Int.toNat_natCast,e15,es,CD.ax,h0,Wrd.cds,Mem.cds,lca]
  simp only [nrm,xdn,reduceIte,Nat.reduceLT,Nat.reduceSub,Nat.reduceAdd] at h3
  rw [if_neg (fun x=>h3 x.2)]
  refine G0 (fun h3=>?_) (fun h3=>?_)
  ·simp only [nrm,xdn,reduceIte,Nat.reduceLT,Nat.reduceSub,Nat.reduceAdd] at h3
   refine ai d98 [.b (decide (c.slot∈t.held))] rfl trivial (by simp only [nrm,xdn,reduceIte,Nat.reduceLT,Nat.reduceSub,Nat.reduceAdd,Int.toNat_natCast,e15,es,d98,bY]) (G0 (fun h4=>?_) (fun h4=>?_))
   ·simp only [nrm,xdn,reduceIte,Nat.reduceLT,Nat.reduceSub,Nat.reduceAdd] at h4
    have h4 : c.slot ∉ t.held:=by simpa using h4
    rw [if_pos ⟨h3,h4⟩]
    refine ag (by simp only [nrm,xdn,reduceIte,Nat.reduceLT,Nat.reduceSub,Nat.reduceAdd,Int.toNat_natCast,e15,es,CD.ax];exact cls h0) (aj ?_)
    simp only [nrm,xdn,reduceIte,Nat.reduceLT,Nat.reduceSub,Nat.reduceAdd,Int.toNat_natCast,e15,es,CD.ax,h0,Wrd.cds,Mem.cds,lca]
   simp only [nrm,xdn,reduceIte,Nat.reduceLT,Nat.reduceSub,Nat.reduceAdd] at h4
   have h4 : c.slot∈t.held:=by simpa using h4
   rw [if_neg (fun x=>x.2 h4)]
   refine ai d41 (aX c).cds rfl trivial (by simp only [nrm,xdn,reduceIte,Nat.reduceLT,Nat.reduceSub,Nat.reduceAdd,d41,fG,cz]) (ag ?_ (aj ?_))
   ·simp only [nrm,xdn,reduceIte,Nat.reduceLT,Nat.reduceSub,Nat.reduceAdd,Int.toNat_natCast,e15,es,CD.ax,aC,Frm.cds]
    exact cls hB
   ·simp only [nrm,xdn,reduceIte,Nat.reduceLT,Nat.reduceSub,Nat.reduceAdd,Int.toNat_natCast,e15,es,CD.ax,aC,Frm.cds,hB,Wrd.cds,Wrd.at,Mem.cds,lca]
  ·simp only [nrm,xdn,reduceIte,Nat.reduceLT,Nat.reduceSub,Nat.reduceAdd] at h3
   rw [if_neg (fun x=>h3 x.1)]
   refine ai d41 (aX c).cds rfl trivial (by simp only [nrm,xdn,reduceIte,Nat.reduceLT,Nat.reduceSub,Nat.reduceAdd,d41,fG,cz]) (ag ?_ (aj ?_))
   ·simp only [nrm,xdn,reduceIte,Nat.reduceLT,Nat.reduceSub,Nat.reduceAdd,Int.toNat_natCast,e15,es,CD.ax,aC,Frm.cds]
    exact cls hB
   ·simp only [nrm,xdn,reduceIte,Nat.reduceLT,Nat.reduceSub,Nat.reduceAdd,Int.toNat_natCast,e15,es,CD.ax,aC,Frm.cds,hB,Wrd.cds,Wrd.at,Mem.cds,lca]
 ·simp only [nrm,xdn,reduceIte,Nat.reduceLT,Nat.reduceSub,Nat.reduceAdd,Int.toNat_natCast,e15,es,aw] at h2
  rw [if_neg (fun x=>h2 (by omega))]
  refine G0 (fun h3=>?_) (fun h3=>?_)
  ·simp only [nrm,xdn,reduceIte,Nat.reduceLT,Nat.reduceSub,Nat.reduceAdd] at h3
   refine ai d98 [.b (decide (c.slot∈t.held))] rfl trivial (by simp only [nrm,xdn,reduceIte,Nat.reduceLT,Nat.reduceSub,Nat.reduceAdd,Int.toNat_natCast,e15,es,d98,bY]) (G0 (fun h4=>?_) (fun h4=>?_))
   ·simp only [nrm,xdn,reduceIte,Nat.reduceLT,Nat.reduceSub,Nat.reduceAdd] at h4
    have h4 : c.slot ∉ t.held:=by simpa using h4
    rw [if_pos ⟨h3,h4⟩]
    refine ag (by simp only [nrm,xdn,reduceIte,Nat.reduceLT,Nat.reduceSub,Nat.reduceAdd,Int.toNat_natCast,e15,es,CD.ax];exact cls h0) (aj ?_)
    simp only [nrm,xdn,reduceIte,Nat.reduceLT,Nat.reduceSub,Nat.reduceAdd,Int.toNat_natCast,e15,es,CD.ax,h0,Wrd.cds,Mem.cds,lca]
   simp only [nrm,xdn,reduceIte,Nat.reduceLT,Nat.reduceSub,Nat.reduceAdd] at h4
   have h4 : c.slot∈t.held:=by simpa using h4
   rw [if_neg (fun x=>x.2 h4)]
   refine ai d41 (aX c).cds rfl trivial (by simp only [nrm,xdn,reduceIte,Nat.reduceLT,Nat.reduceSub,Nat.reduceAdd,d41,fG,cz]) (ag ?_ (aj ?_))
   ·simp only [nrm,xdn,reduceIte,Nat.reduceLT,Nat.reduceSub,Nat.reduceAdd,Int.toNat_natCast,e15,es,CD.ax,aC,Frm.cds]
    exact cls hB
   ·simp only [nrm,xdn,reduceIte,Nat.reduceLT,Nat.reduceSub,Nat.reduceAdd,Int.toNat_natCast,e15,es,CD.ax,aC,Frm.cds,hB,Wrd.cds,Wrd.at,Mem.cds,lca]
  ·simp only [nrm,xdn,reduceIte,Nat.reduceLT,Nat.reduceSub,Nat.reduceAdd] at h3
   rw [if_neg (fun x=>h3 x.1)]
   refine ai d41 (aX c).cds rfl trivial (by simp only [nrm,xdn,reduceIte,Nat.reduceLT,Nat.reduceSub,Nat.reduceAdd,d41,fG,cz]) (ag ?_ (aj ?_))
   ·simp only [nrm,xdn,reduceIte,Nat.reduceLT,Nat.reduceSub,Nat.reduceAdd,Int.toNat_natCast,e15,es,CD.ax,aC,Frm.cds]
    exact cls hB
   ·simp only [nrm,xdn,reduceIte,Nat.reduceLT,Nat.reduceSub,Nat.reduceAdd,Int.toNat_natCast,e15,es,CD.ax,aC,Frm.cds,hB,Wrd.cds,Wrd.at,Mem.cds,lca]
end Go.Proofs.Ytpmamacjepcdmaa
