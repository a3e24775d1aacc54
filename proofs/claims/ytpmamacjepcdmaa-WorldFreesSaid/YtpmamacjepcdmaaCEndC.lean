import Derived.Test.YtpmamacjepcdmaaCEnds1
namespace Go.Proofs.Ytpmamacjepcdmaa
open Go Go.Sy Go.RowKit
set_option linter.unusedSimpArgs false
set_option linter.unusedVariables false
structure Alike (m y : Mem) : Prop where
 len : y.slots.length=m.slots.length
 heads : y.heads=m.heads
 now : y.now=m.now
 sl : ∀ j,(msl y j).next=(msl m j).next∧(msl y j).k=(msl m j).k∧(msl y j).inn=(msl m j).inn∧(msl y j).till=(msl m j).till
theorem Alike.same (m : Mem) : Alike m m:=⟨rfl,rfl,rfl,fun _=>⟨rfl,rfl,rfl,rfl⟩⟩
theorem Alike.trans {m y z : Mem} (h : Alike m y) (g : Alike y z) : Alike m z :=
 ⟨g.len.trans h.len,g.heads.trans h.heads,g.now.trans h.now,fun j=>⟨(g.sl j).1.trans (h.sl j).1,(g.sl j).2.1.trans (h.sl j).2.1,(g.sl j).2.2.1.trans (h.sl j).2.2.1,(g.sl j).2.2.2.trans (h.sl j).2.2.2⟩⟩
theorem Alike.refs {m y : Mem} {a d : Int} (a0 : 0≤a) (a1 : a < m.slots.length) (hs : y.slots=m.slots.modify a.toNat (bx d)) (hh : y.heads=m.heads) (hn : y.now=m.now) : Alike m y :=
 ⟨by rw [hs];simp,hh,hn,fun j=>by
  have:=gn hs (by omega) j
  rw [show msl y j=_ from this]
  split
  ·rename_i e;rw [← e];exact ⟨rfl,rfl,rfl,rfl⟩
  ·exact ⟨rfl,rfl,rfl,rfl⟩⟩
theorem Alike.put {m : Mem} {a : Int} (a0 : 0≤a) (a1 : a < m.slots.length) : Alike m (put m a):=by
 by_cases h : (msl m a.toNat).refs=0
 ·have : Go.Proofs.Ytpmamacjepcdmaa.put m a=m:=by unfold Go.Proofs.Ytpmamacjepcdmaa.put;rw [if_pos h]
  rw [this];exact Alike.same m
 ·obtain ⟨u1,u2,u3,u4⟩:=fQ h
  exact Alike.refs a0 a1 u1 u2 u4
theorem LF {m : Mem} {f : Frm} (hc : f.cur≤m.slots.length) (hs : f.slot < m.slots.length) : Alike m (ar m f).2:=by
 unfold ar
 by_cases e3 : f.pc=3∧0 < f.cur
 ·rw [if_neg (by omega),if_neg (by omega),if_neg (by omega),if_neg (by omega),if_pos e3]
  rcases oD m (f.cur - 1) with ⟨k1,k2⟩ | ⟨k1,k2⟩
  ·rw [k1,if_neg (by decide)];exact Alike.same m
  ·rw [k1,if_pos rfl]
   show Alike m (hold m (f.cur - 1)).1
   exact Alike.refs (a:=f.cur - 1) (d:=1) (by omega) (by omega) (by rw [k2]) (by rw [k2]) (by rw [k2])
 ·repeat' split
  all_goals first
   | exact absurd (by assumption) e3
   | exact Alike.same m
   | (have e5 : f.pc=5∧0≤f.slot:=(by assumption);exact Alike.put e5.2 hs)
   | (have e5 : f.pc=6∧0≤f.slot:=(by assumption);exact Alike.put e5.2 hs)
structure Good (m y : Mem) : Prop where
 al : Alike m y
 ch : aK y
 few : ∀ j,j < y.slots.length→(msl y j).refs < 1000
def Fin (m : Mem) : Nat→Frm→Prop
 | 0,_=>False
 | n + 1,f=>∀ y,Good m y→(ar y f).1.done=true∨Fin m n (ar y f).1
theorem Fin.more {m : Mem} : ∀ {n k : Nat} {f : Frm},n≤k→Fin m n f→Fin m k f
 | 0,_,_,_,h=>h.elim
 | n + 1,0,_,hk,_=>by omega
 | n + 1,k + 1,f,hk,h=>fun y hy=>(h y hy).imp id fun h=>Fin.more (by omega) h
theorem Fin.step {m : Mem} {n : Nat} {f g : Frm} (he : ∀ y,Good m y→(ar y f).1=g) (h : Fin m n g) : Fin m (n + 1) f:=fun y hy=>by
 rw [he y hy];exact .inr h
theorem uc {m y : Mem} (h : Alike m y) : ∀ (f : Nat) (n : Int),walk y f n=walk m f n
 | 0,_=>rfl
 | f + 1,n=>by
  simp only [walk]
  rw [(h.sl _).1,uc h f]
theorem Ef {m y : Mem} (h : Alike m y) (b : Nat) : chL y b=chL m b:=by
 unfold chL bP cQ walked aO
 rw [h.len,h.heads,uc h]
section
variable {m : Mem} {B : Nat} {f : Frm}
theorem Mb {y : Mem} (h : Alike m y) (hB : aa m f.c=B) : aa y f.c=B:=(ck (m:=m) (y:=y) f.c (by rw [h.heads])).trans hB
theorem MS (hC : aK m) (hBl : B < m.heads.length) (hp : f.pc=4) (hs : f.slot∈chL m B) (hk : kys m f.slot=f.c.k) : Fin m 3 f:=fun y hy=>by
 have h0:=(cW hC hs).1
 have hi:=((hC.ch hBl).ok _ hs).inn
 have e1 : (at2 y f).k=f.c.k:=by unfold at2;rw [(hy.al.sl _).2.1];exact hk
 have e2 : (at2 y f).inn=true:=by unfold at2;rw [(hy.al.sl _).2.2.1];exact hi
 unfold ar
 rw [if_neg (by omega),if_neg (by omega),if_neg (by omega),if_neg (by omega),if_neg (by omega),if_pos ⟨hp,h0⟩,if_neg (by rw [e1,e2];simp)]
 split
 ·refine .inr fun z hz=>.inl ?_
  unfold ar
  rw [if_neg (by simp),if_neg (by simp),if_neg (by simp),if_neg (by simp),if_neg (by simp),if_neg (by simp),if_neg (by simp),if_pos ⟨rfl,h0⟩]
  rfl
 ·exact .inl rfl
theorem MT (hC : aK m) (hBl : B < m.heads.length) (hB : aa m f.c=B) : ∀ {l2 l1 : List Int} {g : Frm},chL m B=l1 ++ l2→g.c=f.c→g.pc=1→g.cur=ig B l2→Fin m (2 * l2.length + 5) g
 | [],l1,g,e,hg,hp,hc=>fun y hy=>.inl (by
  have hc : g.cur=-1 - (B : Int):=hc
  unfold ar
  rw [if_neg (by omega),if_neg (by omega),if_pos ⟨hp,by rw [hg,Mb hy.al hB];exact hc⟩]
  rfl)
 | a :: l3,l1,g,e,hg,hp,hc=>by
  have hc : g.cur=a + 1:=hc
  have ha : a∈chL m B:=by rw [e];simp
  have h0:=cW hC ha
  by_cases hk : kys m a=f.c.k
  ·refine (Fin.step (n:=4) (g:={ g with pc:=3}) (fun y hy=>?_) fun y hy=>?_).more (by simp only [List.length_cons];omega)
   ·unfold ar
    rw [if_neg (by omega),if_pos ⟨hp,by omega⟩,if_pos (by unfold at1;rw [(hy.al.sl _).2.1,hc,hg,show a + 1 - 1=a by omega];exact hk)]
   ·have hr : (msl y a.toNat).refs≠0:=((hy.ch.ch (b:=B) (by rw [hy.al.heads];exact hBl)).ok a (by rw [Ef hy.al];exact ha)).refs
    have hf:=hy.few a.toNat (by rw [hy.al.len];omega)
    have hh : (hold y (g.cur - 1)).2=true:=by unfold hold;rw [hc,show a + 1 - 1=a by omega,if_neg (by omega)]
    unfold ar
    rw [if_neg (by simp),if_neg (by simp),if_neg (by simp),if_neg (by simp),if_pos ⟨rfl,by show 0 < g.cur;omega⟩,if_pos hh]
    refine .inr (MS (f:={ g with slot:=g.cur - 1,pc:=4}) hC hBl rfl ?_ ?_)
    ·show g.cur - 1∈_
     rw [hc,show a + 1 - 1=a by omega];exact ha
    ·show kys m (g.cur - 1)=g.c.k
     rw [hc,show a + 1 - 1=a by omega,hg];exact hk
  ·have hn:=rV hC hBl e
   refine (Fin.step (n:=2 * l3.length + 6) (g:={ g with pc:=2}) (fun y hy=>?_) (Fin.step (g:={ g with cur:=nxt m a,pc:=1}) (fun y hy=>?_) (MT hC hBl hB (l1:=l1 ++ [a]) (by rw [e];simp) hg rfl hn))).more (by simp only [List.length_cons];omega)
   ·unfold ar
    rw [if_neg (by omega),if_pos ⟨hp,by omega⟩,if_neg (by unfold at1;rw [(hy.al.sl _).2.1,hc,hg,show a + 1 - 1=a by omega];exact hk)]
   ·unfold ar
    rw [if_neg (by simp),if_neg (by simp),if_neg (by simp),if_pos ⟨rfl,by show 0 < g.cur;omega⟩]
    show ({ g with cur:=(msl y (g.cur - 1).toNat).next,pc:=1} : Frm)=_
    rw [hc,show a + 1 - 1=a by omega,(hy.al.sl _).1];rfl
theorem H7 (hC : aK m) (hBl : B < m.heads.length) (hB : aa m f.c=B) {g : Frm} (hg : g.c=f.c) (hp : g.pc=0) : Fin m 30 g:=by
 have hl : (chL m B).length≤12:=by
  have h2 : (chL m B).length≤m.slots.length:=(oL hC.mem _).1
  have:=hC.mem.ns
  omega
 refine (Fin.step (n:=2 * (chL m B).length + 5) (g:={ g with cur:=ig B (chL m B),pc:=1}) (fun y hy=>?_) (MT hC hBl hB (l1:=[]) rfl hg rfl rfl)).more (by omega)
 unfold ar
 rw [if_pos hp]
 rw [show aa y g.c=B by rw [hg];exact Mb hy.al hB,show aO y B=aO m B by unfold aO;rw [hy.al.heads],tA hC hBl]
theorem Ls (hC : aK m) (hBl : B < m.heads.length) (hB : aa m f.c=B) {g : Frm} (hg : g.c=f.c) (hp : 3≤g.pc∧g.pc≤6) (hs : 4≤g.pc→0≤g.slot) : Fin m 33 g:=by
 have h6 : ∀ {g : Frm},g.pc=6→0≤g.slot→Fin m 1 g:=fun {g} e s=>fun y hy=>.inl (by
  unfold ar
  rw [if_neg (by omega),if_neg (by omega),if_neg (by omega),if_neg (by omega),if_neg (by omega),if_neg (by omega),if_neg (by omega),if_pos ⟨e,s⟩];rfl)
 have h5 : ∀ {g : Frm},g.c=f.c→g.pc=5→0≤g.slot→Fin m 31 g:=fun {g} hg e s=>Fin.step (g:={ g with slot:=-1,pc:=0}) (fun y hy=>by
  unfold ar
  rw [if_neg (by omega),if_neg (by omega),if_neg (by omega),if_neg (by omega),if_neg (by omega),if_neg (by omega),if_pos ⟨e,s⟩]) (H7 hC hBl hB hg rfl)
 have h4 : ∀ {g : Frm},g.c=f.c→g.pc=4→0≤g.slot→Fin m 32 g:=fun {g} hg e s=>fun y hy=>by
  unfold ar
  rw [if_neg (by omega),if_neg (by omega),if_neg (by omega),if_neg (by omega),if_neg (by omega),if_pos ⟨e,s⟩]
  split
  ·exact .inr (h5 hg rfl s)
  ·split
   ·exact .inr (Fin.more (n:=1) (by omega) (h6 rfl s))
   ·exact .inl rfl
 by_cases e6 : g.pc=6
 ·exact (h6 e6 (hs (by omega))).more (by omega)
 by_cases e5 : g.pc=5
 ·exact (h5 hg e5 (hs (by omega))).more (by omega)
 by_cases e4 : g.pc=4
 ·exact (h4 hg e4 (hs (by omega))).more (by omega)
 intro y hy
 have e3 : g.pc=3:=by omega
 unfold ar
 by_cases c : 0 < g.cur
 ·rw [if_neg (by omega),if_neg (by omega),if_neg (by omega),if_neg (by omega),if_pos ⟨e3,c⟩]
  split
  ·exact .inr (h4 hg rfl (by show 0≤g.cur - 1;omega))
  ·exact .inr (Fin.more (n:=30) (by omega) (H7 hC hBl hB hg rfl))
 ·rw [if_neg (by omega),if_neg (by omega),if_neg (by omega),if_neg (by omega),if_neg (by omega),if_neg (by omega),if_neg (by omega),if_neg (by omega)]
  exact .inr (Fin.more (n:=30) (k:=32) (by omega) (H7 hC hBl hB hg rfl))
theorem K6 (hC : aK m) (hBl : B < m.heads.length) (hB : aa m f.c=B) : ∀ {l : List Int} {e : Int} {g : Frm},Path m g.cur l e→g.c=f.c→g.pc=1→Fin m (2 * l.length + 34) g
 | [],e,g,hpa,hg,hp=>fun y hy=>by
  unfold ar
  by_cases c : g.cur=-1 - aa y g.c
  ·rw [if_neg (by omega),if_neg (by have:=hpa.2;omega),if_pos ⟨hp,c⟩]
   exact .inl rfl
  ·rw [if_neg (by omega),if_neg (by have:=hpa.2;omega),if_neg (by omega),if_neg (by omega),if_neg (by omega),if_neg (by omega),if_neg (by omega),if_neg (by omega)]
   exact .inr (Fin.more (n:=30) (by simp) (H7 hC hBl hB hg rfl))
 | a :: l,e,g,hpa,hg,hp=>by
  obtain ⟨h1,h2,h3⟩:=hpa
  intro y hy
  unfold ar
  rw [if_neg (by omega),if_pos ⟨hp,h2⟩]
  by_cases hk : (at1 y g).k=g.c.k
  ·rw [if_pos hk]
   exact .inr (Fin.more (n:=33) (by simp only [List.length_cons];omega) (Ls (g:={ g with pc:=3}) hC hBl hB hg (by show (3 : Int)≤3∧(3 : Int)≤6;omega) (fun p=>by have p : (4 : Int)≤3:=p;omega)))
  ·rw [if_neg hk]
   refine .inr ((Fin.step (n:=2 * l.length + 34) (g:={ g with cur:=nxt m a,pc:=1}) (fun z hz=>?_) (K6 hC hBl hB h3 hg rfl)).more (by simp only [List.length_cons];omega))
   unfold ar
   rw [if_neg (by simp),if_neg (by simp),if_neg (by simp),if_pos ⟨rfl,h2⟩]
   show ({ g with cur:=(msl z (g.cur - 1).toNat).next,pc:=1} : Frm)=_
   rw [h1,show a + 1 - 1=a by omega,(hz.al.sl _).1];rfl
theorem Nn (hC : aK m) (hA : Acy m) (hBl : B < m.heads.length) (hB : aa m f.c=B) (hp : 0≤f.pc∧f.pc≤6) (hs : 4≤f.pc→0≤f.slot) (hc : f.cur≤m.slots.length) : Fin m 59 f:=by
 have hpath : ∀ n : Int,n≤m.slots.length→∃ l e,Path m n l e∧l.length≤12:=fun n hn=>by
  by_cases h0 : n≤0
  ·exact ⟨[],n,⟨rfl,h0⟩,by simp⟩
  ·obtain ⟨l,e,hl⟩:=hA (n - 1) (by omega) (by omega)
   rw [show n - 1 + 1=n by omega] at hl
   exact ⟨l,e,hl,LC hC.mem hn hl⟩
 by_cases e0 : f.pc=0
 ·exact (H7 hC hBl hB rfl e0).more (by omega)
 by_cases e1 : f.pc=1
 ·obtain ⟨l,e,h1,h2⟩:=hpath _ hc
  exact (K6 hC hBl hB h1 rfl e1).more (by omega)
 by_cases e2 : f.pc=2
 ·by_cases c : 0 < f.cur
  ·obtain ⟨l,e,h1,h2⟩:=hpath (nxt m (f.cur - 1)) (MN hC.mem)
   refine (Fin.step (n:=2 * l.length + 34) (g:={ f with cur:=nxt m (f.cur - 1),pc:=1}) (fun z hz=>?_) (K6 hC hBl hB (f:=f) h1 rfl rfl)).more (by omega)
   unfold ar
   rw [if_neg (by omega),if_neg (by omega),if_neg (by omega),if_pos ⟨e2,c⟩]
   show ({ f with cur:=(msl z (f.cur - 1).toNat).next,pc:=1} : Frm)=_
   rw [(hz.al.sl _).1];rfl
  ·refine (Fin.step (n:=30) (g:={ f with pc:=0}) (fun z hz=>?_) (H7 hC hBl hB (f:=f) rfl rfl)).more (by omega)
   unfold ar
   rw [if_neg (by omega),if_neg (by omega),if_neg (by omega),if_neg (by omega),if_neg (by omega),if_neg (by omega),if_neg (by omega),if_neg (by omega)]
 exact (Ls hC hBl hB rfl (by omega) hs).more (by omega)
end
end Go.Proofs.Ytpmamacjepcdmaa

namespace Go.Proofs.Ytpmamacjepcdmaa
open Go Go.Sy Go.RowKit
set_option linter.unusedSimpArgs false
set_option linter.unusedVariables false
def goP (k : Nat) : Pik:=⟨k,true,false,⟨0,⟨0,0⟩,0,0,0⟩⟩
def sw (w : Wrd) (k : Nat) : Wrd:=if (tsk w k).busy=true then (bN w (goP k)).1.bm else w
def eg : Nat→Nat→Wrd→Wrd
 | 0,_,w=>w
 | n + 1,k,w=>eg n (k + 1) (sw w k)
def eQ (w : Wrd) : Bool:=w.ts.any fun t=>t.busy
def dB : Nat→Wrd→Wrd
 | 0,w=>w
 | R + 1,w=>if eQ w=true then dB R (eg w.ts.length 0 w) else w
theorem mK {w : Wrd} : eQ w=true↔∃ u : Int,0≤u∧u < w.ts.length∧(tsk w u).busy=true:=by
 unfold eQ
 rw [List.any_eq_true]
 constructor
 ·rintro ⟨t,h1,h2⟩
  obtain ⟨i,i0,i1,rfl⟩:=pf h1
  exact ⟨i,i0,i1,h2⟩
 ·rintro ⟨u,u0,u1,h⟩
  exact ⟨_,Hf u0 u1,h⟩
def xz (m : Mem) (f : Frm) (x : Int) : Frm:=if f.c.kind=1 then (ar m f).1 else if f.c.kind=2 then (G3 m f x).1 else if f.c.kind=3 then (aL m f x).1 else if f.c.kind=4∨f.c.kind=5 then (aB m f x).1 else ay f 0
theorem wY {w : Wrd} {x : Int} (hx0 : 0≤x) (hx : x < w.ts.length) (hb : (tsk w x).busy=true) :
  (∀ u : Int,0≤u→u≠x→tsk (cN w x).1 u=tsk w u)∧(tsk (cN w x).1 x).f=xz w.m (tsk w x).f x∧(tsk (cN w x).1 x).busy=!(xz w.m (tsk w x).f x).done∧(cN w x).2=0∧(cN w x).1.ts.length=w.ts.length:=by
 have key : ∀ (y : Mem) (F : Tsk→Tsk) (g : Frm),(F (tsk w x)).f=g→(F (tsk w x)).busy=!g.done→(∀ u : Int,0≤u→u≠x→tsk ⟨y,w.ts.modify x.toNat F⟩ u=tsk w u)∧(tsk ⟨y,w.ts.modify x.toNat F⟩ x).f=g∧(tsk ⟨y,w.ts.modify x.toNat F⟩ x).busy=!g.done∧(0 : Int)=0∧(Wrd.mk y (w.ts.modify x.toNat F)).ts.length=w.ts.length:=fun y F g h1 h2 =>
  ⟨fun u u0 hne=>by rw [eT hx0 hx u0,if_neg hne],by rw [eT hx0 hx hx0,if_pos rfl];exact h1,by rw [eT hx0 hx hx0,if_pos rfl];exact h2,rfl,by simp⟩
 unfold cN xz
 rw [if_neg (by rw [hb];simp)]
 by_cases k1 : (tsk w x).f.c.kind=1
 ·rw [if_pos k1,if_pos k1]
  split
  ·exact key _ _ _ rfl rfl
  ·exact key _ _ _ rfl rfl
 rw [if_neg k1,if_neg k1]
 by_cases k2 : (tsk w x).f.c.kind=2
 ·rw [if_pos k2,if_pos k2];exact key _ _ _ rfl rfl
 rw [if_neg k2,if_neg k2]
 by_cases k3 : (tsk w x).f.c.kind=3
 ·rw [if_pos k3,if_pos k3];exact key _ _ _ rfl rfl
 rw [if_neg k3,if_neg k3]
 by_cases k4 : (tsk w x).f.c.kind=4∨(tsk w x).f.c.kind=5
 ·rw [if_pos k4,if_pos k4];exact key _ _ _ rfl rfl
 rw [if_neg k4,if_neg k4]
 split
 ·exact key _ _ _ rfl rfl
 ·exact key _ _ _ rfl rfl
theorem rU {w : Wrd} {k : Nat} (hk : k < w.ts.length) : bN w (goP k)=cN w k:=by
 unfold bN goP
 rw [if_neg (by simp),if_neg (by show ¬ ((k : Int) < 0∨(w.ts.length : Int)≤(k : Int));omega),if_pos rfl]
structure SwOk (w v : Wrd) (k : Nat) : Prop where
 m : v.m=(cN w k).1.m
 len : v.ts.length=w.ts.length
 other : ∀ u : Int,0≤u→u < w.ts.length→u≠k→(tsk v u).busy=(tsk w u).busy∧(tsk v u).f=(tsk w u).f∧(tsk v u).held=(tsk w u).held
 f : (tsk v k).f=xz w.m (tsk w k).f k
 busy : (tsk v k).busy=!(xz w.m (tsk w k).f k).done
theorem Ka {w : Wrd} {k : Nat} (hk : k < w.ts.length) (hb : (tsk w k).busy=true) : SwOk w (sw w k) k:=by
 obtain ⟨h1,h2,h3,h4,h5⟩:=wY (w:=w) (x:=k) (by omega) (by omega) hb
 unfold sw
 rw [if_pos hb,rU hk]
 refine ⟨rfl,by rw [kb];exact h5,fun u u0 u1 hne=>?_,?_,?_⟩
 ·rw [Ia u0 (by rw [h5];exact u1),h1 u u0 hne];exact ⟨rfl,rfl,rfl⟩
 ·rw [Ia (by omega) (by rw [h5];omega)];exact h2
 ·rw [Ia (by omega) (by rw [h5];omega)];exact h3
theorem CJ (w : Wrd) (k : Nat) : (sw w k).ts.length=w.ts.length:=by
 unfold sw
 split
 ·rw [kb,sN]
 ·rfl
theorem CK {w : Wrd} (h : Inv w) (k : Nat) : Inv (sw w k):=by
 unfold sw
 split
 ·exact (xg h _).bm
 ·exact h
theorem sw_acy {w : Wrd} (h : Inv w) (ha : Acy w.m) (k : Nat) : Acy (sw w k).m:=by
 unfold sw
 split
 ·exact Acy.pick h ha _
 ·exact ha
theorem qK : ∀ (n k : Nat) {w : Wrd},Inv w→Acy w.m→Inv (eg n k w)∧Acy (eg n k w).m∧(eg n k w).ts.length=w.ts.length
 | 0,_,_,h,ha=>⟨h,ha,rfl⟩
 | n + 1,k,w,h,ha=>by
  obtain ⟨h1,h2,h3⟩:=qK n (k + 1) (CK h k) (sw_acy h ha k)
  exact ⟨h1,h2,h3.trans (CJ w k)⟩
theorem vl : ∀ (R : Nat) {w : Wrd},Inv w→Acy w.m→Inv (dB R w)∧Acy (dB R w).m∧(dB R w).ts.length=w.ts.length
 | 0,_,h,ha=>⟨h,ha,rfl⟩
 | R + 1,w,h,ha=>by
  unfold dB
  split
  ·obtain ⟨h1,h2,h3⟩:=qK w.ts.length 0 h ha
   obtain ⟨g1,g2,g3⟩:=vl R h1 h2
   exact ⟨g1,g2,g3.trans h3⟩
  ·exact ⟨h,ha,rfl⟩
def aT (m : Mem) (t : Tsk) : Nat:=if t.busy=true then aF m t.f else 0
def HA (w : Wrd) : Nat:=iX (fun i=>aT w.m (tsk w i)) w.ts.length 0
theorem KT {f g : Nat→Nat} : ∀ {n b : Nat},(∀ i,b≤i→i < b + n→f i≤g i)→iX f n b≤iX g n b
 | 0,_,_=>Nat.le_refl _
 | n + 1,b,h=>by
  have h1:=h b (Nat.le_refl _) (by omega)
  have h2:=KT (f:=f) (g:=g) (n:=n) (b:=b + 1) fun i p q=>h i (by omega) (by omega)
  simp only [iX];omega
theorem LS {f g : Nat→Nat} : ∀ {n b c : Nat},b≤c→c < b + n→f c < g c→(∀ i,b≤i→i < b + n→f i≤g i)→iX f n b < iX g n b
 | 0,_,_,h1,h2,_,_=>by omega
 | n + 1,b,c,h1,h2,h3,h=>by
  have k1:=h b (Nat.le_refl _) (by omega)
  simp only [iX]
  by_cases e : b=c
  ·subst e
   have h2:=KT (f:=f) (g:=g) (n:=n) (b:=b + 1) fun i p q=>h i (by omega) (by omega)
   omega
  ·have h2:=LS (f:=f) (g:=g) (n:=n) (b:=b + 1) (c:=c) (by omega) (by omega) h3 fun i p q=>h i (by omega) (by omega)
   omega
theorem sF {f : Nat→Nat} {M : Nat} : ∀ {n b : Nat},(∀ i,b≤i→i < b + n→f i≤M)→iX f n b≤n * M
 | 0,_,_=>by simp [iX]
 | n + 1,b,h=>by
  have h1:=h b (Nat.le_refl _) (by omega)
  have h2:=sF (f:=f) (M:=M) (n:=n) (b:=b + 1) fun i p q=>h i (by omega) (by omega)
  simp only [iX,Nat.succ_mul];omega
theorem LU {w : Wrd} (h : Inv w) : HA w≤225:=by
 have:=sF (f:=fun i=>aT w.m (tsk w i)) (M:=45) (n:=w.ts.length) (b:=0) fun i _ _=>by
  show aT w.m (tsk w i)≤45
  unfold aT
  split
  ·exact aF_le h.ch _
  ·omega
 have h5:=h.lo.2
 have : w.ts.length * 45≤5 * 45:=Nat.mul_le_mul_right _ h5
 unfold HA
 omega
theorem Mm {w : Wrd} (h : Inv w) {x u : Int} (hx0 : 0≤x) (hx : x < w.ts.length) (u0 : 0≤u) (u1 : u < w.ts.length) (hne : u≠x) (ub : (tsk w u).busy=true) (uh : bI (tsk w u).f) : chF (cN w x).1.m (tsk w u).f=chF w.m (tsk w u).f:=by
 have hD:=BE h hx0 hx
 have hB:=aQ h.ch.mem.rJ (h.fo _ (Hf u0 u1) ub).call (by unfold bI at uh;omega)
 unfold chF
 rw [ck (m:=w.m) _ (hD.lens h.ch).2.1]
 refine hD.Ij (by omega) fun ⟨a1,a2,a3⟩=>?_
 have:=h.apart u0 u1 hx0 hx hne ub a1 uh a2
 omega
def M8 (w : Wrd) (u : Int) : Prop:=¬ bI (tsk w u).f∧w.m.ae.getD (aa w.m (tsk w u).f.c).toNat 0≠-1
theorem LD (m : Mem) (f : Frm) : (ar m f).2.ae=m.ae:=by
 unfold ar
 by_cases e3 : f.pc=3∧0 < f.cur
 ·rw [if_neg (by omega),if_neg (by omega),if_neg (by omega),if_neg (by omega),if_pos e3]
  rcases oD m (f.cur - 1) with ⟨k1,k2⟩ | ⟨k1,k2⟩
  ·rw [k1,if_neg (by decide)]
  ·rw [k1,if_pos rfl,k2]
 ·repeat' split
  all_goals first
   | exact absurd (by assumption) e3
   | rfl
   | exact fP _ _
theorem Jm {w : Wrd} {x : Int} (hb : (tsk w x).busy=true) :
  ((tsk w x).f.c.kind=1→(cN w x).1.m=(ar w.m (tsk w x).f).2)∧((tsk w x).f.c.kind=2→(cN w x).1.m=(G3 w.m (tsk w x).f x).2)∧((tsk w x).f.c.kind=3→(cN w x).1.m=(aL w.m (tsk w x).f x).2)∧((tsk w x).f.c.kind=4∨(tsk w x).f.c.kind=5→(cN w x).1.m=(aB w.m (tsk w x).f x).2):=by
 unfold cN
 rw [if_neg (by rw [hb];simp)]
 refine ⟨fun k=>?_,fun k=>?_,fun k=>?_,fun k=>?_⟩
 ·rw [if_pos k]
  split <;> rfl
 ·rw [if_neg (by omega),if_pos k];rfl
 ·rw [if_neg (by omega),if_neg (by omega),if_pos k];rfl
 ·rw [if_neg (by omega),if_neg (by omega),if_neg (by omega),if_pos k];rfl
theorem Lz {w : Wrd} (h : Inv w) {k : Nat} (hk : k < w.ts.length) (hb : (tsk w k).busy=true) :
  HA (sw w k) < HA w∨(HA (sw w k)≤HA w∧(tsk w k).f.c.kind=1∧(sw w k).m.ae=w.m.ae∧((tsk (sw w k) k).busy=true→(tsk (sw w k) k).f.c.kind=1)) ∨
   (HA (sw w k)≤HA w∧M8 w k∧(sw w k).m=w.m∧(tsk (sw w k) k).busy=true∧(tsk (sw w k) k).f=(tsk w k).f):=by
 obtain ⟨s1,s2,s3,s4,s5⟩:=Ka hk hb
 have hx0 : (0 : Int)≤k:=by omega
 have hx : (k : Int) < w.ts.length:=by omega
 have hot : ∀ i : Nat,i < w.ts.length→i≠k→aT (sw w k).m (tsk (sw w k) i)=aT w.m (tsk w i):=fun i hi hne=>by
  obtain ⟨o1,o2,_⟩:=s3 i (by omega) (by omega) (by omega)
  unfold aT
  rw [o1,o2]
  split
  ·rename_i hbi
   exact Nr fun hh=>by rw [s1];exact Mm h hx0 hx (by omega) (by omega) (by omega) hbi hh
  ·rfl
 have hle : aT (sw w k).m (tsk (sw w k) k)≤aT w.m (tsk w k)→HA (sw w k)≤HA w:=fun g=>by
  unfold HA
  rw [s2]
  refine KT fun i _ hi=>?_
  by_cases e : i=k
  ·subst e;exact g
  ·exact Nat.le_of_eq (hot i (by omega) e)
 have hlt : aT (sw w k).m (tsk (sw w k) k) < aT w.m (tsk w k)→HA (sw w k) < HA w:=fun g=>by
  unfold HA
  rw [s2]
  refine LS (c:=k) (by omega) (by omega) g fun i _ hi=>?_
  by_cases e : i=k
  ·subst e;exact Nat.le_of_lt g
  ·exact Nat.le_of_eq (hot i (by omega) e)
 have ha : aT w.m (tsk w k)=aF w.m (tsk w k).f:=by unfold aT;rw [if_pos hb]
 obtain ⟨m1,m2,m3,m4⟩:=Jm hb
 have hdone : (xz w.m (tsk w k).f k).done=true→aT (sw w k).m (tsk (sw w k) k)=0:=fun e=>by unfold aT;rw [s5,e];rfl
 by_cases k1 : (tsk w k).f.c.kind=1
 ·have ec : (xz w.m (tsk w k).f k).c=(tsk w k).f.c:=by unfold xz;rw [if_pos k1];exact zv
  refine .inr (.inl ⟨hle ?_,k1,by rw [s1,m1 k1];exact LD _ _,fun _=>by rw [s4,ec];exact k1⟩)
  have : aT (sw w k).m (tsk (sw w k) k)=0:=by
   unfold aT
   split
   ·rw [s4];unfold aF;rw [ec,if_pos k1]
   ·rfl
  omega
 have hpos:=M7 w.m (tsk w k).f k1
 have hgo : ∀ {r : Frm × Mem} {lk : Int},xz w.m (tsk w k).f k=r.1→(cN w k).1.m=r.2→(tsk w k).f.done=false→((tsk w k).f.pc=lk→¬ bI (tsk w k).f)→LP w.m (tsk w k).f r lk →
   HA (sw w k) < HA w∨(HA (sw w k)≤HA w∧(tsk w k).f.c.kind=1∧(sw w k).m.ae=w.m.ae∧((tsk (sw w k) k).busy=true→(tsk (sw w k) k).f.c.kind=1)) ∨
   (HA (sw w k)≤HA w∧M8 w k∧(sw w k).m=w.m∧(tsk (sw w k) k).busy=true∧(tsk (sw w k) k).f=(tsk w k).f):=fun {r} {lk} e1 e2 hd hh hL=>by
  rcases hL with ⟨l1,l2,l3⟩ | l | ⟨l1,l2,l3⟩
  ·have em : (sw w k).m=w.m:=by rw [s1,e2,l1]
   have ef : (tsk (sw w k) k).f=(tsk w k).f:=by rw [s4,e1,l1]
   have eb : (tsk (sw w k) k).busy=true:=by rw [s5,e1,l1];show (!(tsk w k).f.done)=true;rw [hd];rfl
   refine .inr (.inr ⟨hle ?_,⟨hh l2,l3⟩,em,eb,ef⟩)
   unfold aT
   rw [eb,ef,em,hb];exact Nat.le_refl _
  ·have:=hdone (by rw [e1];exact l)
   exact .inl (hlt (by omega))
  ·refine .inl (hlt ?_)
   rw [ha]
   have : aT (sw w k).m (tsk (sw w k) k)≤aF r.2 r.1:=by
    unfold aT
    split
    ·rw [s4,e1,s1,e2];exact Nat.le_refl _
    ·omega
   omega
 obtain ⟨hf,hF,hd⟩:=fe h hx0 hx hb
 by_cases k2 : (tsk w k).f.c.kind=2
 ·exact hgo (by unfold xz;rw [if_neg k1,if_pos k2]) (m2 k2) hd (fun e hh=>by unfold bI at hh;omega) (M5 h hx0 hx hb k2)
 by_cases k3 : (tsk w k).f.c.kind=3
 ·exact hgo (by unfold xz;rw [if_neg k1,if_neg k2,if_pos k3]) (m3 k3) hd (fun e hh=>by unfold bI at hh;omega) (MC h hx0 hx hb k3)
 by_cases k4 : (tsk w k).f.c.kind=4∨(tsk w k).f.c.kind=5
 ·exact hgo (by unfold xz;rw [if_neg k1,if_neg k2,if_neg k3,if_pos k4]) (m4 k4) hd (fun e hh=>by unfold bI at hh;omega) (Ly h hx0 hx hb k4)
 ·have:=hdone (by unfold xz;rw [if_neg k1,if_neg k2,if_neg k3,if_neg k4];rfl)
  exact .inl (hlt (by omega))
theorem sw_le {w : Wrd} (h : Inv w) {k : Nat} (hk : k < w.ts.length) : HA (sw w k)≤HA w:=by
 by_cases hb : (tsk w k).busy=true
 ·rcases Lz h hk hb with g | ⟨g,_⟩ | ⟨g,_⟩
  ·exact Nat.le_of_lt g
  ·exact g
  ·exact g
 ·unfold sw;rw [if_neg hb];exact Nat.le_refl _
theorem KA : ∀ {n k : Nat} {w : Wrd},Inv w→k + n≤w.ts.length→HA (eg n k w)≤HA w
 | 0,_,_,_,_=>Nat.le_refl _
 | n + 1,k,w,h,hk=>by
  show HA (eg n (k + 1) (sw w k))≤_
  exact Nat.le_trans (KA (w:=sw w k) (CK h k) (by rw [CJ];omega)) (sw_le h (by omega))
structure Calm (w v : Wrd) : Prop where
 ae : v.m.ae=w.m.ae
 heads : v.m.heads.length=w.m.heads.length
 len : v.ts.length=w.ts.length
 tk : ∀ u : Int,0≤u→u < w.ts.length→(tsk v u).busy=true→(tsk v u).f.c.kind≠1→(tsk w u).busy=true∧(tsk w u).f=(tsk v u).f
 kt : ∀ u : Int,0≤u→u < w.ts.length→(tsk w u).busy=true→(tsk w u).f.c.kind≠1→(tsk v u).busy=true∧(tsk v u).f=(tsk w u).f
theorem IC {w : Wrd} : ∀ {n k : Nat} {v : Wrd},k + n=w.ts.length→Inv v→Calm w v→HA v≤HA w→(∀ j : Nat,j < k→(tsk w j).busy=true→(tsk w j).f.c.kind≠1→M8 w j) →
  HA (eg n k v) < HA w∨∀ j : Nat,j < w.ts.length→(tsk w j).busy=true→(tsk w j).f.c.kind≠1→M8 w j
 | 0,k,v,hk,h,hc,hs,hw=>.inr fun j hj=>hw j (by omega)
 | n + 1,k,v,hk,h,hc,hs,hw=>by
  have hkv : k < v.ts.length:=by rw [hc.len];omega
  show HA (eg n (k + 1) (sw v k)) < HA w∨_
  by_cases hb : (tsk v k).busy=true
  ·have hok:=Ka hkv hb
   have hD:=BE h (x:=k) (by omega) (by omega)
   have hh : (sw v k).m.heads.length=w.m.heads.length:=by rw [hok.m,(hD.lens h.ch).2.1,hc.heads]
   rcases Lz h hkv hb with g | ⟨g,g1,g2,g3⟩ | ⟨g,g1,g2,g3,g4⟩
   ·have:=KA (n:=n) (k:=k + 1) (CK h k) (by rw [CJ,hc.len];omega)
    exact .inl (by omega)
   ·refine IC (by omega) (CK h k) ⟨g2.trans hc.ae,hh,(CJ v k).trans hc.len,fun u u0 u1 ub uk=>?_,fun u u0 u1 ub uk=>?_⟩ (by omega) fun j hj jb jk=>?_
    ·by_cases e : u=k
     ·subst e;exact absurd (g3 ub) uk
     ·obtain ⟨o1,o2,_⟩:=hok.other u u0 (by rw [hc.len];exact u1) e
      rw [o1] at ub
      rw [o2] at uk ⊢
      exact hc.tk u u0 u1 ub uk
    ·obtain ⟨c1,c2⟩:=hc.kt u u0 u1 ub uk
     by_cases e : u=k
     ·subst e;exact absurd g1 (by rw [c2];exact uk)
     ·obtain ⟨o1,o2,_⟩:=hok.other u u0 (by rw [hc.len];exact u1) e
      exact ⟨o1.trans c1,o2.trans c2⟩
    ·by_cases e : j=k
     ·subst e
      obtain ⟨c1,c2⟩:=hc.kt j (by omega) (by omega) jb jk
      exact absurd g1 (by rw [c2];exact jk)
     ·exact hw j (by omega) jb jk
   ·have hwk : ∀ jb : (tsk w k).busy=true,(tsk w k).f.c.kind≠1→M8 w k:=fun jb jk=>by
     obtain ⟨c1,c2⟩:=hc.kt k (by omega) (by omega) jb jk
     obtain ⟨w1,w2⟩:=g1
     rw [c2] at w1 w2
     rw [hc.ae,ck (m:=w.m) _ hc.heads] at w2
     exact ⟨w1,w2⟩
    refine IC (by omega) (CK h k) ⟨by rw [g2];exact hc.ae,hh,(CJ v k).trans hc.len,fun u u0 u1 ub uk=>?_,fun u u0 u1 ub uk=>?_⟩ (by omega) fun j hj jb jk=>?_
    ·by_cases e : u=k
     ·subst e
      rw [g4] at uk ⊢
      exact hc.tk _ u0 u1 hb uk
     ·obtain ⟨o1,o2,_⟩:=hok.other u u0 (by rw [hc.len];exact u1) e
      rw [o1] at ub
      rw [o2] at uk ⊢
      exact hc.tk u u0 u1 ub uk
    ·obtain ⟨c1,c2⟩:=hc.kt u u0 u1 ub uk
     by_cases e : u=k
     ·subst e;exact ⟨g3,g4.trans c2⟩
     ·obtain ⟨o1,o2,_⟩:=hok.other u u0 (by rw [hc.len];exact u1) e
      exact ⟨o1.trans c1,o2.trans c2⟩
    ·by_cases e : j=k
     ·subst e;exact hwk jb jk
     ·exact hw j (by omega) jb jk
  ·have hse : sw v k=v:=by unfold sw;rw [if_neg hb]
   rw [hse]
   refine IC (by omega) h hc hs fun j hj jb jk=>?_
   by_cases e : j=k
   ·subst e
    exact absurd (hc.kt j (by omega) (by omega) jb jk).1 hb
   ·exact hw j (by omega) jb jk
theorem LA {w : Wrd} (h : Inv w) {u : Int} (u0 : 0≤u) (u1 : u < w.ts.length) (ub : (tsk w u).busy=true) (uk : (tsk w u).f.c.kind≠1) : HA (eg w.ts.length 0 w) < HA w:=by
 rcases IC (w:=w) (n:=w.ts.length) (k:=0) (v:=w) (by omega) h ⟨rfl,rfl,rfl,fun _ _ _ b _=>⟨b,rfl⟩,fun _ _ _ b _=>⟨b,rfl⟩⟩ (Nat.le_refl _) (fun j hj=>by omega) with g | g
 ·exact g
 ·exfalso
  have hu:=g u.toNat (by omega)
  rw [show ((u.toNat : Nat) : Int)=u by omega] at hu
  obtain ⟨_,w2⟩:=hu ub uk
  obtain ⟨hf,hF,hd⟩:=fe h u0 u1 ub
  have hne : ∀ b : Nat,w.m.ae.getD b 0≠-1→b < w.m.ae.length→False:=fun b hb hl=>by
   rcases h.lk b hl with e | ⟨t0,t1,tb,th,_⟩
   ·exact hb e
   ·have ht:=g (w.m.ae.getD b 0).toNat (by omega)
    rw [show (((w.m.ae.getD b 0).toNat : Nat) : Int)=w.m.ae.getD b 0 by omega] at ht
    exact (ht tb (by unfold bI at th;omega)).1 th
  refine hne _ w2 (Classical.byContradiction fun hl=>?_)
  have hlen:=h.ch.mem.nl
  have hc:=hf.call
  by_cases k6 : (tsk w u).f.c.kind=6
  ·
   have:=Lz h (k:=u.toNat) (by omega) (by rw [show ((u.toNat : Nat) : Int)=u by omega];exact ub)
   rw [show ((u.toNat : Nat) : Int)=u by omega] at this
   rcases this with q | ⟨_,q,_⟩ | ⟨_,_,_,q,_⟩
   ·have hbk : 0≤aa w.m (tsk w u).f.c∧aa w.m (tsk w u).f.c < w.m.heads.length∨¬ Key.Ok (tsk w u).f.c.k:=by
     by_cases hk : Key.Ok (tsk w u).f.c.k
     ·refine .inl ?_
      unfold aa
      rw [if_neg (by omega)]
      have h1:=h.ch.mem.nh1
      have h4:=h.ch.mem.nh4
      have:=vr hk (n:=w.m.heads.length) (by omega) (by omega)
      exact ⟨this.1,this.2.1⟩
     ·exact .inr hk
    rcases hbk with e | e
    ·omega
    ·have : aa w.m (tsk w u).f.c=0:=by
      unfold aa
      rw [if_neg (by omega),HL e]
     have h1:=h.ch.mem.nh1
     rw [this] at hl
     apply hl
     show (0 : Int).toNat < _
     simp;omega
   ·exact absurd q uk
   ·have hok:=(Ka (w:=w) (k:=u.toNat) (by omega) (by rw [show ((u.toNat : Nat) : Int)=u by omega];exact ub)).busy
    rw [show ((u.toNat : Nat) : Int)=u by omega] at hok
    rw [q] at hok
    unfold xz at hok
    rw [if_neg (by omega),if_neg (by omega),if_neg (by omega),if_neg (by omega)] at hok
    cases hok
  ·have hk : 1≤(tsk w u).f.c.kind∧(tsk w u).f.c.kind≤5:=by
    unfold bf at hc
    split at hc
    ·omega
    ·split at hc
     ·omega
     ·split at hc
      ·omega
      ·exact absurd hc (by decide)
   have:=aQ h.ch.mem.rJ hf.call hk
   omega
theorem C3 {w : Wrd} (h : Inv w) : ∀ j,j < w.m.slots.length→(msl w.m j).refs < 1000:=fun j hj=>by
 have h1:=h.rf j hj
 have h2 : fK w.m j≤w.m.heads.length * 1:=sF fun i _ hi=>by
  show (chL w.m i).count (j : Int)≤1
  exact List.nodup_iff_count.1 (h.ch.ch (by omega)).ndl _
 have h3 : ∀ l : List Tsk,(∀ t∈l,t.held.length≤100)→iF j l≤l.length * 101:=fun l=>by
  induction l with
  | nil=>intro _;show (0 : Int)≤_;simp
  | cons t l ih =>
   intro hl
   have k1:=ih fun u hu=>hl u (by simp [hu])
   have k2:=hl t (by simp)
   have k3 : t.held.count (j : Int)≤t.held.length:=List.count_le_length
   simp only [iF,fv,List.length_cons]
   split <;> omega
 have h4:=h3 w.ts fun t ht=>(h.hd t ht).1
 have h5:=h.lo.2
 have h6:=h.ch.mem.nh4
 omega
theorem Nm {w : Wrd} {m : Mem} (h : Inv w) (ha : Alike m w.m) : Good m w.m:=⟨ha,h.ch,C3 h⟩
theorem Jc {m : Mem} {N : Nat} : ∀ {n k : Nat} {w : Wrd},k + n=w.ts.length→Inv w→Alike m w.m→(∀ j : Nat,j < w.ts.length→(tsk w j).busy=true→(tsk w j).f.c.kind=1∧(j < k→Fin m N (tsk w j).f)∧(k≤j→Fin m (N + 1) (tsk w j).f)) →
  Alike m (eg n k w).m∧∀ j : Nat,j < w.ts.length→(tsk (eg n k w) j).busy=true→(tsk (eg n k w) j).f.c.kind=1∧Fin m N (tsk (eg n k w) j).f
 | 0,k,w,hk,h,ha,hF=>⟨ha,fun j hj hb=>by
  obtain ⟨k1,k2,_⟩:=hF j hj hb
  exact ⟨k1,k2 (by omega)⟩⟩
 | n + 1,k,w,hk,h,ha,hF=>by
  show Alike m (eg n (k + 1) (sw w k)).m∧∀ j : Nat,j < w.ts.length→(tsk (eg n (k + 1) (sw w k)) j).busy=true→(tsk (eg n (k + 1) (sw w k)) j).f.c.kind=1∧Fin m N (tsk (eg n (k + 1) (sw w k)) j).f
  rw [← CJ w k]
  by_cases hb : (tsk w k).busy=true
  ·obtain ⟨s1,s2,s3,s4,s5⟩:=Ka (k:=k) (by omega) hb
   obtain ⟨k1,_,k3⟩:=hF k (by omega) hb
   have hfr:=h.fo _ (Hf (t:=(k : Int)) (by omega) (by omega)) hb
   have en : xz w.m (tsk w k).f k=(ar w.m (tsk w k).f).1:=by unfold xz;rw [if_pos k1]
   have hm : (sw w k).m=(ar w.m (tsk w k).f).2:=by rw [s1];exact (Jm hb).1 k1
   refine Jc (by rw [s2];omega) (CK h k) (by rw [hm];exact ha.trans (LF hfr.cur1 hfr.slot1)) fun j hj jb=>?_
   rw [s2] at hj
   by_cases e : j=k
   ·subst e
    rw [s5,en] at jb
    rw [s4,en]
    rcases k3 (by omega) w.m (Nm h ha) with q | q
    ·rw [q] at jb;cases jb
    ·exact ⟨by rw [zv];exact k1,fun _=>q,fun _=>by omega⟩
   ·obtain ⟨o1,o2,_⟩:=s3 j (by omega) (by omega) (by omega)
    rw [o1] at jb
    rw [o2]
    obtain ⟨q1,q2,q3⟩:=hF j hj jb
    exact ⟨q1,fun _=>q2 (by omega),fun _=>q3 (by omega)⟩
  ·have hse : sw w k=w:=by unfold sw;rw [if_neg hb]
   rw [hse]
   refine Jc (n:=n) (k:=k + 1) (by omega) h ha fun j hj jb=>?_
   obtain ⟨q1,q2,q3⟩:=hF j hj jb
   refine ⟨q1,fun p=>?_,fun p=>q3 (by omega)⟩
   by_cases e : j=k
   ·subst e;exact absurd jb hb
   ·exact q2 (by omega)
theorem KP {m : Mem} : ∀ {R n : Nat} {w : Wrd},n≤R→Inv w→Acy w.m→Alike m w.m→(∀ j : Nat,j < w.ts.length→(tsk w j).busy=true→(tsk w j).f.c.kind=1∧Fin m n (tsk w j).f)→eQ (dB R w)=false
 | R,0,w,hn,h,hc,ha,hF=>by
  have hb : eQ w=false:=by
   cases e : eQ w with
   | false=>rfl
   | true =>
    obtain ⟨u,u0,u1,ub⟩:=mK.1 e
    have:=hF u.toNat (by omega)
    rw [show ((u.toNat : Nat) : Int)=u by omega] at this
    exact (this ub).2.elim
  cases R with
  | zero=>exact hb
  | succ R=>unfold dB;rw [if_neg (by rw [hb];simp)];exact hb
 | 0,n + 1,w,hn,h,hc,ha,hF=>by omega
 | R + 1,n + 1,w,hn,h,hc,ha,hF=>by
  unfold dB
  split
  ·obtain ⟨g1,g2⟩:=Jc (N:=n) (n:=w.ts.length) (k:=0) (by omega) h ha fun j hj jb=>⟨(hF j hj jb).1,fun p=>by omega,fun _=>(hF j hj jb).2⟩
   obtain ⟨q1,q2,q3⟩:=qK w.ts.length 0 h hc
   exact KP (by omega) q1 q2 g1 fun j hj jb=>g2 j (by rw [← q3];exact hj) jb
  ·rename_i hb
   simpa using hb
theorem Mi {w : Wrd} (h0 : HA w=0) {u : Int} (u0 : 0≤u) (u1 : u < w.ts.length) (ub : (tsk w u).busy=true) : (tsk w u).f.c.kind=1:=by
 refine Classical.byContradiction fun hk=>?_
 have h1:=wW (f:=fun i=>aT w.m (tsk w i)) (n:=w.ts.length) (b:=0) (i:=u.toNat) (by omega) (by omega)
 have h2 : iX (fun i=>aT w.m (tsk w i)) w.ts.length 0=0:=h0
 rw [h2] at h1
 have h1 : aT w.m (tsk w ((u.toNat : Nat) : Int))≤0:=h1
 rw [show ((u.toNat : Nat) : Int)=u by omega] at h1
 have:=M7 w.m (tsk w u).f hk
 unfold aT at h1
 rw [if_pos ub] at h1
 omega
theorem Mo {w : Wrd} (h : Inv w) (ha : Acy w.m) {u : Int} (u0 : 0≤u) (u1 : u < w.ts.length) (ub : (tsk w u).busy=true) (hk : (tsk w u).f.c.kind=1) : Fin w.m 59 (tsk w u).f:=by
 obtain ⟨hf,hF,hd⟩:=fe h u0 u1 ub
 have hbr:=aQ h.ch.mem.rJ hf.call (by omega)
 obtain ⟨p1,p2,_⟩:=hF.look hk
 exact Nn (B:=(aa w.m (tsk w u).f.c).toNat) h.ch ha (by omega) (by omega) ⟨hf.pc0,p1⟩ p2 hf.cur1
theorem Jy : ∀ {R : Nat} {w : Wrd},HA w + 59≤R→Inv w→Acy w.m→eQ (dB R w)=false
 | R,w,hR,h,ha=>by
  by_cases h0 : HA w=0
  ·refine KP (m:=w.m) (n:=59) (by omega) h ha (Alike.same _) fun j hj jb=>?_
   have hk:=Mi h0 (u:=(j : Int)) (by omega) (by omega) jb
   exact ⟨hk,Mo h ha (by omega) (by omega) jb hk⟩
  ·cases R with
   | zero=>omega
   | succ R =>
    unfold dB
    split
    ·have hex : ∃ u : Int,0≤u∧u < w.ts.length∧(tsk w u).busy=true∧(tsk w u).f.c.kind≠1:=Classical.byContradiction fun hn=>h0 (by
      have : iX (fun i=>aT w.m (tsk w i)) w.ts.length 0≤w.ts.length * 0:=sF fun i _ hi=>by
       show aT w.m (tsk w i)≤0
       unfold aT
       split
       ·rename_i hb
        have : (tsk w i).f.c.kind=1:=Classical.byContradiction fun hk=>hn ⟨i,by omega,by omega,hb,hk⟩
        unfold aF
        rw [if_pos this];exact Nat.le_refl _
       ·exact Nat.le_refl _
      have e : HA w≤w.ts.length * 0:=this
      omega)
     obtain ⟨u,u0,u1,ub,uk⟩:=hex
     have hl:=LA h u0 u1 ub uk
     obtain ⟨q1,q2,_⟩:=qK w.ts.length 0 h ha
     exact Jy (R:=R) (by omega) q1 q2
    ·rename_i hb
     simpa using hb
theorem zL {w : Wrd} (h : Inv w) (hb : eQ w=false) : ∀ b,b < w.m.ae.length→w.m.ae.getD b 0=-1:=fun b hbl=>by
 rcases h.lk b hbl with e | ⟨t0,t1,tb,_⟩
 ·exact e
 ·have:=mK.2 ⟨_,t0,t1,tb⟩
  rw [hb] at this;cases this
end Go.Proofs.Ytpmamacjepcdmaa

namespace Go.Proofs.Ytpmamacjepcdmaa
open Go Go.Sy Go.RowKit
set_option linter.unusedSimpArgs false
set_option linter.unusedVariables false
def s196 : Sig:=⟨[.one (.fz kT),.fn 197],[.one (.bool)]⟩
def d196 : DC:=⟨s196,fun _=>True,fun l=>[.b ((l.getD 0 .u).uH.any fun t=>t.busy)]⟩
theorem tX {ts : List Tsk} {k : Nat} (h : k < ts.length) : ((G2 ts).rows.getD k []).getD 0 .u=.b (ts.getD k default).busy:=dh Tsk.row ts k 0 h
theorem tY {ts : List Tsk} {k : Nat} (h : k < ts.length) : ((ts.take (k + 1)).any fun t=>t.busy)=((ts.take k).any (fun t=>t.busy) || (ts.getD k default).busy):=by
 have e : ts.take (k + 1)=ts.take k ++ [ts.getD k default]:=by
  rw [List.take_succ_eq_append_getElem h,List.getD_eq_getElem?_getD,List.getElem?_eq_getElem h];rfl
 rw [e,List.any_append]
 simp
def l196 : List (Nat × Ct):=[]
noncomputable def z196 : Cx:={ T:=ttA,C:=sigs l196,F:=[(212,Try.f212),(197,Try.f197)],hints:=[⟨212,2,false,[(8,.lt)],[],[],[],0,0,false⟩],sig:=s196}
def t196 : Tree :=
 (.loop 1 [.int .i64] [.int 0]
 (.ite (.lt (.var 2) (.len (.var 0)))
 (.need (.le (.int 0) (.var 2))
 (.ite (.cell (.var 0) (.var 2) 0)
 (.ret [.le (.int 0) (.var 2)])
 (.need (.fit (.add (.var 2) (.int 1)))
 (.back 1 [.add (.var 2) (.int 1)]))))
 (.ret [.bool false])))
theorem run196 : run z196 6000 [.code (Try.f196.body.getD .skip),.fin (bt z196 Try.f196.results.toList 50)] { fn:=196,tmps:=z196.sig.aM ++ List.replicate (Try.f196.ntmps - z196.sig.aM.length) (.v (.one .undef)),stk:=[],h:=z196.sig.h0,nx:=z196.sig.ins.length,known:=[]}=t196:=by kernel_rfl
theorem ok196 : cB Try.prog 196 d196.ct:=by
 refine aD (d:=d196) (Z:=z196) (Γ:=gam l196) (fn:=Try.f196) (c:=Try.f196.body.getD .skip) (bg tok mixed all_nil (dX (c:=Try.f212.body.getD .skip) Try.func212 (by kernel_rfl) (by kernel_rfl) (dX (c:=Try.f197.body.getD .skip) Try.func197 (by kernel_rfl) (by kernel_rfl) bh))) Try.func196 (by kernel_rfl) (by kernel_rfl) rfl run196 fun E hk hp=>?_
 obtain ⟨hk0,_⟩:=hk
 obtain ⟨ts,e0,hts,b0⟩:=hU (d:=E 0) hk0
 have b0 : ts.length * 160≤140737488355328:=b0
 have el : aH E d196.sig.ins.length=[G2 ts]:=by
  show [E 0]=_
  rw [e0]
 rw [el] at hp
 rw [el]
 rw [Env.bJ el]
 clear el e0
 simp only [d196,List.getD_cons_zero,fZ fun t ht=>(hts t ht).1]
 unfold t196
 refine bO (fun ds=>∃ k : Nat,ds=[.i k]∧k≤ts.length∧((ts.take k).any fun t=>t.busy)=false) (fun ds=>ts.length - (ds.getD 0 .u).int.toNat) ⟨0,rfl,by omega,by simp⟩ ?_
 rintro ds - ⟨k,rfl,hk,ha⟩
 refine G0 (fun h=>?_) (fun h=>aj ?_)
 ·simp only [nrm,xdn,reduceIte,Nat.reduceLT,Nat.reduceSub,Nat.reduceAdd,cJ] at h
  have hb:=tX (ts:=ts) (k:=k) (by omega)
  refine ag (by simp only [nrm,xdn,reduceIte,Nat.reduceLT,Nat.reduceSub,Nat.reduceAdd];omega) (G0 (fun h1=>aj ?_) (fun h1=>G1 (by simp only [nrm,xdn,reduceIte,Nat.reduceLT,Nat.reduceSub,Nat.reduceAdd];omega) (aV ⟨⟨k + 1,?_,by omega,?_⟩,?_⟩)))
  ·simp only [nrm,xdn,reduceIte,Nat.reduceLT,Nat.reduceSub,Nat.reduceAdd,Int.toNat_natCast,hb] at h1 ⊢
   have : (ts.any fun t=>t.busy)=true:=List.any_eq_true.2 ⟨_,fc (by omega),h1⟩
   rw [this]
   simp
  ·simp only [nrm,xdn,reduceIte,Nat.reduceLT,Nat.reduceSub,Nat.reduceAdd];rfl
  ·simp only [nrm,xdn,reduceIte,Nat.reduceLT,Nat.reduceSub,Nat.reduceAdd,Int.toNat_natCast,hb] at h1
   rw [tY (by omega),ha]
   simpa using h1
  ·simp only [nrm,xdn,reduceIte,Nat.reduceLT,Nat.reduceSub,Nat.reduceAdd];omega
 ·simp only [nrm,xdn,reduceIte,Nat.reduceLT,Nat.reduceSub,Nat.reduceAdd,cJ] at h
  have e : k=ts.length:=by omega
  rw [e,List.take_length] at ha
  simp only [nrm,xdn,reduceIte,Nat.reduceLT,Nat.reduceSub,Nat.reduceAdd,ha]
theorem qM : ∀ {n k : Nat} {w : Wrd},eQ w=false→k + n≤w.ts.length→eg n k w=w
 | 0,_,_,_,_=>rfl
 | n + 1,k,w,h,hk=>by
  have : sw w k=w:=by
   unfold sw
   rw [if_neg fun hb=>by
    have:=mK.2 ⟨(k : Int),by omega,by omega,hb⟩
    rw [h] at this;cases this]
  show eg n (k + 1) (sw w k)=w
  rw [this]
  exact qM h (by omega)
theorem Am {w : Wrd} (h : w.bm=w) (k : Nat) : (sw w k).bm=sw w k:=by
 unfold sw
 split
 ·simp only [Wrd.bm,List.map_map];rfl
 ·exact h
theorem su (w : Wrd) : G2 w.bm.ts=G2 w.ts:=by
 simp only [G2,Wrd.bm,List.map_map];rfl
def s137 : Sig:=⟨[.agg [.fz kS,.fz kI,.fz kI,.fz kI,.int .i64,.fz kT],.one (.int .i64)],[.agg [.fz kS,.fz kI,.fz kI,.fz kI,.int .i64,.fz kT],.one (.bool)]⟩
def d137 : DC:=⟨s137,fun l=>Inv (Wrd.of l).bm∧(l.getD 6 .u).int≤1000,fun l=>(dB (l.getD 6 .u).int.toNat (Wrd.of l).bm).tM ++ [.b (!eQ (dB (l.getD 6 .u).int.toNat (Wrd.of l).bm))]⟩
def l137 : List (Nat × Ct):=[(140,d140.ct),(196,d196.ct)]
def z137 : Cx:={ T:=ttA,C:=sigs l137,F:=[],hints:=[⟨137,2,false,[(12,.lt)],[(0,0,.fz kS),(0,1,.fz kI),(0,2,.fz kI),(0,3,.fz kI),(0,4,.lt),(0,5,.fz kT)],[],[],0,0,false⟩,⟨137,5,false,[(17,.lt),(6,.lt)],[(0,0,.fz kS),(0,1,.fz kI),(0,2,.fz kI),(0,3,.fz kI),(0,4,.lt),(0,5,.fz kT)],[],[],0,0,false⟩],sig:=s137}
def t137 : Tree :=
 (.loop 7 [.int .i64,.sl 48 [.int .i64,.int .i64,.int .i64,.int .i64,.bool,.int .i64],.sl 8 [.int .i64],.sl 8 [.int .i64],.sl 8 [.int .i64],.int .i64,.sl 160 [.bool,.int .i64,.int .i64,.int .i64,.int .i64,.int .i64,.int .i64,.int .i64,.int .i64,.int .i64,.int .i64,.int .i64,.sl 16 [.int .i64,.int .i64],.bool,.int .i64,.sl 8 [.int .i64]]] [.int 0,.var 0,.var 1,.var 2,.var 3,.var 4,.var 5]
 (.ite (.lt (.var 8) (.var 6))
 (.loop 15 [.bool,.int .i64,.sl 48 [.int .i64,.int .i64,.int .i64,.int .i64,.bool,.int .i64],.sl 8 [.int .i64],.sl 8 [.int .i64],.sl 8 [.int .i64],.int .i64,.sl 160 [.bool,.int .i64,.int .i64,.int .i64,.int .i64,.int .i64,.int .i64,.int .i64,.int .i64,.int .i64,.int .i64,.int .i64,.sl 16 [.int .i64,.int .i64],.bool,.int .i64,.sl 8 [.int .i64]]] [.bool false,.int 0,.var 9,.var 10,.var 11,.var 12,.var 13,.var 14]
 (.ite (.lt (.var 17) (.len (.var 14)))
 (.need (.le (.int 0) (.var 17))
 (.ite (.not (.cell (.var 14) (.var 17) 0))
 (.need (.fit (.add (.var 17) (.int 1)))
 (.back 15 [.var 16,.add (.var 17) (.int 1),.var 18,.var 19,.var 20,.var 21,.var 22,.var 23]))
 (.call 140 [.var 18,.var 19,.var 20,.var 21,.var 22,.var 23,.var 17,.bool true,.bool false,.int 0,.int 0,.int 0,.int 0,.int 0,.int 0] 24
 (.ite (.not (.eq (.var 30) (.int 0)))
 (.ret [.var 18,.var 19,.var 20,.var 21,.var 22,.var 23,.bool false])
 (.need (.fit (.add (.var 17) (.int 1)))
 (.need (.clean (.var 29) 15)
 (.back 15 [.bool true,.add (.var 17) (.int 1),.var 24,.var 25,.var 26,.var 27,.var 28,.shuts (.var 29) 15])))))))
 (.ite (.not (.var 16))
 (.ret [.var 18,.var 19,.var 20,.var 21,.var 22,.var 23,.bool true])
 (.need (.fit (.add (.var 8) (.int 1)))
 (.back 7 [.add (.var 8) (.int 1),.var 18,.var 19,.var 20,.var 21,.var 22,.var 23])))))
 (.call 196 [.var 14] 15
 (.ret [.var 9,.var 10,.var 11,.var 12,.var 13,.var 14,.not (.var 15)]))))
theorem run137 : run z137 6000 [.code (Try.f137.body.getD .skip),.fin (bt z137 Try.f137.results.toList 50)] { fn:=137,tmps:=z137.sig.aM ++ List.replicate (Try.f137.ntmps - z137.sig.aM.length) (.v (.one .undef)),stk:=[],h:=z137.sig.h0,nx:=z137.sig.ins.length,known:=[]}=t137:=by kernel_rfl
set_option maxHeartbeats 4000000 in
theorem ok137 : cB Try.prog 137 d137.ct:=by
 refine aD (d:=d137) (Z:=z137) (Γ:=gam l137) (fn:=Try.f137) (c:=Try.f137.body.getD .skip) (bg tok mixed (all_cons ok140 (all_cons ok196 all_nil)) bh) Try.func137 (by kernel_rfl) (by kernel_rfl) rfl run137 fun E hk hp=>?_
 obtain ⟨hk0,hk1,hk2,hk3,hk4,hk5,hk6,_⟩:=hk
 obtain ⟨m,e0,e1,e2,e3,e4,b0,b1,b2,b3⟩:=cv (d0:=E 0) (d1:=E 1) (d2:=E 2) (d3:=E 3) (d4:=E 4) hk0 hk1 hk2 hk3 hk4
 obtain ⟨ts,e5,hts,b5⟩:=hU (d:=E 5) hk5
 have b5 : ts.length * 160≤140737488355328:=b5
 obtain ⟨x,e6⟩:=ok_int (d:=E 6) hk6
 have el : aH E d137.sig.ins.length=[au m.slots,af m.heads,af m.free,af m.ae,.i m.now,G2 ts,.i x]:=by
  show [E 0,E 1,E 2,E 3,E 4,E 5,E 6]=_
  rw [e0,e1,e2,e3,e4,e5,e6]
 rw [el] at hp
 rw [el]
 rw [Env.bJ el]
 clear el e0 e1 e2 e3 e4 e5 e6
 have hlm : Wrd.bm (Wrd.G4 ⟨m,ts⟩)=Wrd.bm ⟨m,ts⟩:=iQ ⟨m,ts⟩
 simp only [d137,fY,aA,hlm,List.getD_cons_zero,List.getD_cons_succ,CD.aR] at hp ⊢
 obtain ⟨W,hW⟩ : ∃ W,Wrd.bm ⟨m,ts⟩=W:=⟨_,rfl⟩
 rw [hW] at hp ⊢
 obtain ⟨hp,hx⟩:=hp
 have hWm : W.bm=W:=by rw [← hW];simp only [Wrd.bm,List.map_map];rfl
 have eW : W.m=m∧G2 W.ts=G2 ts:=by rw [← hW];exact ⟨rfl,su ⟨m,ts⟩⟩
 unfold t137
 refine bO (fun ds=>∃ (i : Nat) (v : Wrd),ds=[.i i,au v.m.slots,af v.m.heads,af v.m.free,af v.m.ae,.i v.m.now,G2 v.ts]∧Inv v∧v.bm=v∧i≤x.toNat∧dB x.toNat W=dB (x.toNat - i) v) (fun ds=>x.toNat - (ds.getD 0 .u).int.toNat) ⟨0,W,?_,hp,hWm,by omega,rfl⟩ ?_
 ·rw [eW.1,eW.2]
  simp only [nrm,xdn,reduceIte,Nat.reduceLT,Nat.reduceSub,Nat.reduceAdd];rfl
 rintro ds - ⟨i,v,rfl,hv,hvm,hi,he⟩
 have hl5:=hv.lo.2
 rw [he]
 refine G0 (fun h=>?_) (fun h=>?_)
 ·simp only [nrm,xdn,reduceIte,Nat.reduceLT,Nat.reduceSub,Nat.reduceAdd] at h
  refine bO (fun ds=>∃ (k : Nat) (u : Wrd),ds=[.b ((v.ts.take k).any fun t=>t.busy),.i k,au u.m.slots,af u.m.heads,af u.m.free,af u.m.ae,.i u.m.now,G2 u.ts]∧Inv u∧u.bm=u∧k≤v.ts.length∧u.ts.length=v.ts.length∧eg v.ts.length 0 v=eg (v.ts.length - k) k u∧∀ j : Nat,k≤j→j < v.ts.length→(tsk u j).busy=(tsk v j).busy)
   (fun ds=>v.ts.length - (ds.getD 1 .u).int.toNat) ⟨0,v,?_,hv,hvm,by omega,rfl,rfl,fun _ _ _=>rfl⟩ ?_
  ·simp only [nrm,xdn,reduceIte,Nat.reduceLT,Nat.reduceSub,Nat.reduceAdd,List.take_zero,List.any_nil];rfl
  rintro ds - ⟨k,u,rfl,hu,hum,hk,hul,hs,hb⟩
  refine G0 (fun h1=>?_) (fun h1=>?_)
  ·simp only [nrm,xdn,reduceIte,Nat.reduceLT,Nat.reduceSub,Nat.reduceAdd,cJ] at h1
   have hbk:=tX (ts:=v.ts) (k:=k) (by omega)
   have hs1 : eg (v.ts.length - k) k u=eg (v.ts.length - (k + 1)) (k + 1) (sw u k):=by
    rw [show v.ts.length - k=(v.ts.length - (k + 1)) + 1 by omega];rfl
   have ebk : (tsk u k).busy=(v.ts.getD k default).busy:=by
    rw [hb k (Nat.le_refl _) (by omega)]
    unfold tsk
    rw [Int.toNat_natCast]
   refine ag (by simp only [nrm,xdn,reduceIte,Nat.reduceLT,Nat.reduceSub,Nat.reduceAdd];omega) (G0 (fun h2=>?_) (fun h2=>?_))
   ·simp only [nrm,xdn,reduceIte,Nat.reduceLT,Nat.reduceSub,Nat.reduceAdd,Int.toNat_natCast,hbk] at h2
    have h2 : (v.ts.getD k default).busy=false:=by simpa using h2
    have hse : sw u k=u:=by unfold sw;rw [if_neg (by rw [ebk,h2];simp)]
    rw [hse] at hs1
    refine G1 (by simp only [nrm,xdn,reduceIte,Nat.reduceLT,Nat.reduceSub,Nat.reduceAdd];omega) (aV ⟨⟨k + 1,u,?_,hu,hum,by omega,hul,hs.trans hs1,fun j p q=>hb j (by omega) q⟩,?_⟩)
    ·simp only [nrm,xdn,reduceIte,Nat.reduceLT,Nat.reduceSub,Nat.reduceAdd]
     rw [tY (by omega),h2,Bool.or_false];rfl
    ·simp only [nrm,xdn,reduceIte,Nat.reduceLT,Nat.reduceSub,Nat.reduceAdd];omega
   ·simp only [nrm,xdn,reduceIte,Nat.reduceLT,Nat.reduceSub,Nat.reduceAdd,Int.toNat_natCast,hbk] at h2
    have h2 : (v.ts.getD k default).busy=true:=by simpa using h2
    have hub : (tsk u k).busy=true:=by rw [ebk];exact h2
    have huk : k < u.ts.length:=by omega
    have hse : sw u k=(bN u (goP k)).1.bm:=by unfold sw;rw [if_pos hub]
    obtain ⟨o1,o2,o3,o4,o5⟩:=Ka huk hub
    have hdo : doW u.G4 (goP k)=((bN u (goP k)).1,0):=by
     have e2 : (bN u (goP k)).2=0:=by rw [rU huk];exact (wY (by omega) (by omega) hub).2.2.2.1
     unfold doW
     rw [if_neg (fun y=>y hu.G4.check.1),iQ,hum,if_neg (fun y=>y e2)]
    obtain ⟨z,hz⟩ : ∃ z,(bN u (goP k)).1=z:=⟨_,rfl⟩
    rw [hz] at hdo hse
    have hmem : (sw u k).m=z.m:=by rw [hse];rfl
    refine ai d140 [au z.m.slots,af z.m.heads,af z.m.free,af z.m.ae,.i z.m.now,az z.ts,.i 0] rfl trivial ?_ (G0 (fun hn=>?_) (fun _=>?_))
    ·simp only [nrm,xdn,reduceIte,Nat.reduceLT,Nat.reduceSub,Nat.reduceAdd,d140,fY,aA,List.drop_succ_cons,List.drop_zero,oe,cz]
     show (doW u.G4 (goP k)).1.cds ++ [.i (doW u.G4 (goP k)).2]=_
     rw [hdo];rfl
    ·simp only [nrm,xdn,reduceIte,Nat.reduceLT,Nat.reduceSub,Nat.reduceAdd] at hn
     simp at hn
    ·refine G1 (by simp only [nrm,xdn,reduceIte,Nat.reduceLT,Nat.reduceSub,Nat.reduceAdd];omega) (ag (by simp only [nrm,xdn,reduceIte,Nat.reduceLT,Nat.reduceSub,Nat.reduceAdd];exact aI _) (aV ⟨⟨k + 1,sw u k,?_,CK hu k,Am hum k,by omega,by rw [o2];exact hul,hs.trans hs1,fun j p q=>?_⟩,?_⟩))
     ·simp only [nrm,xdn,reduceIte,Nat.reduceLT,Nat.reduceSub,Nat.reduceAdd,cg]
      rw [tY (by omega),h2,Bool.or_true,hmem,show G2 (sw u k).ts=G2 z.ts by rw [hse];exact su z];rfl
     ·rw [(o3 j (by omega) (by omega) (by omega)).1];exact hb j (by omega) q
     ·simp only [nrm,xdn,reduceIte,Nat.reduceLT,Nat.reduceSub,Nat.reduceAdd];omega
  ·simp only [nrm,xdn,reduceIte,Nat.reduceLT,Nat.reduceSub,Nat.reduceAdd,cJ] at h1
   have ek : k=v.ts.length:=by omega
   subst ek
   rw [Nat.sub_self] at hs
   have hs : eg v.ts.length 0 v=u:=hs
   have hR : x.toNat - i=(x.toNat - (i + 1)) + 1:=by omega
   refine G0 (fun h2=>aj ?_) (fun h2=>?_)
   ·simp only [nrm,xdn,reduceIte,Nat.reduceLT,Nat.reduceSub,Nat.reduceAdd,List.take_length] at h2 ⊢
    have h2 : eQ v=false:=by unfold eQ;simpa using h2
    have huv : u=v:=by rw [← hs];exact qM h2 (by omega)
    have hend : dB (x.toNat - i) v=v:=by rw [hR,dB,if_neg (by rw [h2];simp)]
    rw [hend,huv,h2];rfl
   ·simp only [nrm,xdn,reduceIte,Nat.reduceLT,Nat.reduceSub,Nat.reduceAdd,List.take_length] at h2
    have h2 : eQ v=true:=by unfold eQ;simpa using h2
    refine G1 (by simp only [nrm,xdn,reduceIte,Nat.reduceLT,Nat.reduceSub,Nat.reduceAdd];omega) (fj (by decide) ⟨⟨i + 1,u,?_,hu,hum,by omega,?_⟩,?_⟩)
    ·simp only [nrm,xdn,reduceIte,Nat.reduceLT,Nat.reduceSub,Nat.reduceAdd];rfl
    ·rw [hR,dB,if_pos h2,hs]
    ·simp only [nrm,xdn,reduceIte,Nat.reduceLT,Nat.reduceSub,Nat.reduceAdd];omega
 ·simp only [nrm,xdn,reduceIte,Nat.reduceLT,Nat.reduceSub,Nat.reduceAdd] at h
  have e0 : x.toNat - i=0:=by omega
  rw [e0]
  show Tree.den _ (fun outs=>outs=v.tM ++ [.b (!eQ v)]) _ _ _
  refine ai d196 [.b (eQ v)] rfl trivial ?_ (aj ?_)
  ·simp only [nrm,xdn,reduceIte,Nat.reduceLT,Nat.reduceSub,Nat.reduceAdd,d196]
   rw [ju,jH]
   unfold eQ
   rw [List.any_map];rfl
  ·simp only [nrm,xdn,reduceIte,Nat.reduceLT,Nat.reduceSub,Nat.reduceAdd];rfl
end Go.Proofs.Ytpmamacjepcdmaa
