import Derived.Test.YtpmamacjepcdmaaCEnds1
namespace Go.Proofs.Ytpmamacjepcdmaa
open Go Go.Sy Go.RowKit
set_option linter.unusedSimpArgs false
set_option linter.unusedVariables false
structure Alike (m y : Mem) : Prop where
 len : y.slots.length=m.slots.length
 heads : y.heads=m.heads
 now : y.now=m.now
 sl : ∀ j,(msl y j).next=(msl m j).next∧(msl y j).k=(msl m j).k∧(msl y j).inn=(msl m j).inn∧(msl y j).till=(msl m j).till
theorem Alike.same (m : Mem) : Alike m m:=⟨rfl,rfl,rfl,fun _=>⟨rfl,rfl,rfl,rfl⟩⟩
theorem Alike.trans {m y z : Mem} (h : Alike m y) (g : Alike y z) : Alike m z :=
 ⟨g.len.trans h.len,g.heads.trans h.heads,g.now.trans h.now,fun j=>⟨(g.sl j).1.trans (h.sl j).1,(g.sl j).2.1.trans (h.sl j).2.1,(g.sl j).2.2.1.trans (h.sl j).2.2.1,(g.sl j).2.2.2.trans (h.sl j).2.2.2⟩⟩
theorem Alike.refs {m y : Mem} {a d : Int} (a0 : 0≤a) (a1 : a < m.slots.length) (hs : y.slots=m.slots.modify a.toNat (cB d)) (hh : y.heads=m.heads) (hn : y.now=m.now) : Alike m y :=
 ⟨by rw [hs];simp,hh,hn,fun j=>by
  have:=fV hs (by omega) j
  rw [show msl y j=_ from this]
  split
  ·rename_i e;rw [← e];exact ⟨rfl,rfl,rfl,rfl⟩
  ·exact ⟨rfl,rfl,rfl,rfl⟩⟩
theorem Alike.put {m : Mem} {a : Int} (a0 : 0≤a) (a1 : a < m.slots.length) : Alike m (put m a):=by
 by_cases h : (msl m a.toNat).refs=0
 ·have : Go.Proofs.Ytpmamacjepcdmaa.put m a=m:=by unfold Go.Proofs.Ytpmamacjepcdmaa.put;rw [if_pos h]
  rw [this];exact Alike.same m
 ·obtain ⟨u1,u2,u3,u4⟩:=eK h
  exact Alike.refs a0 a1 u1 u2 u4
theorem yn {m : Mem} {f : Frm} (hc : f.cur≤m.slots.length) (hs : f.slot < m.slots.length) : Alike m (au m f).2:=by
 unfold au
 by_cases e3 : f.pc=3∧0 < f.cur
 ·rw [if_neg (by omega),if_neg (by omega),if_neg (by omega),if_neg (by omega),if_pos e3]
  rcases kM m (f.cur - 1) with ⟨k1,k2⟩ | ⟨k1,k2⟩
  ·rw [k1,if_neg (by decide)];exact Alike.same m
  ·rw [k1,if_pos rfl]
   show Alike m (hold m (f.cur - 1)).1
   exact Alike.refs (a:=f.cur - 1) (d:=1) (by omega) (by omega) (by rw [k2]) (by rw [k2]) (by rw [k2])
 ·repeat' split
  all_goals first
   | exact absurd (by assumption) e3
   | exact Alike.same m
   | (have e5 : f.pc=5∧0≤f.slot:=(by assumption);exact Alike.put e5.2 hs)
   | (have e5 : f.pc=6∧0≤f.slot:=(by assumption);exact Alike.put e5.2 hs)
structure Good (m y : Mem) : Prop where
 al : Alike m y
 ch : aK y
 few : ∀ j,j < y.slots.length→(msl y j).refs < 1000
def Fin (m : Mem) : Nat→Frm→Prop
 | 0,_=>False
 | n + 1,f=>∀ y,Good m y→(au y f).1.done=true∨Fin m n (au y f).1
theorem Fin.more {m : Mem} : ∀ {n k : Nat} {f : Frm},n≤k→Fin m n f→Fin m k f
 | 0,_,_,_,h=>h.elim
 | n + 1,0,_,hk,_=>by omega
 | n + 1,k + 1,f,hk,h=>fun y hy=>(h y hy).imp id fun h=>Fin.more (by omega) h
theorem Fin.step {m : Mem} {n : Nat} {f g : Frm} (he : ∀ y,Good m y→(au y f).1=g) (h : Fin m n g) : Fin m (n + 1) f:=fun y hy=>by
 rw [he y hy];exact .inr h
theorem tw {m y : Mem} (h : Alike m y) : ∀ (f : Nat) (n : Int),walk y f n=walk m f n
 | 0,_=>rfl
 | f + 1,n=>by
  simp only [walk]
  rw [(h.sl _).1,tw h f]
theorem Da {m y : Mem} (h : Alike m y) (b : Nat) : chL y b=chL m b:=by
 unfold chL bG cQ walked aM
 rw [h.len,h.heads,tw h]
section
variable {m : Mem} {B : Nat} {f : Frm}
theorem Ac {y : Mem} (h : Alike m y) (hB : aa m f.c=B) : aa y f.c=B:=(bw (m:=m) (y:=y) f.c (by rw [h.heads])).trans hB
theorem CM (hC : aK m) (hBl : B < m.heads.length) (hp : f.pc=4) (hs : f.slot∈chL m B) (hk : kys m f.slot=f.c.k) : Fin m 3 f:=fun y hy=>by
 have h0:=(df hC hs).1
 have hi:=((hC.ch hBl).ok _ hs).inn
 have e1 : (at2 y f).k=f.c.k:=by unfold at2;rw [(hy.al.sl _).2.1];exact hk
 have e2 : (at2 y f).inn=true:=by unfold at2;rw [(hy.al.sl _).2.2.1];exact hi
 unfold au
 rw [if_neg (by omega),if_neg (by omega),if_neg (by omega),if_neg (by omega),if_neg (by omega),if_pos ⟨hp,h0⟩,if_neg (by rw [e1,e2];simp)]
 split
 ·refine .inr fun z hz=>.inl ?_
  unfold au
  rw [if_neg (by simp),if_neg (by simp),if_neg (by simp),if_neg (by simp),if_neg (by simp),if_neg (by simp),if_neg (by simp),if_pos ⟨rfl,h0⟩]
  rfl
 ·exact .inl rfl
theorem CN (hC : aK m) (hBl : B < m.heads.length) (hB : aa m f.c=B) : ∀ {l2 l1 : List Int} {g : Frm},chL m B=l1 ++ l2→g.c=f.c→g.pc=1→g.cur=fL B l2→Fin m (2 * l2.length + 5) g
 | [],l1,g,e,hg,hp,hc=>fun y hy=>.inl (by
  have hc : g.cur=-1 - (B : Int):=hc
  unfold au
  rw [if_neg (by omega),if_neg (by omega),if_pos ⟨hp,by rw [hg,Ac hy.al hB];exact hc⟩]
  rfl)
 | a :: l3,l1,g,e,hg,hp,hc=>by
  have hc : g.cur=a + 1:=hc
  have ha : a∈chL m B:=by rw [e];simp
  have h0:=df hC ha
  by_cases hk : kys m a=f.c.k
  ·refine (Fin.step (n:=4) (g:={ g with pc:=3}) (fun y hy=>?_) fun y hy=>?_).more (by simp only [List.length_cons];omega)
   ·unfold au
    rw [if_neg (by omega),if_pos ⟨hp,by omega⟩,if_pos (by unfold at1;rw [(hy.al.sl _).2.1,hc,hg,show a + 1 - 1=a by omega];exact hk)]
   ·have hr : (msl y a.toNat).refs≠0:=((hy.ch.ch (b:=B) (by rw [hy.al.heads];exact hBl)).ok a (by rw [Da hy.al];exact ha)).refs
    have hf:=hy.few a.toNat (by rw [hy.al.len];omega)
    have hh : (hold y (g.cur - 1)).2=true:=by unfold hold;rw [hc,show a + 1 - 1=a by omega,if_neg (by omega)]
    unfold au
    rw [if_neg (by simp),if_neg (by simp),if_neg (by simp),if_neg (by simp),if_pos ⟨rfl,by show 0 < g.cur;omega⟩,if_pos hh]
    refine .inr (CM (f:={ g with slot:=g.cur - 1,pc:=4}) hC hBl rfl ?_ ?_)
    ·show g.cur - 1∈_
     rw [hc,show a + 1 - 1=a by omega];exact ha
    ·show kys m (g.cur - 1)=g.c.k
     rw [hc,show a + 1 - 1=a by omega,hg];exact hk
  ·have hn:=iB hC hBl e
   refine (Fin.step (n:=2 * l3.length + 6) (g:={ g with pc:=2}) (fun y hy=>?_) (Fin.step (g:={ g with cur:=nxt m a,pc:=1}) (fun y hy=>?_) (CN hC hBl hB (l1:=l1 ++ [a]) (by rw [e];simp) hg rfl hn))).more (by simp only [List.length_cons];omega)
   ·unfold au
    rw [if_neg (by omega),if_pos ⟨hp,by omega⟩,if_neg (by unfold at1;rw [(hy.al.sl _).2.1,hc,hg,show a + 1 - 1=a by omega];exact hk)]
   ·unfold au
    rw [if_neg (by simp),if_neg (by simp),if_neg (by simp),if_pos ⟨rfl,by show 0 < g.cur;omega⟩]
    show ({ g with cur:=(msl y (g.cur - 1).toNat).next,pc:=1} : Frm)=_
    rw [hc,show a + 1 - 1=a by omega,(hy.al.sl _).1];rfl
theorem iM (hC : aK m) (hBl : B < m.heads.length) (hB : aa m f.c=B) {g : Frm} (hg : g.c=f.c) (hp : g.pc=0) : Fin m 30 g:=by
 have hl : (chL m B).length≤12:=by
  have h2 : (chL m B).length≤m.slots.length:=(jf hC.mem _).1
  have:=hC.mem.ns
  omega
 refine (Fin.step (n:=2 * (chL m B).length + 5) (g:={ g with cur:=fL B (chL m B),pc:=1}) (fun y hy=>?_) (CN hC hBl hB (l1:=[]) rfl hg rfl rfl)).more (by omega)
 unfold au
 rw [if_pos hp]
 rw [show aa y g.c=B by rw [hg];exact Ac hy.al hB,show aM y B=aM m B by unfold aM;rw [hy.al.heads],o8 hC hBl]
theorem wQ (hC : aK m) (hBl : B < m.heads.length) (hB : aa m f.c=B) {g : Frm} (hg : g.c=f.c) (hp : 3≤g.pc∧g.pc≤6) (hs : 4≤g.pc→0≤g.slot) : Fin m 33 g:=by
 have h6 : ∀ {g : Frm},g.pc=6→0≤g.slot→Fin m 1 g:=fun {g} e s=>fun y hy=>.inl (by
  unfold au
  rw [if_neg (by omega),if_neg (by omega),if_neg (by omega),if_neg (by omega),if_neg (by omega),if_neg (by omega),if_neg (by omega),if_pos ⟨e,s⟩];rfl)
 have h5 : ∀ {g : Frm},g.c=f.c→g.pc=5→0≤g.slot→Fin m 31 g:=fun {g} hg e s=>Fin.step (g:={ g with slot:=-1,pc:=0}) (fun y hy=>by
  unfold au
  rw [if_neg (by omega),if_neg (by omega),if_neg (by omega),if_neg (by omega),if_neg (by omega),if_neg (by omega),if_pos ⟨e,s⟩]) (iM hC hBl hB hg rfl)
 have h4 : ∀ {g : Frm},g.c=f.c→g.pc=4→0≤g.slot→Fin m 32 g:=fun {g} hg e s=>fun y hy=>by
  unfold au
  rw [if_neg (by omega),if_neg (by omega),if_neg (by omega),if_neg (by omega),if_neg (by omega),if_pos ⟨e,s⟩]
  split
  ·exact .inr (h5 hg rfl s)
  ·split
   ·exact .inr (Fin.more (n:=1) (by omega) (h6 rfl s))
   ·exact .inl rfl
 by_cases e6 : g.pc=6
 ·exact (h6 e6 (hs (by omega))).more (by omega)
 by_cases e5 : g.pc=5
 ·exact (h5 hg e5 (hs (by omega))).more (by omega)
 by_cases e4 : g.pc=4
 ·exact (h4 hg e4 (hs (by omega))).more (by omega)
 intro y hy
 have e3 : g.pc=3:=by omega
 unfold au
 by_cases c : 0 < g.cur
 ·rw [if_neg (by omega),if_neg (by omega),if_neg (by omega),if_neg (by omega),if_pos ⟨e3,c⟩]
  split
  ·exact .inr (h4 hg rfl (by show 0≤g.cur - 1;omega))
  ·exact .inr (Fin.more (n:=30) (by omega) (iM hC hBl hB hg rfl))
 ·rw [if_neg (by omega),if_neg (by omega),if_neg (by omega),if_neg (by omega),if_neg (by omega),if_neg (by omega),if_neg (by omega),if_neg (by omega)]
  exact .inr (Fin.more (n:=30) (k:=32) (by omega) (iM hC hBl hB hg rfl))
theorem vv (hC : aK m) (hBl : B < m.heads.length) (hB : aa m f.c=B) : ∀ {l : List Int} {e : Int} {g : Frm},Path m g.cur l e→g.c=f.c→g.pc=1→Fin m (2 * l.length + 34) g
 | [],e,g,hpa,hg,hp=>fun y hy=>by
  unfold au
  by_cases c : g.cur=-1 - aa y g.c
  ·rw [if_neg (by omega),if_neg (by have:=hpa.2;omega),if_pos ⟨hp,c⟩]
   exact .inl rfl
  ·rw [if_neg (by omega),if_neg (by have:=hpa.2;omega),if_neg (by omega),if_neg (by omega),if_neg (by omega),if_neg (by omega),if_neg (by omega),if_neg (by omega)]
   exact .inr (Fin.more (n:=30) (by simp) (iM hC hBl hB hg rfl))
 | a :: l,e,g,hpa,hg,hp=>by
  obtain ⟨h1,h2,h3⟩:=hpa
  intro y hy
  unfold au
  rw [if_neg (by omega),if_pos ⟨hp,h2⟩]
  by_cases hk : (at1 y g).k=g.c.k
  ·rw [if_pos hk]
   exact .inr (Fin.more (n:=33) (by simp only [List.length_cons];omega) (wQ (g:={ g with pc:=3}) hC hBl hB hg (by show (3 : Int)≤3∧(3 : Int)≤6;omega) (fun p=>by have p : (4 : Int)≤3:=p;omega)))
  ·rw [if_neg hk]
   refine .inr ((Fin.step (n:=2 * l.length + 34) (g:={ g with cur:=nxt m a,pc:=1}) (fun z hz=>?_) (vv hC hBl hB h3 hg rfl)).more (by simp only [List.length_cons];omega))
   unfold au
   rw [if_neg (by simp),if_neg (by simp),if_neg (by simp),if_pos ⟨rfl,h2⟩]
   show ({ g with cur:=(msl z (g.cur - 1).toNat).next,pc:=1} : Frm)=_
   rw [h1,show a + 1 - 1=a by omega,(hz.al.sl _).1];rfl
theorem DZ (hC : aK m) (hA : Acy m) (hBl : B < m.heads.length) (hB : aa m f.c=B) (hp : 0≤f.pc∧f.pc≤6) (hs : 4≤f.pc→0≤f.slot) (hc : f.cur≤m.slots.length) : Fin m 59 f:=by
 have hpath : ∀ n : Int,n≤m.slots.length→∃ l e,Path m n l e∧l.length≤12:=fun n hn=>by
  by_cases h0 : n≤0
  ·exact ⟨[],n,⟨rfl,h0⟩,by simp⟩
  ·obtain ⟨l,e,hl⟩:=hA (n - 1) (by omega) (by omega)
   rw [show n - 1 + 1=n by omega] at hl
   exact ⟨l,e,hl,xT hC.mem hn hl⟩
 by_cases e0 : f.pc=0
 ·exact (iM hC hBl hB rfl e0).more (by omega)
 by_cases e1 : f.pc=1
 ·obtain ⟨l,e,h1,h2⟩:=hpath _ hc
  exact (vv hC hBl hB h1 rfl e1).more (by omega)
 by_cases e2 : f.pc=2
 ·by_cases c : 0 < f.cur
  ·obtain ⟨l,e,h1,h2⟩:=hpath (nxt m (f.cur - 1)) (B3 hC.mem)
   refine (Fin.step (n:=2 * l.length + 34) (g:={ f with cur:=nxt m (f.cur - 1),pc:=1}) (fun z hz=>?_) (vv hC hBl hB (f:=f) h1 rfl rfl)).more (by omega)
   unfold au
   rw [if_neg (by omega),if_neg (by omega),if_neg (by omega),if_pos ⟨e2,c⟩]
   show ({ f with cur:=(msl z (f.cur - 1).toNat).next,pc:=1} : Frm)=_
   rw [(hz.al.sl _).1];rfl
  ·refine (Fin.step (n:=30) (g:={ f with pc:=0}) (fun z hz=>?_) (iM hC hBl hB (f:=f) rfl rfl)).more (by omega)
   unfold au
   rw [if_neg (by omega),if_neg (by omega),if_neg (by omega),if_neg (by omega),if_neg (by omega),if_neg (by omega),if_neg (by omega),if_neg (by omega)]
 exact (wQ hC hBl hB rfl (by omega) hs).more (by omega)
end
end Go.Proofs.Ytpmamacjepcdmaa

namespace Go.Proofs.Ytpmamacjepcdmaa
open Go Go.Sy Go.RowKit
set_option linter.unusedSimpArgs false
set_option linter.unusedVariables false
def goP (k : Nat) : Pik:=⟨k,true,false,⟨0,⟨0,0⟩,0,0,0⟩⟩
def sw (w : Wrd) (k : Nat) : Wrd:=if (tsk w k).busy=true then (b7 w (goP k)).1.aS else w
def cf : Nat→Nat→Wrd→Wrd
 | 0,_,w=>w
 | n + 1,k,w=>cf n (k + 1) (sw w k)
def dB (w : Wrd) : Bool:=w.ts.any fun t=>t.busy
def dg : Nat→Wrd→Wrd
 | 0,w=>w
 | R + 1,w=>if dB w=true then dg R (cf w.ts.length 0 w) else w
theorem kb {w : Wrd} : dB w=true↔∃ u : Int,0≤u∧u < w.ts.length∧(tsk w u).busy=true:=by
 unfold dB
 rw [List.any_eq_true]
 constructor
 ·rintro ⟨t,h1,h2⟩
  obtain ⟨i,i0,i1,rfl⟩:=mM h1
  exact ⟨i,i0,i1,h2⟩
 ·rintro ⟨u,u0,u1,h⟩
  exact ⟨_,bQ u0 u1,h⟩
def gT (m : Mem) (f : Frm) (x : Int) : Frm:=if f.c.kind=1 then (au m f).1 else if f.c.kind=2 then (bx m f x).1 else if f.c.kind=3 then (aQ m f x).1 else if f.c.kind=4∨f.c.kind=5 then (aU m f x).1 else aD f 0
theorem rX {w : Wrd} {x : Int} (hx0 : 0≤x) (hx : x < w.ts.length) (hb : (tsk w x).busy=true) :
  (∀ u : Int,0≤u→u≠x→tsk (cG w x).1 u=tsk w u)∧(tsk (cG w x).1 x).f=gT w.m (tsk w x).f x∧(tsk (cG w x).1 x).busy=!(gT w.m (tsk w x).f x).done∧(cG w x).2=0∧(cG w x).1.ts.length=w.ts.length:=by
 have key : ∀ (y : Mem) (F : Tsk→Tsk) (g : Frm),(F (tsk w x)).f=g→(F (tsk w x)).busy=!g.done→(∀ u : Int,0≤u→u≠x→tsk ⟨y,w.ts.modify x.toNat F⟩ u=tsk w u)∧(tsk ⟨y,w.ts.modify x.toNat F⟩ x).f=g∧(tsk ⟨y,w.ts.modify x.toNat F⟩ x).busy=!g.done∧(0 : Int)=0∧(Wrd.mk y (w.ts.modify x.toNat F)).ts.length=w.ts.length:=fun y F g h1 h2 =>
  ⟨fun u u0 hne=>by rw [eI hx0 hx u0,if_neg hne],by rw [eI hx0 hx hx0,if_pos rfl];exact h1,by rw [eI hx0 hx hx0,if_pos rfl];exact h2,rfl,by simp⟩
 unfold cG gT
 rw [if_neg (by rw [hb];simp)]
 by_cases k1 : (tsk w x).f.c.kind=1
 ·rw [if_pos k1,if_pos k1]
  split
  ·exact key _ _ _ rfl rfl
  ·exact key _ _ _ rfl rfl
 rw [if_neg k1,if_neg k1]
 by_cases k2 : (tsk w x).f.c.kind=2
 ·rw [if_pos k2,if_pos k2];exact key _ _ _ rfl rfl
 rw [if_neg k2,if_neg k2]
 by_cases k3 : (tsk w x).f.c.kind=3
 ·rw [if_pos k3,if_pos k3];exact key _ _ _ rfl rfl
 rw [if_neg k3,if_neg k3]
 by_cases k4 : (tsk w x).f.c.kind=4∨(tsk w x).f.c.kind=5
 ·rw [if_pos k4,if_pos k4];exact key _ _ _ rfl rfl
 rw [if_neg k4,if_neg k4]
 split
 ·exact key _ _ _ rfl rfl
 ·exact key _ _ _ rfl rfl
theorem rC {w : Wrd} {k : Nat} (hk : k < w.ts.length) : b7 w (goP k)=cG w k:=by
 unfold b7 goP
 rw [if_neg (by simp),if_neg (by show ¬ ((k : Int) < 0∨(w.ts.length : Int)≤(k : Int));omega),if_pos rfl]
structure SwOk (w v : Wrd) (k : Nat) : Prop where
 m : v.m=(cG w k).1.m
 len : v.ts.length=w.ts.length
 other : ∀ u : Int,0≤u→u < w.ts.length→u≠k→(tsk v u).busy=(tsk w u).busy∧(tsk v u).f=(tsk w u).f∧(tsk v u).held=(tsk w u).held
 f : (tsk v k).f=gT w.m (tsk w k).f k
 busy : (tsk v k).busy=!(gT w.m (tsk w k).f k).done
theorem rU {w : Wrd} {k : Nat} (hk : k < w.ts.length) (hb : (tsk w k).busy=true) : SwOk w (sw w k) k:=by
 obtain ⟨h1,h2,h3,h4,h5⟩:=rX (w:=w) (x:=k) (by omega) (by omega) hb
 unfold sw
 rw [if_pos hb,rC hk]
 refine ⟨rfl,by rw [jP];exact h5,fun u u0 u1 hne=>?_,?_,?_⟩
 ·rw [oC u0 (by rw [h5];exact u1),h1 u u0 hne];exact ⟨rfl,rfl,rfl⟩
 ·rw [oC (by omega) (by rw [h5];omega)];exact h2
 ·rw [oC (by omega) (by rw [h5];omega)];exact h3
theorem nE (w : Wrd) (k : Nat) : (sw w k).ts.length=w.ts.length:=by
 unfold sw
 split
 ·rw [jP,sf]
 ·rfl
theorem nF {w : Wrd} (h : Inv w) (k : Nat) : Inv (sw w k):=by
 unfold sw
 split
 ·exact (lP h _).aS
 ·exact h
theorem sw_acy {w : Wrd} (h : Inv w) (ha : Acy w.m) (k : Nat) : Acy (sw w k).m:=by
 unfold sw
 split
 ·exact Acy.pick h ha _
 ·exact ha
theorem jj : ∀ (n k : Nat) {w : Wrd},Inv w→Acy w.m→Inv (cf n k w)∧Acy (cf n k w).m∧(cf n k w).ts.length=w.ts.length
 | 0,_,_,h,ha=>⟨h,ha,rfl⟩
 | n + 1,k,w,h,ha=>by
  obtain ⟨h1,h2,h3⟩:=jj n (k + 1) (nF h k) (sw_acy h ha k)
  exact ⟨h1,h2,h3.trans (nE w k)⟩
theorem qc : ∀ (R : Nat) {w : Wrd},Inv w→Acy w.m→Inv (dg R w)∧Acy (dg R w).m∧(dg R w).ts.length=w.ts.length
 | 0,_,h,ha=>⟨h,ha,rfl⟩
 | R + 1,w,h,ha=>by
  unfold dg
  split
  ·obtain ⟨h1,h2,h3⟩:=jj w.ts.length 0 h ha
   obtain ⟨g1,g2,g3⟩:=qc R h1 h2
   exact ⟨g1,g2,g3.trans h3⟩
  ·exact ⟨h,ha,rfl⟩
def aT (m : Mem) (t : Tsk) : Nat:=if t.busy=true then aF m t.f else 0
def dN (w : Wrd) : Nat:=gr (fun i=>aT w.m (tsk w i)) w.ts.length 0
theorem uU {f g : Nat→Nat} : ∀ {n b : Nat},(∀ i,b≤i→i < b + n→f i≤g i)→gr f n b≤gr g n b
 | 0,_,_=>Nat.le_refl _
 | n + 1,b,h=>by
  have h1:=h b (Nat.le_refl _) (by omega)
  have h2:=uU (f:=f) (g:=g) (n:=n) (b:=b + 1) fun i p q=>h i (by omega) (by omega)
  simp only [gr];omega
theorem zg {f g : Nat→Nat} : ∀ {n b c : Nat},b≤c→c < b + n→f c < g c→(∀ i,b≤i→i < b + n→f i≤g i)→gr f n b < gr g n b
 | 0,_,_,h1,h2,_,_=>by omega
 | n + 1,b,c,h1,h2,h3,h=>by
  have k1:=h b (Nat.le_refl _) (by omega)
  simp only [gr]
  by_cases e : b=c
  ·subst e
   have h2:=uU (f:=f) (g:=g) (n:=n) (b:=b + 1) fun i p q=>h i (by omega) (by omega)
   omega
  ·have h2:=zg (f:=f) (g:=g) (n:=n) (b:=b + 1) (c:=c) (by omega) (by omega) h3 fun i p q=>h i (by omega) (by omega)
   omega
theorem iR {f : Nat→Nat} {M : Nat} : ∀ {n b : Nat},(∀ i,b≤i→i < b + n→f i≤M)→gr f n b≤n * M
 | 0,_,_=>by simp [gr]
 | n + 1,b,h=>by
  have h1:=h b (Nat.le_refl _) (by omega)
  have h2:=iR (f:=f) (M:=M) (n:=n) (b:=b + 1) fun i p q=>h i (by omega) (by omega)
  simp only [gr,Nat.succ_mul];omega
theorem DB {w : Wrd} (h : Inv w) : dN w≤225:=by
 have:=iR (f:=fun i=>aT w.m (tsk w i)) (M:=45) (n:=w.ts.length) (b:=0) fun i _ _=>by
  show aT w.m (tsk w i)≤45
  unfold aT
  split
  ·exact aF_le h.ch _
  ·omega
 have h5:=h.lo.2
 have : w.ts.length * 45≤5 * 45:=Nat.mul_le_mul_right _ h5
 unfold dN
 omega
theorem AJ {w : Wrd} (h : Inv w) {x u : Int} (hx0 : 0≤x) (hx : x < w.ts.length) (u0 : 0≤u) (u1 : u < w.ts.length) (hne : u≠x) (ub : (tsk w u).busy=true) (uh : bq (tsk w u).f) : chF (cG w x).1.m (tsk w u).f=chF w.m (tsk w u).f:=by
 have hD:=pz h hx0 hx
 have hB:=aC h.ch.mem.lu (h.fo _ (bQ u0 u1) ub).call (by unfold bq at uh;omega)
 unfold chF
 rw [bw (m:=w.m) _ (hD.lens h.ch).2.1]
 refine hD.chains (by omega) fun ⟨a1,a2,a3⟩=>?_
 have:=h.apart u0 u1 hx0 hx hne ub a1 uh a2
 omega
def Dg (w : Wrd) (u : Int) : Prop:=¬ bq (tsk w u).f∧w.m.af.getD (aa w.m (tsk w u).f.c).toNat 0≠-1
theorem ym (m : Mem) (f : Frm) : (au m f).2.af=m.af:=by
 unfold au
 by_cases e3 : f.pc=3∧0 < f.cur
 ·rw [if_neg (by omega),if_neg (by omega),if_neg (by omega),if_neg (by omega),if_pos e3]
  rcases kM m (f.cur - 1) with ⟨k1,k2⟩ | ⟨k1,k2⟩
  ·rw [k1,if_neg (by decide)]
  ·rw [k1,if_pos rfl,k2]
 ·repeat' split
  all_goals first
   | exact absurd (by assumption) e3
   | rfl
   | exact eJ _ _
theorem vU {w : Wrd} {x : Int} (hb : (tsk w x).busy=true) :
  ((tsk w x).f.c.kind=1→(cG w x).1.m=(au w.m (tsk w x).f).2)∧((tsk w x).f.c.kind=2→(cG w x).1.m=(bx w.m (tsk w x).f x).2)∧((tsk w x).f.c.kind=3→(cG w x).1.m=(aQ w.m (tsk w x).f x).2)∧((tsk w x).f.c.kind=4∨(tsk w x).f.c.kind=5→(cG w x).1.m=(aU w.m (tsk w x).f x).2):=by
 unfold cG
 rw [if_neg (by rw [hb];simp)]
 refine ⟨fun k=>?_,fun k=>?_,fun k=>?_,fun k=>?_⟩
 ·rw [if_pos k]
  split <;> rfl
 ·rw [if_neg (by omega),if_pos k];rfl
 ·rw [if_neg (by omega),if_neg (by omega),if_pos k];rfl
 ·rw [if_neg (by omega),if_neg (by omega),if_neg (by omega),if_pos k];rfl
theorem xL {w : Wrd} (h : Inv w) {k : Nat} (hk : k < w.ts.length) (hb : (tsk w k).busy=true) :
  dN (sw w k) < dN w∨(dN (sw w k)≤dN w∧(tsk w k).f.c.kind=1∧(sw w k).m.af=w.m.af∧((tsk (sw w k) k).busy=true→(tsk (sw w k) k).f.c.kind=1)) ∨
   (dN (sw w k)≤dN w∧Dg w k∧(sw w k).m=w.m∧(tsk (sw w k) k).busy=true∧(tsk (sw w k) k).f=(tsk w k).f):=by
 obtain ⟨s1,s2,s3,s4,s5⟩:=rU hk hb
 have hx0 : (0 : Int)≤k:=by omega
 have hx : (k : Int) < w.ts.length:=by omega
 have hot : ∀ i : Nat,i < w.ts.length→i≠k→aT (sw w k).m (tsk (sw w k) i)=aT w.m (tsk w i):=fun i hi hne=>by
  obtain ⟨o1,o2,_⟩:=s3 i (by omega) (by omega) (by omega)
  unfold aT
  rw [o1,o2]
  split
  ·rename_i hbi
   exact D9 fun hh=>by rw [s1];exact AJ h hx0 hx (by omega) (by omega) (by omega) hbi hh
  ·rfl
 have hle : aT (sw w k).m (tsk (sw w k) k)≤aT w.m (tsk w k)→dN (sw w k)≤dN w:=fun g=>by
  unfold dN
  rw [s2]
  refine uU fun i _ hi=>?_
  by_cases e : i=k
  ·subst e;exact g
  ·exact Nat.le_of_eq (hot i (by omega) e)
 have hlt : aT (sw w k).m (tsk (sw w k) k) < aT w.m (tsk w k)→dN (sw w k) < dN w:=fun g=>by
  unfold dN
  rw [s2]
  refine zg (c:=k) (by omega) (by omega) g fun i _ hi=>?_
  by_cases e : i=k
  ·subst e;exact Nat.le_of_lt g
  ·exact Nat.le_of_eq (hot i (by omega) e)
 have ha : aT w.m (tsk w k)=aF w.m (tsk w k).f:=by unfold aT;rw [if_pos hb]
 obtain ⟨m1,m2,m3,m4⟩:=vU hb
 have hdone : (gT w.m (tsk w k).f k).done=true→aT (sw w k).m (tsk (sw w k) k)=0:=fun e=>by unfold aT;rw [s5,e];rfl
 by_cases k1 : (tsk w k).f.c.kind=1
 ·have ec : (gT w.m (tsk w k).f k).c=(tsk w k).f.c:=by unfold gT;rw [if_pos k1];exact nV
  refine .inr (.inl ⟨hle ?_,k1,by rw [s1,m1 k1];exact ym _ _,fun _=>by rw [s4,ec];exact k1⟩)
  have : aT (sw w k).m (tsk (sw w k) k)=0:=by
   unfold aT
   split
   ·rw [s4];unfold aF;rw [ec,if_pos k1]
   ·rfl
  omega
 have hpos:=Df w.m (tsk w k).f k1
 have hgo : ∀ {r : Frm × Mem} {lk : Int},gT w.m (tsk w k).f k=r.1→(cG w k).1.m=r.2→(tsk w k).f.done=false→((tsk w k).f.pc=lk→¬ bq (tsk w k).f)→yT w.m (tsk w k).f r lk →
   dN (sw w k) < dN w∨(dN (sw w k)≤dN w∧(tsk w k).f.c.kind=1∧(sw w k).m.af=w.m.af∧((tsk (sw w k) k).busy=true→(tsk (sw w k) k).f.c.kind=1)) ∨
   (dN (sw w k)≤dN w∧Dg w k∧(sw w k).m=w.m∧(tsk (sw w k) k).busy=true∧(tsk (sw w k) k).f=(tsk w k).f):=fun {r} {lk} e1 e2 hd hh hL=>by
  rcases hL with ⟨l1,l2,l3⟩ | l | ⟨l1,l2,l3⟩
  ·have em : (sw w k).m=w.m:=by rw [s1,e2,l1]
   have ef : (tsk (sw w k) k).f=(tsk w k).f:=by rw [s4,e1,l1]
   have eb : (tsk (sw w k) k).busy=true:=by rw [s5,e1,l1];show (!(tsk w k).f.done)=true;rw [hd];rfl
   refine .inr (.inr ⟨hle ?_,⟨hh l2,l3⟩,em,eb,ef⟩)
   unfold aT
   rw [eb,ef,em,hb];exact Nat.le_refl _
  ·have:=hdone (by rw [e1];exact l)
   exact .inl (hlt (by omega))
  ·refine .inl (hlt ?_)
   rw [ha]
   have : aT (sw w k).m (tsk (sw w k) k)≤aF r.2 r.1:=by
    unfold aT
    split
    ·rw [s4,e1,s1,e2];exact Nat.le_refl _
    ·omega
   omega
 obtain ⟨hf,hF,hd⟩:=cL h hx0 hx hb
 by_cases k2 : (tsk w k).f.c.kind=2
 ·exact hgo (by unfold gT;rw [if_neg k1,if_pos k2]) (m2 k2) hd (fun e hh=>by unfold bq at hh;omega) (Dc h hx0 hx hb k2)
 by_cases k3 : (tsk w k).f.c.kind=3
 ·exact hgo (by unfold gT;rw [if_neg k1,if_neg k2,if_pos k3]) (m3 k3) hd (fun e hh=>by unfold bq at hh;omega) (Bj h hx0 hx hb k3)
 by_cases k4 : (tsk w k).f.c.kind=4∨(tsk w k).f.c.kind=5
 ·exact hgo (by unfold gT;rw [if_neg k1,if_neg k2,if_neg k3,if_pos k4]) (m4 k4) hd (fun e hh=>by unfold bq at hh;omega) (xJ h hx0 hx hb k4)
 ·have:=hdone (by unfold gT;rw [if_neg k1,if_neg k2,if_neg k3,if_neg k4];rfl)
  exact .inl (hlt (by omega))
theorem sw_le {w : Wrd} (h : Inv w) {k : Nat} (hk : k < w.ts.length) : dN (sw w k)≤dN w:=by
 by_cases hb : (tsk w k).busy=true
 ·rcases xL h hk hb with g | ⟨g,_⟩ | ⟨g,_⟩
  ·exact Nat.le_of_lt g
  ·exact g
  ·exact g
 ·unfold sw;rw [if_neg hb];exact Nat.le_refl _
theorem tT : ∀ {n k : Nat} {w : Wrd},Inv w→k + n≤w.ts.length→dN (cf n k w)≤dN w
 | 0,_,_,_,_=>Nat.le_refl _
 | n + 1,k,w,h,hk=>by
  show dN (cf n (k + 1) (sw w k))≤_
  exact Nat.le_trans (tT (w:=sw w k) (nF h k) (by rw [nE];omega)) (sw_le h (by omega))
structure Calm (w v : Wrd) : Prop where
 af : v.m.af=w.m.af
 heads : v.m.heads.length=w.m.heads.length
 len : v.ts.length=w.ts.length
 tk : ∀ u : Int,0≤u→u < w.ts.length→(tsk v u).busy=true→(tsk v u).f.c.kind≠1→(tsk w u).busy=true∧(tsk w u).f=(tsk v u).f
 kt : ∀ u : Int,0≤u→u < w.ts.length→(tsk w u).busy=true→(tsk w u).f.c.kind≠1→(tsk v u).busy=true∧(tsk v u).f=(tsk w u).f
theorem kr {w : Wrd} : ∀ {n k : Nat} {v : Wrd},k + n=w.ts.length→Inv v→Calm w v→dN v≤dN w→(∀ j : Nat,j < k→(tsk w j).busy=true→(tsk w j).f.c.kind≠1→Dg w j) →
  dN (cf n k v) < dN w∨∀ j : Nat,j < w.ts.length→(tsk w j).busy=true→(tsk w j).f.c.kind≠1→Dg w j
 | 0,k,v,hk,h,hc,hs,hw=>.inr fun j hj=>hw j (by omega)
 | n + 1,k,v,hk,h,hc,hs,hw=>by
  have hkv : k < v.ts.length:=by rw [hc.len];omega
  show dN (cf n (k + 1) (sw v k)) < dN w∨_
  by_cases hb : (tsk v k).busy=true
  ·have hok:=rU hkv hb
   have hD:=pz h (x:=k) (by omega) (by omega)
   have hh : (sw v k).m.heads.length=w.m.heads.length:=by rw [hok.m,(hD.lens h.ch).2.1,hc.heads]
   rcases xL h hkv hb with g | ⟨g,g1,g2,g3⟩ | ⟨g,g1,g2,g3,g4⟩
   ·have:=tT (n:=n) (k:=k + 1) (nF h k) (by rw [nE,hc.len];omega)
    exact .inl (by omega)
   ·refine kr (by omega) (nF h k) ⟨g2.trans hc.af,hh,(nE v k).trans hc.len,fun u u0 u1 ub uk=>?_,fun u u0 u1 ub uk=>?_⟩ (by omega) fun j hj jb jk=>?_
    ·by_cases e : u=k
     ·subst e;exact absurd (g3 ub) uk
     ·obtain ⟨o1,o2,_⟩:=hok.other u u0 (by rw [hc.len];exact u1) e
      rw [o1] at ub
      rw [o2] at uk ⊢
      exact hc.tk u u0 u1 ub uk
    ·obtain ⟨c1,c2⟩:=hc.kt u u0 u1 ub uk
     by_cases e : u=k
     ·subst e;exact absurd g1 (by rw [c2];exact uk)
     ·obtain ⟨o1,o2,_⟩:=hok.other u u0 (by rw [hc.len];exact u1) e
      exact ⟨o1.trans c1,o2.trans c2⟩
    ·by_cases e : j=k
     ·subst e
      obtain ⟨c1,c2⟩:=hc.kt j (by omega) (by omega) jb jk
      exact absurd g1 (by rw [c2];exact jk)
     ·exact hw j (by omega) jb jk
   ·have hwk : ∀ jb : (tsk w k).busy=true,(tsk w k).f.c.kind≠1→Dg w k:=fun jb jk=>by
     obtain ⟨c1,c2⟩:=hc.kt k (by omega) (by omega) jb jk
     obtain ⟨w1,w2⟩:=g1
     rw [c2] at w1 w2
     rw [hc.af,bw (m:=w.m) _ hc.heads] at w2
     exact ⟨w1,w2⟩
    refine kr (by omega) (nF h k) ⟨by rw [g2];exact hc.af,hh,(nE v k).trans hc.len,fun u u0 u1 ub uk=>?_,fun u u0 u1 ub uk=>?_⟩ (by omega) fun j hj jb jk=>?_
    ·by_cases e : u=k
     ·subst e
      rw [g4] at uk ⊢
      exact hc.tk _ u0 u1 hb uk
     ·obtain ⟨o1,o2,_⟩:=hok.other u u0 (by rw [hc.len];exact u1) e
      rw [o1] at ub
      rw [o2] at uk ⊢
      exact hc.tk u u0 u1 ub uk
    ·obtain ⟨c1,c2⟩:=hc.kt u u0 u1 ub uk
     by_cases e : u=k
     ·subst e;exact ⟨g3,g4.trans c2⟩
     ·obtain ⟨o1,o2,_⟩:=hok.other u u0 (by rw [hc.len];exact u1) e
      exact ⟨o1.trans c1,o2.trans c2⟩
    ·by_cases e : j=k
     ·subst e;exact hwk jb jk
     ·exact hw j (by omega) jb jk
  ·have hse : sw v k=v:=by unfold sw;rw [if_neg hb]
   rw [hse]
   refine kr (by omega) h hc hs fun j hj jb jk=>?_
   by_cases e : j=k
   ·subst e
    exact absurd (hc.kt j (by omega) (by omega) jb jk).1 hb
   ·exact hw j (by omega) jb jk
theorem xN {w : Wrd} (h : Inv w) {u : Int} (u0 : 0≤u) (u1 : u < w.ts.length) (ub : (tsk w u).busy=true) (uk : (tsk w u).f.c.kind≠1) : dN (cf w.ts.length 0 w) < dN w:=by
 rcases kr (w:=w) (n:=w.ts.length) (k:=0) (v:=w) (by omega) h ⟨rfl,rfl,rfl,fun _ _ _ b _=>⟨b,rfl⟩,fun _ _ _ b _=>⟨b,rfl⟩⟩ (Nat.le_refl _) (fun j hj=>by omega) with g | g
 ·exact g
 ·exfalso
  have hu:=g u.toNat (by omega)
  rw [show ((u.toNat : Nat) : Int)=u by omega] at hu
  obtain ⟨_,w2⟩:=hu ub uk
  obtain ⟨hf,hF,hd⟩:=cL h u0 u1 ub
  have hne : ∀ b : Nat,w.m.af.getD b 0≠-1→b < w.m.af.length→False:=fun b hb hl=>by
   rcases h.lk b hl with e | ⟨t0,t1,tb,th,_⟩
   ·exact hb e
   ·have ht:=g (w.m.af.getD b 0).toNat (by omega)
    rw [show (((w.m.af.getD b 0).toNat : Nat) : Int)=w.m.af.getD b 0 by omega] at ht
    exact (ht tb (by unfold bq at th;omega)).1 th
  refine hne _ w2 (Classical.byContradiction fun hl=>?_)
  have hlen:=h.ch.mem.nl
  have hc:=hf.call
  by_cases k6 : (tsk w u).f.c.kind=6
  ·-- a Leave waits for nobody
   have:=xL h (k:=u.toNat) (by omega) (by rw [show ((u.toNat : Nat) : Int)=u by omega];exact ub)
   rw [show ((u.toNat : Nat) : Int)=u by omega] at this
   rcases this with q | ⟨_,q,_⟩ | ⟨_,_,_,q,_⟩
   ·have hbk : 0≤aa w.m (tsk w u).f.c∧aa w.m (tsk w u).f.c < w.m.heads.length∨¬ Key.Ok (tsk w u).f.c.k:=by
     by_cases hk : Key.Ok (tsk w u).f.c.k
     ·refine .inl ?_
      unfold aa
      rw [if_neg (by omega)]
      have h1:=h.ch.mem.nh1
      have h4:=h.ch.mem.nh4
      have:=qg hk (n:=w.m.heads.length) (by omega) (by omega)
      exact ⟨this.1,this.2.1⟩
     ·exact .inr hk
    rcases hbk with e | e
    ·omega
    ·have : aa w.m (tsk w u).f.c=0:=by
      unfold aa
      rw [if_neg (by omega),yP e]
     have h1:=h.ch.mem.nh1
     rw [this] at hl
     apply hl
     show (0 : Int).toNat < _
     simp;omega
   ·exact absurd q uk
   ·have hok:=(rU (w:=w) (k:=u.toNat) (by omega) (by rw [show ((u.toNat : Nat) : Int)=u by omega];exact ub)).busy
    rw [show ((u.toNat : Nat) : Int)=u by omega] at hok
    rw [q] at hok
    unfold gT at hok
    rw [if_neg (by omega),if_neg (by omega),if_neg (by omega),if_neg (by omega)] at hok
    cases hok
  ·have hk : 1≤(tsk w u).f.c.kind∧(tsk w u).f.c.kind≤5:=by
    unfold aV at hc
    split at hc
    ·omega
    ·split at hc
     ·omega
     ·split at hc
      ·omega
      ·exact absurd hc (by decide)
   have:=aC h.ch.mem.lu hf.call hk
   omega
theorem BX {w : Wrd} (h : Inv w) : ∀ j,j < w.m.slots.length→(msl w.m j).refs < 1000:=fun j hj=>by
 have h1:=h.rf j hj
 have h2 : fe w.m j≤w.m.heads.length * 1:=iR fun i _ hi=>by
  show (chL w.m i).count (j : Int)≤1
  exact List.nodup_iff_count.1 (h.ch.ch (by omega)).ndl _
 have h3 : ∀ l : List Tsk,(∀ t∈l,t.held.length≤100)→gZ j l≤l.length * 101:=fun l=>by
  induction l with
  | nil=>intro _;show (0 : Int)≤_;simp
  | cons t l ih =>
   intro hl
   have k1:=ih fun u hu=>hl u (by simp [hu])
   have k2:=hl t (by simp)
   have k3 : t.held.count (j : Int)≤t.held.length:=List.count_le_length
   simp only [gZ,fc,List.length_cons]
   split <;> omega
 have h4:=h3 w.ts fun t ht=>(h.hd t ht).1
 have h5:=h.lo.2
 have h6:=h.ch.mem.nh4
 omega
theorem DS {w : Wrd} {m : Mem} (h : Inv w) (ha : Alike m w.m) : Good m w.m:=⟨ha,h.ch,BX h⟩
theorem nU {m : Mem} {N : Nat} : ∀ {n k : Nat} {w : Wrd},k + n=w.ts.length→Inv w→Alike m w.m→(∀ j : Nat,j < w.ts.length→(tsk w j).busy=true→(tsk w j).f.c.kind=1∧(j < k→Fin m N (tsk w j).f)∧(k≤j→Fin m (N + 1) (tsk w j).f)) →
  Alike m (cf n k w).m∧∀ j : Nat,j < w.ts.length→(tsk (cf n k w) j).busy=true→(tsk (cf n k w) j).f.c.kind=1∧Fin m N (tsk (cf n k w) j).f
 | 0,k,w,hk,h,ha,hF=>⟨ha,fun j hj hb=>by
  obtain ⟨k1,k2,_⟩:=hF j hj hb
  exact ⟨k1,k2 (by omega)⟩⟩
 | n + 1,k,w,hk,h,ha,hF=>by
  show Alike m (cf n (k + 1) (sw w k)).m∧∀ j : Nat,j < w.ts.length→(tsk (cf n (k + 1) (sw w k)) j).busy=true→(tsk (cf n (k + 1) (sw w k)) j).f.c.kind=1∧Fin m N (tsk (cf n (k + 1) (sw w k)) j).f
  rw [← nE w k]
  by_cases hb : (tsk w k).busy=true
  ·obtain ⟨s1,s2,s3,s4,s5⟩:=rU (k:=k) (by omega) hb
   obtain ⟨k1,_,k3⟩:=hF k (by omega) hb
   have hfr:=h.fo _ (bQ (t:=(k : Int)) (by omega) (by omega)) hb
   have en : gT w.m (tsk w k).f k=(au w.m (tsk w k).f).1:=by unfold gT;rw [if_pos k1]
   have hm : (sw w k).m=(au w.m (tsk w k).f).2:=by rw [s1];exact (vU hb).1 k1
   refine nU (by rw [s2];omega) (nF h k) (by rw [hm];exact ha.trans (yn hfr.cur1 hfr.slot1)) fun j hj jb=>?_
   rw [s2] at hj
   by_cases e : j=k
   ·subst e
    rw [s5,en] at jb
    rw [s4,en]
    rcases k3 (by omega) w.m (DS h ha) with q | q
    ·rw [q] at jb;cases jb
    ·exact ⟨by rw [nV];exact k1,fun _=>q,fun _=>by omega⟩
   ·obtain ⟨o1,o2,_⟩:=s3 j (by omega) (by omega) (by omega)
    rw [o1] at jb
    rw [o2]
    obtain ⟨q1,q2,q3⟩:=hF j hj jb
    exact ⟨q1,fun _=>q2 (by omega),fun _=>q3 (by omega)⟩
  ·have hse : sw w k=w:=by unfold sw;rw [if_neg hb]
   rw [hse]
   refine nU (n:=n) (k:=k + 1) (by omega) h ha fun j hj jb=>?_
   obtain ⟨q1,q2,q3⟩:=hF j hj jb
   refine ⟨q1,fun p=>?_,fun p=>q3 (by omega)⟩
   by_cases e : j=k
   ·subst e;exact absurd jb hb
   ·exact q2 (by omega)
theorem uH {m : Mem} : ∀ {R n : Nat} {w : Wrd},n≤R→Inv w→Acy w.m→Alike m w.m→(∀ j : Nat,j < w.ts.length→(tsk w j).busy=true→(tsk w j).f.c.kind=1∧Fin m n (tsk w j).f)→dB (dg R w)=false
 | R,0,w,hn,h,hc,ha,hF=>by
  have hb : dB w=false:=by
   cases e : dB w with
   | false=>rfl
   | true =>
    obtain ⟨u,u0,u1,ub⟩:=kb.1 e
    have:=hF u.toNat (by omega)
    rw [show ((u.toNat : Nat) : Int)=u by omega] at this
    exact (this ub).2.elim
  cases R with
  | zero=>exact hb
  | succ R=>unfold dg;rw [if_neg (by rw [hb];simp)];exact hb
 | 0,n + 1,w,hn,h,hc,ha,hF=>by omega
 | R + 1,n + 1,w,hn,h,hc,ha,hF=>by
  unfold dg
  split
  ·obtain ⟨g1,g2⟩:=nU (N:=n) (n:=w.ts.length) (k:=0) (by omega) h ha fun j hj jb=>⟨(hF j hj jb).1,fun p=>by omega,fun _=>(hF j hj jb).2⟩
   obtain ⟨q1,q2,q3⟩:=jj w.ts.length 0 h hc
   exact uH (by omega) q1 q2 g1 fun j hj jb=>g2 j (by rw [← q3];exact hj) jb
  ·rename_i hb
   simpa using hb
theorem Aq {w : Wrd} (h0 : dN w=0) {u : Int} (u0 : 0≤u) (u1 : u < w.ts.length) (ub : (tsk w u).busy=true) : (tsk w u).f.c.kind=1:=by
 refine Classical.byContradiction fun hk=>?_
 have h1:=rW (f:=fun i=>aT w.m (tsk w i)) (n:=w.ts.length) (b:=0) (i:=u.toNat) (by omega) (by omega)
 have h2 : gr (fun i=>aT w.m (tsk w i)) w.ts.length 0=0:=h0
 rw [h2] at h1
 have h1 : aT w.m (tsk w ((u.toNat : Nat) : Int))≤0:=h1
 rw [show ((u.toNat : Nat) : Int)=u by omega] at h1
 have:=Df w.m (tsk w u).f hk
 unfold aT at h1
 rw [if_pos ub] at h1
 omega
theorem AX {w : Wrd} (h : Inv w) (ha : Acy w.m) {u : Int} (u0 : 0≤u) (u1 : u < w.ts.length) (ub : (tsk w u).busy=true) (hk : (tsk w u).f.c.kind=1) : Fin w.m 59 (tsk w u).f:=by
 obtain ⟨hf,hF,hd⟩:=cL h u0 u1 ub
 have hbr:=aC h.ch.mem.lu hf.call (by omega)
 obtain ⟨p1,p2,_⟩:=hF.look hk
 exact DZ (B:=(aa w.m (tsk w u).f.c).toNat) h.ch ha (by omega) (by omega) ⟨hf.pc0,p1⟩ p2 hf.cur1
theorem te : ∀ {R : Nat} {w : Wrd},dN w + 59≤R→Inv w→Acy w.m→dB (dg R w)=false
 | R,w,hR,h,ha=>by
  by_cases h0 : dN w=0
  ·refine uH (m:=w.m) (n:=59) (by omega) h ha (Alike.same _) fun j hj jb=>?_
   have hk:=Aq h0 (u:=(j : Int)) (by omega) (by omega) jb
   exact ⟨hk,AX h ha (by omega) (by omega) jb hk⟩
  ·cases R with
   | zero=>omega
   | succ R =>
    unfold dg
    split
    ·have hex : ∃ u : Int,0≤u∧u < w.ts.length∧(tsk w u).busy=true∧(tsk w u).f.c.kind≠1:=Classical.byContradiction fun hn=>h0 (by
      have : gr (fun i=>aT w.m (tsk w i)) w.ts.length 0≤w.ts.length * 0:=iR fun i _ hi=>by
       show aT w.m (tsk w i)≤0
       unfold aT
       split
       ·rename_i hb
        have : (tsk w i).f.c.kind=1:=Classical.byContradiction fun hk=>hn ⟨i,by omega,by omega,hb,hk⟩
        unfold aF
        rw [if_pos this];exact Nat.le_refl _
       ·exact Nat.le_refl _
      have e : dN w≤w.ts.length * 0:=this
      omega)
     obtain ⟨u,u0,u1,ub,uk⟩:=hex
     have hl:=xN h u0 u1 ub uk
     obtain ⟨q1,q2,_⟩:=jj w.ts.length 0 h ha
     exact te (R:=R) (by omega) q1 q2
    ·rename_i hb
     simpa using hb
theorem yA {w : Wrd} (h : Inv w) (hb : dB w=false) : ∀ b,b < w.m.af.length→w.m.af.getD b 0=-1:=fun b hbl=>by
 rcases h.lk b hbl with e | ⟨t0,t1,tb,_⟩
 ·exact e
 ·have:=kb.2 ⟨_,t0,t1,tb⟩
  rw [hb] at this;cases this
end Go.Proofs.Ytpmamacjepcdmaa
