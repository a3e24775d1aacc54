import Derived.Test.YtpmamacjepcdmaaCHist2
import Derived.Test.YtpmamacjepcdmaaCAcy
namespace Go.Proofs.Ytpmamacjepcdmaa
open Go Go.Sy Go.RowKit
set_option linter.unusedSimpArgs false
set_option linter.unusedVariables false
theorem JC {p : Pst} (hk : p.c.kind=2) {a b : Mem} (h : (p.e=0→fnd a p.c.k=none∧∃ g,fnd b p.c.k=some g∧g.slot=p.slot)∧(p.e=6→(∃ g,fnd a p.c.k=some g)∨∃ g,fnd b p.c.k=some g)) : Acc p a b:=by
 unfold Acc HR
 rw [if_neg (by omega),if_pos hk]
 by_cases e0 : p.e=0
 ·obtain ⟨h1,g,h2,h3⟩:=h.1 e0
  rw [if_pos e0,h1,h2]
  simp [I7,h3]
 ·rw [if_neg e0]
  by_cases e6 : p.e=6
  ·rw [if_pos e6]
   rcases h.2 e6 with ⟨g,hg⟩ | ⟨g,hg⟩
   ·rw [hg];simp
   ·rw [hg];simp
  ·rw [if_neg e6]
theorem Kv {p : Pst} (hk : p.c.kind=3) {a b : Mem} (h : (p.e=0→∃ g,fnd a p.c.k=some g∧fnd b p.c.k=none)∧(p.e≠0→fnd a p.c.k=none∨fnd b p.c.k=none)) : Acc p a b:=by
 unfold Acc HR
 rw [if_neg (by omega),if_neg (by omega),if_pos hk]
 by_cases e0 : p.e=0
 ·obtain ⟨g,h1,h2⟩:=h.1 e0
  rw [if_pos e0,h1,h2];rfl
 ·rw [if_neg e0]
  rcases h.2 e0 with g | g
  ·rw [g];simp
  ·rw [g];simp
theorem Nd {p : Pst} {hs : List Mem} {f : Frm} (h : MD hs f) (h2 : 2≤hs.length) (h7 : f.pc=7) (hk : p.c.kind=2) (hc : p.c=f.c) (he : p.e=f.e) (hsl : p.slot=f.slot) : JY p hs:=by
 obtain ⟨o1,o2⟩:=h.over h7
 by_cases e0 : f.e=0
 ·obtain ⟨p1,b,a,s,e,h3,h4⟩:=o1 e0
  exact ⟨p1,b,a,s,e,JC hk ⟨fun _=>by rw [hc,hsl];exact ⟨h3,h4⟩,fun x=>by omega⟩⟩
 ·by_cases e6 : f.e=6
  ·obtain ⟨y,hy,g,hg⟩:=o2 e6
   exact H9 hy h2 fun z=>⟨JC hk ⟨fun x=>by omega,fun _=>.inr ⟨g,by rw [hc];exact hg⟩⟩,JC hk ⟨fun x=>by omega,fun _=>.inl ⟨g,by rw [hc];exact hg⟩⟩⟩
  ·have ne : p.e≠0∧p.e≠6:=by omega
   match hs,h2 with
   | b :: a :: s,_=>exact ⟨[],b,a,s,rfl,JC hk ⟨fun x=>absurd x ne.1,fun x=>absurd x ne.2⟩⟩
theorem ME {p : Pst} {hs : List Mem} {m : Mem} {f : Frm} (h : Me hs m f) (h2 : 2≤hs.length) (h6 : f.pc=6) (hk : p.c.kind=3) (hc : p.c=f.c) (he : p.e=f.e) : JY p hs:=by
 obtain ⟨o1,o2⟩:=h.over (.inr h6)
 by_cases e0 : f.e=0
 ·obtain ⟨p1,b,a,s,e,g,h3,h4⟩:=o1 e0
  exact ⟨p1,b,a,s,e,Kv hk ⟨fun _=>by rw [hc];exact ⟨g,h3,h4⟩,fun x=>by omega⟩⟩
 ·obtain ⟨y,hy,hn⟩:=o2 e0
  exact H9 hy h2 fun z=>⟨Kv hk ⟨fun x=>by omega,fun _=>.inr (by rw [hc];exact hn)⟩,Kv hk ⟨fun x=>by omega,fun _=>.inl (by rw [hc];exact hn)⟩⟩
def Own (s : List Mem) (m : Mem) (f : Frm) (r : Frm × Mem) : Prop :=
 (r.1.done=false→HZ (m :: s) r.2 r.1)∧(r.1.done=true→∀ p : Pst,p.c=f.c→p.e=r.1.e→p.slot=r.1.slot→JY p (r.2 :: m :: s))
theorem MP {w : Wrd} (h : Inv w) {x : Int} (hx0 : 0≤x) (hx : x < w.ts.length) (hb : (tsk w x).busy=true) (hk : (tsk w x).f.c.kind=1) {s : List Mem} (hi : HZ s w.m (tsk w x).f) (hy : aK (ar w.m (tsk w x).f).2) : Own s w.m (tsk w x).f (ar w.m (tsk w x).f):=by
 obtain ⟨hf,hF,hd⟩:=fe h hx0 hx hb
 have hD:=uY h (fun _=>False) hx0 hx hb hk
 obtain ⟨l1,l2,l3⟩:=hD.lens h.ch
 have hK:=hD.kin h.ch
 rcases Mr hi hk hd hF with ⟨g1,g2⟩ | ⟨g1,g2⟩
 ·refine ⟨fun _=>g2.more hy l2 l3 hK (fun k=>?_) (fun k=>?_),fun e=>?_⟩
  ·rw [zv] at k;omega
  ·rw [zv] at k;omega
  ·rw [g1] at e;cases e
 ·exact ⟨fun e=>(by rw [g1] at e;cases e),fun _ p c1 c2 c3=>(g2 p c1 c2 c3).more _⟩
theorem Km {s : List Mem} {m y : Mem} {f g : Frm} (h : HZ s m f) (hy : aK y) (hl : y.heads.length=m.heads.length) (hn : m.now≤y.now) (hk : g.c.kind≠1) (ha : g.c.kind=2→MD (y :: m :: s) g) (hd : g.c.kind=3→Me (y :: m :: s) y g) : HZ (m :: s) y g :=
 ⟨by rw [hl];exact KN h.ok hy hl hn,by simp,fun k=>absurd k hk,ha,hd⟩
theorem Np {w : Wrd} (h : Inv w) {x : Int} (hx0 : 0≤x) (hx : x < w.ts.length) (hb : (tsk w x).busy=true) (hk : (tsk w x).f.c.kind=2) {s : List Mem} (hi : HZ s w.m (tsk w x).f) (hy : aK (G3 w.m (tsk w x).f x).2) : Own s w.m (tsk w x).f (G3 w.m (tsk w x).f x):=by
 obtain ⟨hf,hF,hd⟩:=fe h hx0 hx hb
 have hD:=Eh h hx0 hx hb hk
 obtain ⟨l1,l2,l3⟩:=hD.lens h.ch
 have hbr:=aQ h.ch.mem.rJ hf.call (by omega)
 have ek : aa w.m (tsk w x).f.c=bk w.m (tsk w x).f.c.k:=by unfold aa bk;rw [if_neg (by omega)]
 obtain ⟨B,hB⟩ : ∃ B : Nat,aa w.m (tsk w x).f.c=B:=⟨(aa w.m (tsk w x).f.c).toNat,by omega⟩
 have hBl : B < w.m.heads.length:=by omega
 have hch : chF w.m (tsk w x).f=chL w.m B:=by unfold chF;rw [hB];rfl
 have A:=(hi.add hk)
 have hC:=h.ch
 generalize hye : (G3 w.m (tsk w x).f x).2=y at *
 generalize hfe : (tsk w x).f=f at *
 have p7:=(hF.add hk).1
 have p0:=hf.pc0
 have go : ∀ g : Frm,g.c=f.c→g.done=false→(g.pc=6→∃ z∈y :: w.m :: s,∃ q,fnd z f.c.k=some q)→(g.pc=7→(g.e=0→∃ p1 b a t,y :: w.m :: s=p1 ++ b :: a :: t∧fnd a f.c.k=none∧∃ q,fnd b f.c.k=some q∧q.slot=g.slot)∧(g.e=6→∃ z∈y :: w.m :: s,∃ q,fnd z f.c.k=some q))→Own s w.m f (g,y):=fun g e1 e2 e3 e4 =>
  ⟨fun _=>Km hi hy l2 l3 (by rw [e1];omega) (fun _=>⟨by rw [e1];exact e3,by rw [e1];exact e4⟩) (fun k=>by rw [e1] at k;omega),fun e=>by rw [e2] at e;cases e⟩
 have early : ∀ g : Frm,g.c=f.c→g.done=false→g.pc < 6→Own s w.m f (g,y):=fun g e1 e2 e3=>go g e1 e2 (fun p=>by omega) fun p=>by omega
 have any : ∀ p : Pst,p.c=f.c→p.e=7→JY p (y :: w.m :: s):=fun p c e=>⟨[],y,w.m,s,rfl,JC (by rw [c];exact hk) ⟨fun x=>by omega,fun x=>by omega⟩⟩
 have pr : ∀ r : Frm × Mem,r.2=y→Own s w.m f (r.1,y)→Own s w.m f r:=fun r e o=>by rw [← e] at o;exact o
 refine pr _ hye ?_
 unfold G3 at hye ⊢
 by_cases e0 : f.pc=0
 ·rw [if_pos e0]
  split
  ·exact ⟨fun e=>(by cases e),fun _ p c e _=>any p c e⟩
  ·exact early _ rfl hd (by show (1 : Int) < 6;omega)
 rw [if_neg e0] at hye ⊢
 by_cases e1 : f.pc=1
 ·rw [if_pos e1]
  refine early _ rfl hd ?_
  show (if _ then (2 : Int) else f.pc) < 6
  split <;> omega
 rw [if_neg e1] at hye ⊢
 by_cases e2 : f.pc=2
 ·rw [if_pos e2]
  exact early _ rfl hd (by show (3 : Int) < 6;omega)
 rw [if_neg e2] at hye ⊢
 by_cases e3 : f.pc=3
 ·rw [if_pos e3]
  refine go _ rfl hd (fun p=>?_) fun p=>?_
  ·have p : (if f.cur≤0 then (5 : Int) else if (at1 w.m f).k=f.c.k then 6 else 4)=6:=p
   split at p
   ·omega
   ·rename_i hc0
    split at p
    ·rename_i hkk
     obtain ⟨q1,q2,s1,s2,_⟩:=hF.add3 hk (.inl e3)
     rw [hch] at s1
     rw [hB] at s2
     obtain ⟨a,l3',c1,c2,c3,c4,c5⟩:=jA hC hBl s1 (by rw [← s2];omega)
     have hka : kys w.m a=f.c.k:=by
      rw [← hkk];unfold kys at1
      rw [show f.cur - 1=a by omega]
     exact ⟨w.m,by simp,_,IV hC (Ie hBl c3) hka⟩
    ·omega
  ·have p : (if f.cur≤0 then (5 : Int) else if (at1 w.m f).k=f.c.k then 6 else 4)=7:=p
   split at p
   ·omega
   ·split at p <;> omega
 rw [if_neg e3] at hye ⊢
 by_cases e4 : f.pc=4
 ·rw [if_pos ⟨e4,(hF.add4 hk e4).1⟩]
  exact early _ rfl hd (by show (3 : Int) < 6;omega)
 rw [if_neg (by omega)] at hye ⊢
 have h1:=hF.add1 hk
 by_cases e5 : f.pc=5
 ·obtain ⟨q1,q2,q3⟩:=h1 (by omega) (by omega)
  rw [if_pos ⟨e5,q1⟩] at hye ⊢
  have r5:=hF.add5 hk e5
  refine go _ rfl hd (fun p=>by have p : (7 : Int)=6:=p;omega) fun _=>⟨fun _=>?_,fun e=>by have e : (0 : Int)=6:=e;omega⟩
  refine ⟨[],y,w.m,s,rfl,IW hC (B:=B) (by rw [← ek];exact hB) (fun a ha=>r5 a (by rw [hch];exact ha)),?_⟩
  have hye : link w.m f.slot (aa w.m f.c)=y:=hye
  rw [hB] at hye
  have ha1 : f.slot < w.m.slots.length:=by have:=hf.slot1;omega
  have hm : ∀ j,msl y j=if f.slot.toNat=j then jc (aO w.m B) (msl w.m f.slot.toNat) else msl w.m j:=fun j=>gn (by rw [← hye];rfl) (by omega) j
  have n7 : cr (tsk w x)=f.slot:=by rw [← hfe];exact dj hb (by rw [hfe];omega)
  have hre:=Hg h hx0 hx (a:=f.slot) n7 q1 ha1
  have hkk : ∀ c∈chL w.m (bk w.m (kys w.m f.slot)).toNat,kys w.m c≠kys w.m f.slot:=fun c hc=>by
   rw [q2,← ek,hB,Int.toNat_natCast] at hc
   rw [q2];exact r5 c (by rw [hch];exact hc)
  obtain ⟨c1,c2,c3⟩:=vZ hC q1 ha1 (by omega) hkk
  rw [q2,← ek,hB,hye] at c2
  have hin : f.slot∈chL y B:=by
   rw [c2 B hBl,if_pos rfl];simp
  have hky : (bu y f.slot).k=f.c.k:=by
   show (msl y f.slot.toNat).k=_
   rw [hm,if_pos rfl];exact q2
  exact ⟨_,IV hy (Ie (by omega) hin) hky,rfl⟩
 rw [if_neg (by omega)] at hye ⊢
 by_cases e6 : f.pc=6
 ·rw [if_pos ⟨e6,(h1 (by omega) (by omega)).1⟩]
  exact go _ rfl hd (fun p=>by have p : (7 : Int)=6:=p;omega) fun _=>⟨fun e=>by have e : (6 : Int)=0:=e;omega,fun _=>Iy (A.lose e6) y⟩
 rw [if_neg (by omega),if_pos (by omega)]
 refine ⟨fun e=>(by cases e),fun _ p c e hsl=>?_⟩
 exact Nd (f:=f) (A.more y) (by simp) (by omega) (by rw [c];exact hk) c e hsl
theorem MV {w : Wrd} (h : Inv w) {x : Int} (hx0 : 0≤x) (hx : x < w.ts.length) (hb : (tsk w x).busy=true) (hk : (tsk w x).f.c.kind=3) {s : List Mem} (hi : HZ s w.m (tsk w x).f) (hy : aK (aL w.m (tsk w x).f x).2) : Own s w.m (tsk w x).f (aL w.m (tsk w x).f x):=by
 obtain ⟨hf,hF,hd⟩:=fe h hx0 hx hb
 have hD:=Ch h hx0 hx hb hk
 obtain ⟨l1,l2,l3⟩:=hD.lens h.ch
 have hbr:=aQ h.ch.mem.rJ hf.call (by omega)
 have ek : aa w.m (tsk w x).f.c=bk w.m (tsk w x).f.c.k:=by unfold aa bk;rw [if_neg (by omega)]
 obtain ⟨B,hB⟩ : ∃ B : Nat,aa w.m (tsk w x).f.c=B:=⟨(aa w.m (tsk w x).f.c).toNat,by omega⟩
 have hBl : B < w.m.heads.length:=by omega
 have hch : chF w.m (tsk w x).f=chL w.m B:=by unfold chF;rw [hB];rfl
 have A:=(hi.drop hk)
 have hC:=h.ch
 generalize hye : (aL w.m (tsk w x).f x).2=y at *
 generalize hfe : (tsk w x).f=f at *
 have p6:=(hF.drop hk).1
 have p0:=hf.pc0
 have go : ∀ g : Frm,g.c=f.c→g.done=false→Me (y :: w.m :: s) y g→Own s w.m f (g,y):=fun g e1 e2 e3 =>
  ⟨fun _=>Km hi hy l2 l3 (by rw [e1];omega) (fun k=>by rw [e1] at k;omega) (fun _=>e3),fun e=>by rw [e2] at e;cases e⟩
 have pr : ∀ r : Frm × Mem,r.2=y→Own s w.m f (r.1,y)→Own s w.m f r:=fun r e o=>by rw [← e] at o;exact o
 refine pr _ hye ?_
 unfold aL at hye ⊢
 by_cases e0 : f.pc=0
 ·rw [if_pos e0]
  refine go _ rfl hd ?_
  have hp : (if (lock w.m (aa w.m f.c) x).2=true then (1 : Int) else f.pc)=1∨(if (lock w.m (aa w.m f.c) x).2=true then (1 : Int) else f.pc)=0:=by split <;> omega
  generalize (if (lock w.m (aa w.m f.c) x).2=true then (1 : Int) else f.pc)=pc at hp
  exact ⟨fun p=>by have p : pc=2∨pc=3:=p;omega,fun p=>by have p : pc=3:=p;omega,fun p=>by have p : pc=4:=p;omega,fun p=>by have p : pc=5∨pc=6:=p;omega⟩
 rw [if_neg e0] at hye ⊢
 by_cases e1 : f.pc=1
 ·rw [if_pos e1] at hye ⊢
  have hye : w.m=y:=hye
  subst hye
  refine go _ rfl hd ⟨fun _=>⟨[],chL w.m B,?_,?_,fun a ha=>by cases ha⟩,fun p=>by have p : (2 : Int)=3:=p;omega,fun p=>by have p : (2 : Int)=4:=p;omega,fun p=>by have p : (2 : Int)=5∨(2 : Int)=6:=p;omega⟩
  ·exact hch
  ·show aO w.m (aa w.m f.c)=ig (aa w.m f.c) _
   rw [hB];exact tA hC hBl
 rw [if_neg e1] at hye ⊢
 by_cases e2 : f.pc=2
 ·rw [if_pos e2] at hye ⊢
  obtain ⟨q1,q2,s1,s2,s3⟩:=A.seen (.inl e2)
  rw [hch] at s1
  rw [hB] at s2
  by_cases c0 : f.cur≤0
  ·rw [if_pos c0] at hye ⊢
   have hye : w.m=y:=hye
   subst hye
   have hq2 : q2=[]:=by
    cases q2 with
    | nil=>rfl
    | cons a l =>
     have s2 : f.cur=a + 1:=s2
     have:=(cW hC (show a∈chL w.m B by rw [s1];simp)).1
     omega
   have hn : fnd w.m f.c.k=none:=IW hC (B:=B) (by rw [← ek];exact hB) fun a ha=>by
    rw [s1,hq2,List.append_nil] at ha
    exact s3 a ha
   exact go _ rfl hd ⟨fun p=>by have p : (5 : Int)=2∨(5 : Int)=3:=p;omega,fun p=>by have p : (5 : Int)=3:=p;omega,fun p=>by have p : (5 : Int)=4:=p;omega,fun _=>⟨fun e=>by have e : (5 : Int)=0:=e;omega,fun _=>⟨w.m,by simp,hn⟩⟩⟩
  ·rw [if_neg c0] at hye ⊢
   have hye : w.m=y:=hye
   subst hye
   obtain ⟨a,l3',c1,c2,c3,c4,c5⟩:=jA hC hBl s1 (by rw [← s2];omega)
   have hca : f.cur - 1=a:=by omega
   by_cases c6 : (at1 w.m f).k=f.c.k
   ·rw [if_pos c6]
    refine go _ rfl hd ⟨fun p=>by have p : (4 : Int)=2∨(4 : Int)=3:=p;omega,fun p=>by have p : (4 : Int)=3:=p;omega,fun _=>⟨c6,?_⟩,fun p=>by have p : (4 : Int)=5∨(4 : Int)=6:=p;omega⟩
    show f.cur - 1∈chF w.m f
    rw [hch,hca];exact c3
   ·rw [if_neg c6]
    exact go _ rfl hd ⟨fun _=>A.seen (.inl e2),fun _ _=>c6,fun p=>by have p : (3 : Int)=4:=p;omega,fun p=>by have p : (3 : Int)=5∨(3 : Int)=6:=p;omega⟩
 rw [if_neg e2] at hye ⊢
 by_cases e3 : f.pc=3
 ·have hc:=(hF.drop2 hk (by omega) (by omega)).2 (by omega)
  rw [if_pos ⟨e3,hc⟩] at hye ⊢
  have hye : w.m=y:=hye
  subst hye
  obtain ⟨q1,q2,s1,s2,s3⟩:=A.seen (.inr e3)
  have n3:=A.no3 e3 hc
  rw [hch] at s1
  rw [hB] at s2
  obtain ⟨a,l3',c1,c2,c3,c4,c5⟩:=jA hC hBl s1 (by rw [← s2];omega)
  have hca : f.cur - 1=a:=by omega
  subst c1
  have hn:=rV hC hBl s1
  refine go _ rfl hd ⟨fun _=>⟨q1 ++ [a],l3',?_,?_,fun d hd'=>?_⟩,fun p=>by have p : (2 : Int)=3:=p;omega,fun p=>by have p : (2 : Int)=4:=p;omega,fun p=>by have p : (2 : Int)=5∨(2 : Int)=6:=p;omega⟩
  ·show chF w.m f=_
   rw [hch,s1];simp
  ·show (at1 w.m f).next=ig (aa w.m f.c) l3'
   rw [hB,← hn];unfold nxt at1;rw [hca]
  ·rcases List.mem_append.1 hd' with g | g
   ·exact s3 d g
   ·have : d=a:=by simpa using g
    rw [this,← hca];exact n3
 rw [if_neg (by omega)] at hye ⊢
 by_cases e4 : f.pc=4
 ·obtain ⟨⟨q1,q2,s1,s2,s3⟩,hcu⟩:=hF.drop2 hk (by omega) (by omega)
  have hc:=hcu (by omega)
  rw [if_pos ⟨e4,hc⟩] at hye ⊢
  obtain ⟨a1,a2⟩:=A.at4 e4
  rw [hch] at s1 a2
  rw [hB] at s2
  obtain ⟨a,l3',c1,c2,c3,c4,c5⟩:=jA hC hBl s1 (by rw [← s2];omega)
  have hca : f.cur - 1=a:=by omega
  have hye : cut w.m f.prev (f.cur - 1) (aa w.m f.c)=y:=hye
  rw [hca,hB] at hye
  rw [hca] at a1
  subst c1
  obtain ⟨d1,d2,d3,d4,d5,d6⟩:=kp hC hBl s1 s3 hye.symm
  have hnd:=(hC.ch hBl).nd
  have hndl:=(hC.ch hBl).ndl
  have hn : fnd y f.c.k=none:=IW d1 (B:=B) (by rw [← hB,ek];unfold bk;rw [d6]) fun c hc' hkc=>by
   rw [d2] at hc'
   have hin : c∈chL w.m B:=by
    rw [s1]
    rcases List.mem_append.1 hc' with g | g
    ·exact List.mem_append_left _ g
    ·exact List.mem_append_right _ (List.mem_cons_of_mem _ g)
   have hkc' : kys w.m c=kys w.m a:=by
    rw [a1,← hkc]
    exact ((d4 c.toNat).2.1).symm
   have:=fw hnd hin c3 hkc'
   subst this
   rw [s1] at hndl
   rcases List.mem_append.1 hc' with g | g
   ·exact (List.nodup_append.1 hndl).2.2 c g c (by simp) rfl
   ·exact (List.nodup_cons.1 (List.nodup_append.1 hndl).2.1).1 g
  refine go _ rfl hd ⟨fun p=>by have p : (5 : Int)=2∨(5 : Int)=3:=p;omega,fun p=>by have p : (5 : Int)=3:=p;omega,fun p=>by have p : (5 : Int)=4:=p;omega,fun _=>⟨fun _=>⟨[],y,w.m,s,rfl,_,IV hC (Ie hBl c3) a1,hn⟩,fun e=>absurd rfl e⟩⟩
 rw [if_neg (by omega)] at hye ⊢
 by_cases e5 : f.pc=5
 ·rw [if_pos e5]
  obtain ⟨o1,o2⟩:=A.over (.inl e5)
  exact go _ rfl hd ⟨fun p=>by have p : (6 : Int)=2∨(6 : Int)=3:=p;omega,fun p=>by have p : (6 : Int)=3:=p;omega,fun p=>by have p : (6 : Int)=4:=p;omega,fun _=>⟨fun e=>JF (o1 e) y,fun e=>Iy (o2 e) y⟩⟩
 rw [if_neg e5,if_pos (by omega)]
 refine ⟨fun e=>(by cases e),fun _ p c e _=>?_⟩
 exact (ME (f:=f) A (by simp;have:=hi.two;omega) (by omega) (by rw [c];exact hk) c e).more y
end Go.Proofs.Ytpmamacjepcdmaa

namespace Go.Proofs.Ytpmamacjepcdmaa
open Go Go.Sy Go.RowKit
set_option linter.unusedSimpArgs false
set_option linter.unusedVariables false
end Go.Proofs.Ytpmamacjepcdmaa

namespace Go.Proofs.Ytpmamacjepcdmaa
open Go Go.Sy Go.RowKit
set_option linter.unusedSimpArgs false
set_option linter.unusedVariables false
structure Alike (m y : Mem) : Prop where
 len : y.slots.length=m.slots.length
 heads : y.heads=m.heads
 now : y.now=m.now
 sl : ∀ j,(msl y j).next=(msl m j).next∧(msl y j).k=(msl m j).k∧(msl y j).inn=(msl m j).inn∧(msl y j).till=(msl m j).till
theorem Alike.same (m : Mem) : Alike m m:=⟨rfl,rfl,rfl,fun _=>⟨rfl,rfl,rfl,rfl⟩⟩
theorem Alike.trans {m y z : Mem} (h : Alike m y) (g : Alike y z) : Alike m z :=
 ⟨g.len.trans h.len,g.heads.trans h.heads,g.now.trans h.now,fun j=>⟨(g.sl j).1.trans (h.sl j).1,(g.sl j).2.1.trans (h.sl j).2.1,(g.sl j).2.2.1.trans (h.sl j).2.2.1,(g.sl j).2.2.2.trans (h.sl j).2.2.2⟩⟩
theorem Alike.refs {m y : Mem} {a d : Int} (a0 : 0≤a) (a1 : a < m.slots.length) (hs : y.slots=m.slots.modify a.toNat (bx d)) (hh : y.heads=m.heads) (hn : y.now=m.now) : Alike m y :=
 ⟨by rw [hs];simp,hh,hn,fun j=>by
  have:=gn hs (by omega) j
  rw [show msl y j=_ from this]
  split
  ·rename_i e;rw [← e];exact ⟨rfl,rfl,rfl,rfl⟩
  ·exact ⟨rfl,rfl,rfl,rfl⟩⟩
theorem Alike.put {m : Mem} {a : Int} (a0 : 0≤a) (a1 : a < m.slots.length) : Alike m (put m a):=by
 by_cases h : (msl m a.toNat).refs=0
 ·have : Go.Proofs.Ytpmamacjepcdmaa.put m a=m:=by unfold Go.Proofs.Ytpmamacjepcdmaa.put;rw [if_pos h]
  rw [this];exact Alike.same m
 ·obtain ⟨u1,u2,u3,u4⟩:=fQ h
  exact Alike.refs a0 a1 u1 u2 u4
structure Good (m y : Mem) : Prop where
 al : Alike m y
 ch : aK y
 few : ∀ j,j < y.slots.length→(msl y j).refs < 1000
def Fin (m : Mem) : Nat→Frm→Prop
 | 0,_=>False
 | n + 1,f=>∀ y,Good m y→(ar y f).1.done=true∨Fin m n (ar y f).1
theorem Fin.more {m : Mem} : ∀ {n k : Nat} {f : Frm},n≤k→Fin m n f→Fin m k f
 | 0,_,_,_,h=>h.elim
 | n + 1,0,_,hk,_=>by omega
 | n + 1,k + 1,f,hk,h=>fun y hy=>(h y hy).imp id fun h=>Fin.more (by omega) h
theorem Fin.step {m : Mem} {n : Nat} {f g : Frm} (he : ∀ y,Good m y→(ar y f).1=g) (h : Fin m n g) : Fin m (n + 1) f:=fun y hy=>by
 rw [he y hy];exact .inr h
section
variable {m : Mem} {B : Nat} {f : Frm}
end
end Go.Proofs.Ytpmamacjepcdmaa
