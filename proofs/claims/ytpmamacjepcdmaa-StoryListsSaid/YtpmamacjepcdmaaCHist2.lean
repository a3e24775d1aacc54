import Derived.Test.YtpmamacjepcdmaaCAlone
import Derived.Test.YtpmamacjepcdmaaCStep
import Derived.Test.YtpmamacjepcdmaaCAdd2
namespace Go.Proofs.Ytpmamacjepcdmaa
open Go Go.Sy Go.RowKit
set_option linter.unusedSimpArgs false
set_option linter.unusedVariables false
def ad (m : Mem) (f : Frm) : Frm × Mem:=G3 m f 0
end Go.Proofs.Ytpmamacjepcdmaa

namespace Go.Proofs.Ytpmamacjepcdmaa
open Go Go.Sy Go.RowKit
set_option linter.unusedSimpArgs false
set_option linter.unusedVariables false
theorem pD {m : Mem} (hC : aK m) : ∀ {n b : Nat} {acc : List cI},(acc.map cI.k).Nodup→(∀ w∈acc,bk m w.k < b)→b + n≤m.heads.length→((bC m n b acc).map cI.k).Nodup
 | 0,_,_,h,_,_=>h
 | n + 1,b,acc,h,hb,hn=>by
  rw [bC]
  have hch:=hC.ch (b:=b) (by omega)
  have e : ((bP m b).1.map (bu m)).map cI.k=(chL m b).map (kys m):=by rw [List.map_map];rfl
  refine pD hC ?_ (fun w hw=>?_) (by omega)
  ·rw [List.map_append,e]
   refine List.nodup_append.2 ⟨h,hch.nd,fun x hx y hy exy=>?_⟩
   obtain ⟨w,hw,rfl⟩:=List.mem_map.1 hx
   obtain ⟨c,hc,rfl⟩:=List.mem_map.1 hy
   have h1:=hb w hw
   have h2:=(hch.ok c hc).bk
   rw [exy,h2] at h1
   omega
  ·rcases List.mem_append.1 hw with hw | hw
   ·have:=hb w hw
    omega
   ·obtain ⟨c,hc,rfl⟩:=List.mem_map.1 hw
    have h2:=(hch.ok c hc).bk
    show bk m (kys m c) < _
    rw [h2];omega
theorem DS {m : Mem} (hC : aK m) : ((aq m).map cI.k).Nodup:=pD hC List.nodup_nil (fun _ h=>by cases h) (by omega)
end Go.Proofs.Ytpmamacjepcdmaa

namespace Go.Proofs.Ytpmamacjepcdmaa
open Go Go.Sy Go.RowKit
set_option linter.unusedSimpArgs false
set_option linter.unusedVariables false
theorem Kq {K : Key} : ∀ {l : List cI},(∀ f∈l,f.k≠K)→findF l K=none
 | [],_=>rfl
 | f :: l,h=>by
  unfold findF
  rw [if_neg (h f (by simp))]
  exact Kq fun g hg=>h g (by simp [hg])
theorem Kp {f : cI} : ∀ {l : List cI},(l.map cI.k).Nodup→f∈l→findF l f.k=some f
 | [],_,h=>by cases h
 | g :: l,hd,h=>by
  rw [List.map_cons,List.nodup_cons] at hd
  unfold findF
  rcases List.mem_cons.1 h with rfl | h
  ·rw [if_pos rfl]
  ·rw [if_neg fun e=>hd.1 (by rw [e];exact List.mem_map.2 ⟨f,h,rfl⟩)]
   exact Kp hd.2 h
def fnd (y : Mem) (K : Key) : Option cI:=findF (aq y) K
theorem IW {y : Mem} (hC : aK y) {B : Nat} {K : Key} (hb : bk y K=B) (h : Unm B K y) : fnd y K=none:=Kq fun f hf e=>by
 obtain ⟨_,_,q3,_,_,_,q7⟩:=jj hC hf
 rw [e] at q3 q7
 rw [hb,Int.toNat_natCast] at q7
 exact h _ q7 q3
theorem IV {y : Mem} (hC : aK y) {K : Key} {f : cI} (hf : f∈aq y) (hk : f.k=K) : fnd y K=some f:=by
 rw [← hk];exact Kp (DS hC) hf
def Acc (p : Pst) (a b : Mem) : Prop:=HR p (fnd a p.c.k) (fnd b p.c.k) a.now b.now=true
def JY (p : Pst) (hs : List Mem) : Prop:=∃ p1 b a s,hs=p1 ++ b :: a :: s∧Acc p a b
theorem JY.more {p : Pst} {hs : List Mem} (h : JY p hs) (y : Mem) : JY p (y :: hs):=by
 obtain ⟨p1,b,a,s,rfl,h⟩:=h
 exact ⟨y :: p1,b,a,s,rfl,h⟩
theorem H9 {p : Pst} {hs : List Mem} {y : Mem} (hy : y∈hs) (h2 : 2≤hs.length) (h : ∀ z,Acc p z y∧Acc p y z) : JY p hs:=by
 obtain ⟨p1,s,rfl⟩:=List.append_of_mem hy
 cases s with
 | cons a s=>exact ⟨p1,y,a,s,rfl,(h a).1⟩
 | nil =>
  rcases List.eq_nil_or_concat p1 with e | ⟨q,b,e⟩
  ·rw [e] at h2;simp at h2
  ·rw [List.concat_eq_append] at e
   exact ⟨q,b,y,[],by rw [e];simp,(h b).2⟩
theorem JW {p : Pst} (hk : p.c.kind=1) (he : p.e≠0) {y : Mem} (h : HV y.now (fnd y p.c.k)=false) (z : Mem) : Acc p z y∧Acc p y z:=by
 unfold Acc HR
 rw [if_pos hk,if_neg he,if_pos hk,if_neg he,h]
 simp
theorem Lx {p : Pst} (hk : p.c.kind=1) (he : p.e=0) {y : Mem} {f : cI} (hf : fnd y p.c.k=some f) (hs : f.slot=p.slot) (ht : y.now < f.till) (z : Mem) : Acc p z y∧Acc p y z:=by
 unfold Acc HR
 rw [if_pos hk,if_pos he,if_pos hk,if_pos he,hf]
 simp [HV,I7,hs,ht]
theorem M6 {p : Pst} (hk : p.c.kind≠1∧p.c.kind≠2∧p.c.kind≠3) (a b : Mem) : Acc p a b:=by
 unfold Acc HR
 rw [if_neg hk.1,if_neg hk.2.1,if_neg hk.2.2]
structure Na (B : Nat) (hs : List Mem) (m : Mem) (f : Frm) : Prop where
 cl : LQ m hs
 wm : JQ m hs
 st : M9 B f.c.k m hs
 se : 1≤f.pc→f.pc≤3→0 < f.cur→Seen hs (f.cur - 1)
 ss : 4≤f.pc→Seen hs f.slot
 ah : f.pc=1∨f.pc=2→Kx B f.c.k hs∨Mf B f.c.k m f.cur
 na : f.pc=2→Kx B f.c.k hs∨Md B f.c.k m f.cur
 ov : f.pc=6→∃ y∈hs,HV y.now (fnd y f.c.k)=false
structure MD (hs : List Mem) (f : Frm) : Prop where
 lose : f.pc=6→∃ y∈hs,∃ g,fnd y f.c.k=some g
 over : f.pc=7→(f.e=0→∃ p1 b a s,hs=p1 ++ b :: a :: s∧fnd a f.c.k=none∧∃ g,fnd b f.c.k=some g∧g.slot=f.slot)∧(f.e=6→∃ y∈hs,∃ g,fnd y f.c.k=some g)
structure Me (hs : List Mem) (m : Mem) (f : Frm) : Prop where
 seen : f.pc=2∨f.pc=3→Bn m f
 no3 : f.pc=3→0 < f.cur→kys m (f.cur - 1)≠f.c.k
 at4 : f.pc=4→kys m (f.cur - 1)=f.c.k∧f.cur - 1∈chF m f
 over : f.pc=5∨f.pc=6→(f.e=0→∃ p1 b a s,hs=p1 ++ b :: a :: s∧∃ g,fnd a f.c.k=some g∧fnd b f.c.k=none)∧(f.e≠0→∃ y∈hs,fnd y f.c.k=none)
structure HZ (s : List Mem) (m : Mem) (f : Frm) : Prop where
 ok : IX m.heads.length m.now (m :: s)
 two : 1≤s.length
 look : f.c.kind=1→∃ B : Nat,bk m f.c.k=B∧B < m.heads.length∧Na B (m :: s) m f
 add : f.c.kind=2→MD (m :: s) f
 drop : f.c.kind=3→Me (m :: s) m f
theorem JF {hs : List Mem} {Q : Mem→Mem→Prop} (h : ∃ p1 b a s,hs=p1 ++ b :: a :: s∧Q a b) (y : Mem) : ∃ p1 b a s,y :: hs=p1 ++ b :: a :: s∧Q a b:=by
 obtain ⟨p1,b,a,s,rfl,h⟩:=h
 exact ⟨y :: p1,b,a,s,rfl,h⟩
theorem Iy {hs : List Mem} {Q : Mem→Prop} (h : ∃ y∈hs,Q y) (y : Mem) : ∃ z∈y :: hs,Q z:=by
 obtain ⟨z,hz,h⟩:=h
 exact ⟨z,by simp [hz],h⟩
theorem MD.more {hs : List Mem} {f : Frm} (h : MD hs f) (y : Mem) : MD (y :: hs) f :=
 ⟨fun p=>Iy (h.lose p) y,fun p=>⟨fun e=>JF ((h.over p).1 e) y,fun e=>Iy ((h.over p).2 e) y⟩⟩
theorem KN {n : Nat} {m y : Mem} {hs : List Mem} (h : IX n m.now hs) (hy : aK y) (hl : y.heads.length=n) (hn : m.now≤y.now) : IX n y.now (y :: hs):=fun z hz=>by
 rcases List.mem_cons.1 hz with rfl | hz
 ·exact ⟨hy,hl,Int.le_refl _⟩
 ·obtain ⟨h1,h2,h3⟩:=h z hz
  exact ⟨h1,h2,by omega⟩
theorem Mq {B : Nat} {s : List Mem} {m y : Mem} {f : Frm} (hC : aK m) (hy : aK y) (hl : y.heads.length=m.heads.length) (hB : B < m.heads.length) (hbk : bk m f.c.k=B) (hok : IX m.heads.length m.now (m :: s)) (hK : Kin m y) (h : Na B (m :: s) m f) : Na B (y :: m :: s) y f:=by
 have hm : m∈m :: s:=by simp
 have un : Unm B f.c.k m→Kx B f.c.k (y :: m :: s):=fun u=>⟨m,by simp,u⟩
 refine ⟨LH hC hy hl hK hok hm h.cl,LG hC hy hl hK hok hm h.wm,Mx hC hy hl hB hbk hK hok hm h.st,fun p q r=>(h.se p q r).more y,fun p=>(h.ss p).more y,fun p=>?_,fun p=>?_,fun p=>Iy (h.ov p) y⟩
 ·rcases h.ah p with g | g
  ·exact .inl (g.more y)
  ·exact (Mz hC hy hl hB hbk hK g).imp un id
 ·rcases h.na p with g | g
  ·exact .inl (g.more y)
  ·exact (My hC hy hl hB hbk hK g).imp un id
theorem KV {m y : Mem} {f : Frm} (hh : y.heads.length=m.heads.length) (hc : chF y f=chF m f∧∀ a∈chF m f,kys y a=kys m a) (h : Bn m f) : Bn y f:=by
 obtain ⟨l1,l2,e1,e2,e3⟩:=h
 exact ⟨l1,l2,by rw [hc.1];exact e1,by rw [ck (m:=m) (y:=y) f.c hh];exact e2,fun a ha=>by rw [hc.2 a (by rw [e1];exact List.mem_append_left _ ha)];exact e3 a ha⟩
theorem HZ.more {s : List Mem} {m y : Mem} {f : Frm} (h : HZ s m f) (hy : aK y) (hl : y.heads.length=m.heads.length) (hn : m.now≤y.now) (hK : Kin m y) (hc : f.c.kind=3→2≤f.pc→f.pc≤4→chF y f=chF m f∧∀ a∈chF m f,kys y a=kys m a)
  (hs : f.c.kind=3→f.pc=3→0 < f.cur→f.cur - 1∈chF m f) : HZ (m :: s) y f:=by
 have hC:=(h.ok m (by simp)).1
 refine ⟨by rw [hl];exact KN h.ok hy hl hn,by simp,fun k=>?_,fun k=>(h.add k).more y,fun k=>?_⟩
 ·obtain ⟨B,h1,h2,h3⟩:=h.look k
  exact ⟨B,by unfold bk at h1 ⊢;rw [hl];exact h1,by omega,Mq hC hy hl h2 h1 h.ok hK h3⟩
 ·obtain ⟨d1,d2,d3,d4⟩:=h.drop k
  refine ⟨fun p=>KV hl (hc k (by omega) (by omega)) (d1 p),fun p q=>?_,fun p=>?_,fun p=>⟨fun e=>JF ((d4 p).1 e) y,fun e=>Iy ((d4 p).2 e) y⟩⟩
  ·rw [(hc k (by omega) (by omega)).2 _ (hs k p q)]
   exact d2 p q
  ·obtain ⟨c1,c2⟩:=hc k (by omega) (by omega)
   obtain ⟨a1,a2⟩:=d3 p
   exact ⟨by rw [c2 _ a2];exact a1,by rw [c1];exact a2⟩
theorem MX {m : Mem} {c : Cal} (hC : aK m) (hk : c.kind=1→Key.Ok c.k) : HZ [m] m (aX c):=by
 have hseen : ∀ a,Seen [m,m] a→∃ b,b < m.heads.length∧a∈chL m b:=fun a ⟨z,hz,b,hb,ha⟩=>by
  have : z=m:=by simpa using hz
  subst this
  exact ⟨b,hb,ha⟩
 refine ⟨fun z hz=>?_,by simp,fun k=>?_,fun _=>⟨fun p=>?_,fun p=>?_⟩,fun _=>⟨fun p=>?_,fun p=>?_,fun p=>?_,fun p=>?_⟩⟩
 ·have : z=m:=by simpa using hz
  subst this
  exact ⟨hC,rfl,Int.le_refl _⟩
 ·have hkey:=hk k
  have hb:=jq hC.mem hkey
  refine ⟨(bk m c.k).toNat,?_,by omega,fun a ha h0=>?_,fun a ha hi=>?_,.inr fun a ha hi hk'=>?_,fun p=>?_,fun p=>?_,fun p=>?_,fun p=>?_,fun p=>?_⟩
  ·show bk m c.k=_
   omega
  ·obtain ⟨b,hb',hin⟩:=hseen a ha
   exact ⟨m,by simp,b,hb',Kf hC hb' hin h0⟩
  ·obtain ⟨b,hb',hin⟩:=hseen a ha
   exact ⟨m,by simp,Ie hb' hin⟩
  ·obtain ⟨b,hb',hin⟩:=hseen a ha
   have hk' : kys m a=c.k:=hk'
   have e : b=(bk m c.k).toNat:=JP hC hb' hin (by rw [hk'];omega)
   rw [← e];exact hin
  ·have p : (1 : Int)≤0:=p;omega
  ·have p : (4 : Int)≤0:=p;omega
  ·have p : (0 : Int)=1∨(0 : Int)=2:=p;omega
  ·have p : (0 : Int)=2:=p;omega
  ·have p : (0 : Int)=6:=p;omega
 ·have p : (0 : Int)=6:=p;omega
 ·have p : (0 : Int)=7:=p;omega
 ·have p : (0 : Int)=2∨(0 : Int)=3:=p;omega
 ·have p : (0 : Int)=3:=p;omega
 ·have p : (0 : Int)=4:=p;omega
 ·have p : (0 : Int)=5∨(0 : Int)=6:=p;omega
theorem Mr {s : List Mem} {m : Mem} {f : Frm} (h : HZ s m f) (hk : f.c.kind=1) (hd : f.done=false) (hF : FI m f) :
  ((ar m f).1.done=false∧HZ s m (ar m f).1)∨((ar m f).1.done=true∧∀ p : Pst,p.c=f.c→p.e=(ar m f).1.e→p.slot=(ar m f).1.slot→JY p (m :: s)):=by
 have hC:=(h.ok m (by simp)).1
 obtain ⟨B,hb,hBl,L⟩:=h.look hk
 have hbf : aa m f.c=B:=by unfold aa;rw [if_neg (by omega)];exact hb
 have h2 : 2≤(m :: s).length:=by have:=h.two;simp;omega
 have hmm : m∈m :: s:=by simp
 have miss : ∀ {p : Pst},p.c=f.c→p.e≠0→Kx B f.c.k (m :: s)→JY p (m :: s):=fun {p} hc he ⟨y,hy,hu⟩=>by
  obtain ⟨y1,y2,_⟩:=h.ok y hy
  refine H9 hy h2 (JW (by rw [hc];exact hk) he ?_)
  rw [hc,IW y1 (B:=B) (by unfold bk at hb ⊢;rw [y2];exact hb) hu];rfl
 obtain ⟨p6,ps,_⟩:=hF.look hk
 have mk : ∀ (g : Frm),g.c=f.c→(1≤g.pc→g.pc≤3→0 < g.cur→Seen (m :: s) (g.cur - 1))→(4≤g.pc→Seen (m :: s) g.slot)→(g.pc=1∨g.pc=2→Kx B g.c.k (m :: s)∨Mf B g.c.k m g.cur)→(g.pc=2→Kx B g.c.k (m :: s)∨Md B g.c.k m g.cur)→(g.pc=6→∃ y∈m :: s,HV y.now (fnd y g.c.k)=false)→HZ s m g:=fun g e a1 a2 a3 a4 a5 =>
  ⟨h.ok,h.two,fun _=>⟨B,by rw [e];exact hb,hBl,L.cl,L.wm,by rw [e];exact L.st,a1,a2,a3,a4,a5⟩,fun k=>by rw [e] at k;omega,fun k=>by rw [e] at k;omega⟩
 have begin0 : ∀ (g : Frm),g.c=f.c→g.pc=0→HZ s m g:=fun g e e0=>mk g e (fun p=>by omega) (fun p=>by omega) (fun p=>by omega) (fun p=>by omega) fun p=>by omega
 unfold ar
 by_cases e0 : f.pc=0
 ·rw [if_pos e0]
  refine .inl ⟨hd,mk _ rfl (fun _ _ q=>?_) (fun p=>?_) (fun _=>.inr ?_) (fun p=>?_) fun p=>?_⟩
  ·have q : 0 < aO m (aa m f.c):=q
   rw [hbf] at q
   refine ⟨m,hmm,B,hBl,?_⟩
   show aO m (aa m f.c) - 1∈_
   rw [hbf];exact Lq hC hBl q
  ·have p : (4 : Int)≤1:=p;omega
  ·intro a ha _ l e hp
   have hp : Path m (aO m (aa m f.c)) l e:=hp
   rw [hbf] at hp
   have:=(IP hp (br.1 (hC.ch hBl).of).1).1
   exact .inl (by rw [this];exact ha)
  ·have p : (1 : Int)=2:=p;omega
  ·have p : (1 : Int)=6:=p;omega
 rw [if_neg e0]
 by_cases e1 : f.pc=1∧0 < f.cur
 ·rw [if_pos e1]
  have hse:=L.se (by omega) (by omega) e1.2
  by_cases hkk : (at1 m f).k=f.c.k
  ·rw [if_pos hkk]
   refine .inl ⟨hd,mk _ rfl (fun _ _ _=>hse) (fun p=>?_) (fun p=>?_) (fun p=>?_) fun p=>?_⟩
   ·have p : (4 : Int)≤3:=p;omega
   ·have p : (3 : Int)=1∨(3 : Int)=2:=p;omega
   ·have p : (3 : Int)=2:=p;omega
   ·have p : (3 : Int)=6:=p;omega
  ·rw [if_neg hkk]
   refine .inl ⟨hd,mk _ rfl (fun _ _ _=>hse) (fun p=>?_) (fun _=>L.ah (.inl e1.1)) (fun _=>.inr fun a ha hak e=>?_) fun p=>?_⟩
   ·have p : (4 : Int)≤2:=p;omega
   ·have e : a=f.cur - 1:=e
    exact hkk (by unfold at1;rw [← e];exact hak)
   ·have p : (2 : Int)=6:=p;omega
 rw [if_neg e1]
 by_cases e1b : f.pc=1∧f.cur=-1 - aa m f.c
 ·rw [if_pos e1b]
  refine .inr ⟨rfl,fun p hc he _=>?_⟩
  have he : p.e=5:=he
  refine miss hc (by omega) ?_
  rcases L.ah (.inl e1b.1) with g | g
  ·exact g
  ·by_cases hu : Unm B f.c.k m
   ·exact ⟨m,hmm,hu⟩
   ·exfalso
    apply hu
    intro a ha hak
    rcases g a ha hak [] (-1 - (B : Int)) ⟨by rw [e1b.2,hbf],by omega⟩ with q | q
    ·cases q
    ·exact q rfl
 rw [if_neg e1b]
 by_cases e2 : f.pc=2∧0 < f.cur
 ·rw [if_pos e2]
  have hse:=L.se (by omega) (by omega) e2.2
  refine .inl ⟨hd,mk _ rfl (fun _ _ q=>?_) (fun p=>?_) (fun _=>?_) (fun p=>?_) fun p=>?_⟩
  ·exact L.cl _ hse q
  ·have p : (4 : Int)≤1:=p;omega
  ·rcases L.ah (.inr e2.1) with g | g
   ·exact .inl g
   rcases L.na e2.1 with g2 | g2
   ·exact .inl g2
   refine .inr fun a ha hak l e hp=>?_
   have hp : Path m (nxt m (f.cur - 1)) l e:=hp
   rcases g a ha hak ((f.cur - 1) :: l) e ⟨by omega,e2.2,hp⟩ with q | q
   ·rcases List.mem_cons.1 q with q | q
    ·exact absurd q (g2 a ha hak)
    ·exact .inl q
   ·exact .inr q
  ·have p : (1 : Int)=2:=p;omega
  ·have p : (1 : Int)=6:=p;omega
 rw [if_neg e2]
 by_cases e3 : f.pc=3∧0 < f.cur
 ·rw [if_pos e3]
  have hse:=L.se (by omega) (by omega) e3.2
  split
  ·refine .inl ⟨hd,mk _ rfl (fun p q=>?_) (fun _=>hse) (fun p=>?_) (fun p=>?_) fun p=>?_⟩
   ·have q : (4 : Int)≤3:=q;omega
   ·have p : (4 : Int)=1∨(4 : Int)=2:=p;omega
   ·have p : (4 : Int)=2:=p;omega
   ·have p : (4 : Int)=6:=p;omega
  ·exact .inl ⟨hd,begin0 _ rfl rfl⟩
 rw [if_neg e3]
 by_cases e4 : f.pc=4∧0≤f.slot
 ·rw [if_pos e4]
  have hss:=L.ss (by omega)
  split
  ·refine .inl ⟨hd,mk _ rfl (fun p q=>?_) (fun _=>hss) (fun p=>?_) (fun p=>?_) fun p=>?_⟩
   ·have q : (5 : Int)≤3:=q;omega
   ·have p : (5 : Int)=1∨(5 : Int)=2:=p;omega
   ·have p : (5 : Int)=2:=p;omega
   ·have p : (5 : Int)=6:=p;omega
  ·rename_i hn
   have hk1 : kys m f.slot=f.c.k:=Classical.byContradiction fun x=>hn (.inl x)
   have hi1 : (msl m f.slot.toNat).inn=true:=by
    cases e : (msl m f.slot.toNat).inn with
    | true=>rfl
    | false=>exact absurd (.inr e) hn
   split
   ·rename_i ht
    refine .inl ⟨hd,mk _ rfl (fun p q=>?_) (fun _=>hss) (fun p=>?_) (fun p=>?_) fun _=>?_⟩
    ·have q : (6 : Int)≤3:=q;omega
    ·have p : (6 : Int)=1∨(6 : Int)=2:=p;omega
    ·have p : (6 : Int)=2:=p;omega
    ·show ∃ y∈m :: s,HV y.now (fnd y f.c.k)=false
     rcases L.st with ⟨y,hy,hu⟩ | g
     ·obtain ⟨y1,y2,_⟩:=h.ok y hy
      exact ⟨y,hy,by rw [IW y1 (B:=B) (by unfold bk at hb ⊢;rw [y2];exact hb) hu];rfl⟩
     ·have hin:=g f.slot hss hi1 hk1
      refine ⟨m,hmm,?_⟩
      rw [IV hC (Ie hBl hin) hk1]
      show decide (m.now < (msl m f.slot.toNat).till)=false
      have ht : (msl m f.slot.toNat).till≤m.now:=ht
      simp;omega
   ·rename_i ht
    refine .inr ⟨rfl,fun p hc he hsl=>?_⟩
    obtain ⟨z,hz,hfl⟩:=L.wm f.slot hss hi1
    obtain ⟨z1,z2,z3⟩:=h.ok z hz
    have ht : ¬ (msl m f.slot.toNat).till≤m.now:=ht
    exact H9 hz h2 (Lx (f:=bu m f.slot) (by rw [hc];exact hk) he (by rw [hc];exact IV z1 hfl hk1) hsl.symm (by show z.now < (msl m f.slot.toNat).till;omega))
 rw [if_neg e4]
 by_cases e5 : f.pc=5∧0≤f.slot
 ·rw [if_pos e5]
  exact .inl ⟨hd,begin0 _ rfl rfl⟩
 rw [if_neg e5]
 by_cases e6 : f.pc=6∧0≤f.slot
 ·rw [if_pos e6]
  refine .inr ⟨rfl,fun p hc he _=>?_⟩
  have he : p.e=5:=he
  obtain ⟨y,hy,hl⟩:=L.ov e6.1
  exact H9 hy h2 (JW (by rw [hc];exact hk) (by omega) (by rw [hc];exact hl))
 rw [if_neg e6]
 exact .inl ⟨hd,begin0 _ rfl rfl⟩
end Go.Proofs.Ytpmamacjepcdmaa
