import Derived.Test.YtpmamacjepcdmaaCAlone
import Derived.Test.YtpmamacjepcdmaaCStep
import Derived.Test.YtpmamacjepcdmaaCAdd2
namespace Go.Proofs.Ytpmamacjepcdmaa
open Go Go.Sy Go.RowKit
set_option linter.unusedSimpArgs false
set_option linter.unusedVariables false
def ad (m : Mem) (f : Frm) : Frm × Mem:=bx m f 0
end Go.Proofs.Ytpmamacjepcdmaa

namespace Go.Proofs.Ytpmamacjepcdmaa
open Go Go.Sy Go.RowKit
set_option linter.unusedSimpArgs false
set_option linter.unusedVariables false
end Go.Proofs.Ytpmamacjepcdmaa

namespace Go.Proofs.Ytpmamacjepcdmaa
open Go Go.Sy Go.RowKit
set_option linter.unusedSimpArgs false
set_option linter.unusedVariables false
def fnd (y : Mem) (K : Key) : Option dV:=findF (bl y) K
def Acc (p : Pst) (a b : Mem) : Prop:=ER p (fnd a p.c.k) (fnd b p.c.k) a.now b.now=true
def Et (p : Pst) (hs : List Mem) : Prop:=∃ p1 b a s,hs=p1 ++ b :: a :: s∧Acc p a b
theorem Et.more {p : Pst} {hs : List Mem} (h : Et p hs) (y : Mem) : Et p (y :: hs):=by
 obtain ⟨p1,b,a,s,rfl,h⟩:=h
 exact ⟨y :: p1,b,a,s,rfl,h⟩
structure FU (B : Nat) (hs : List Mem) (m : Mem) (f : Frm) : Prop where
 cl : Fc m hs
 wm : Ep m hs
 st : FR B f.c.k m hs
 se : 1≤f.pc→f.pc≤3→0 < f.cur→Seen hs (f.cur - 1)
 ss : 4≤f.pc→Seen hs f.slot
 ah : f.pc=1∨f.pc=2→EI B f.c.k hs∨Fq B f.c.k m f.cur
 na : f.pc=2→EI B f.c.k hs∨Fo B f.c.k m f.cur
 ov : f.pc=6→∃ y∈hs,xC y.now (fnd y f.c.k)=false
structure FB (hs : List Mem) (f : Frm) : Prop where
 lose : f.pc=6→∃ y∈hs,∃ g,fnd y f.c.k=some g
 over : f.pc=7→(f.e=0→∃ p1 b a s,hs=p1 ++ b :: a :: s∧fnd a f.c.k=none∧∃ g,fnd b f.c.k=some g∧g.slot=f.slot)∧(f.e=6→∃ y∈hs,∃ g,fnd y f.c.k=some g)
structure Fp (hs : List Mem) (m : Mem) (f : Frm) : Prop where
 seen : f.pc=2∨f.pc=3→Ad m f
 no3 : f.pc=3→0 < f.cur→kys m (f.cur - 1)≠f.c.k
 at4 : f.pc=4→kys m (f.cur - 1)=f.c.k∧f.cur - 1∈chF m f
 over : f.pc=5∨f.pc=6→(f.e=0→∃ p1 b a s,hs=p1 ++ b :: a :: s∧∃ g,fnd a f.c.k=some g∧fnd b f.c.k=none)∧(f.e≠0→∃ y∈hs,fnd y f.c.k=none)
structure q6 (s : List Mem) (m : Mem) (f : Frm) : Prop where
 ok : C0 m.heads.length m.now (m :: s)
 two : 1≤s.length
 look : f.c.kind=1→∃ B : Nat,bk m f.c.k=B∧B < m.heads.length∧FU B (m :: s) m f
 add : f.c.kind=2→FB (m :: s) f
 drop : f.c.kind=3→Fp (m :: s) m f
theorem En {hs : List Mem} {Q : Mem→Mem→Prop} (h : ∃ p1 b a s,hs=p1 ++ b :: a :: s∧Q a b) (y : Mem) : ∃ p1 b a s,y :: hs=p1 ++ b :: a :: s∧Q a b:=by
 obtain ⟨p1,b,a,s,rfl,h⟩:=h
 exact ⟨y :: p1,b,a,s,rfl,h⟩
theorem yf {hs : List Mem} {Q : Mem→Prop} (h : ∃ y∈hs,Q y) (y : Mem) : ∃ z∈y :: hs,Q z:=by
 obtain ⟨z,hz,h⟩:=h
 exact ⟨z,by simp [hz],h⟩
theorem FB.more {hs : List Mem} {f : Frm} (h : FB hs f) (y : Mem) : FB (y :: hs) f :=
 ⟨fun p=>yf (h.lose p) y,fun p=>⟨fun e=>En ((h.over p).1 e) y,fun e=>yf ((h.over p).2 e) y⟩⟩
theorem EM {n : Nat} {m y : Mem} {hs : List Mem} (h : C0 n m.now hs) (hy : aK y) (hl : y.heads.length=n) (hn : m.now≤y.now) : C0 n y.now (y :: hs):=fun z hz=>by
 rcases List.mem_cons.1 hz with rfl | hz
 ·exact ⟨hy,hl,Int.le_refl _⟩
 ·obtain ⟨h1,h2,h3⟩:=h z hz
  exact ⟨h1,h2,by omega⟩
theorem Fu {B : Nat} {s : List Mem} {m y : Mem} {f : Frm} (hC : aK m) (hy : aK y) (hl : y.heads.length=m.heads.length) (hB : B < m.heads.length) (hbk : bk m f.c.k=B) (hok : C0 m.heads.length m.now (m :: s)) (hK : Kin m y) (h : FU B (m :: s) m f) : FU B (y :: m :: s) y f:=by
 have hm : m∈m :: s:=by simp
 have un : Unm B f.c.k m→EI B f.c.k (y :: m :: s):=fun u=>⟨m,by simp,u⟩
 refine ⟨E8 hC hy hl hK hok hm h.cl,E7 hC hy hl hK hok hm h.wm,Fw hC hy hl hB hbk hK hok hm h.st,fun p q r=>(h.se p q r).more y,fun p=>(h.ss p).more y,fun p=>?_,fun p=>?_,fun p=>yf (h.ov p) y⟩
 ·rcases h.ah p with g | g
  ·exact .inl (g.more y)
  ·exact (Fy hC hy hl hB hbk hK g).imp un id
 ·rcases h.na p with g | g
  ·exact .inl (g.more y)
  ·exact (Fx hC hy hl hB hbk hK g).imp un id
theorem EO {m y : Mem} {f : Frm} (hh : y.heads.length=m.heads.length) (hc : chF y f=chF m f∧∀ a∈chF m f,kys y a=kys m a) (h : Ad m f) : Ad y f:=by
 obtain ⟨l1,l2,e1,e2,e3⟩:=h
 exact ⟨l1,l2,by rw [hc.1];exact e1,by rw [bw (m:=m) (y:=y) f.c hh];exact e2,fun a ha=>by rw [hc.2 a (by rw [e1];exact List.mem_append_left _ ha)];exact e3 a ha⟩
theorem q6.more {s : List Mem} {m y : Mem} {f : Frm} (h : q6 s m f) (hy : aK y) (hl : y.heads.length=m.heads.length) (hn : m.now≤y.now) (hK : Kin m y) (hc : f.c.kind=3→2≤f.pc→f.pc≤4→chF y f=chF m f∧∀ a∈chF m f,kys y a=kys m a)
  (hs : f.c.kind=3→f.pc=3→0 < f.cur→f.cur - 1∈chF m f) : q6 (m :: s) y f:=by
 have hC:=(h.ok m (by simp)).1
 refine ⟨by rw [hl];exact EM h.ok hy hl hn,by simp,fun k=>?_,fun k=>(h.add k).more y,fun k=>?_⟩
 ·obtain ⟨B,h1,h2,h3⟩:=h.look k
  exact ⟨B,by unfold bk at h1 ⊢;rw [hl];exact h1,by omega,Fu hC hy hl h2 h1 h.ok hK h3⟩
 ·obtain ⟨d1,d2,d3,d4⟩:=h.drop k
  refine ⟨fun p=>EO hl (hc k (by omega) (by omega)) (d1 p),fun p q=>?_,fun p=>?_,fun p=>⟨fun e=>En ((d4 p).1 e) y,fun e=>yf ((d4 p).2 e) y⟩⟩
  ·rw [(hc k (by omega) (by omega)).2 _ (hs k p q)]
   exact d2 p q
  ·obtain ⟨c1,c2⟩:=hc k (by omega) (by omega)
   obtain ⟨a1,a2⟩:=d3 p
   exact ⟨by rw [c2 _ a2];exact a1,by rw [c1];exact a2⟩
end Go.Proofs.Ytpmamacjepcdmaa
