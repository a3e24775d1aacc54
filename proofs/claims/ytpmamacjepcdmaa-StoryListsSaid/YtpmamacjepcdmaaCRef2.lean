import Derived.Test.YtpmamacjepcdmaaCMem2
namespace Go.Proofs.Ytpmamacjepcdmaa
open Go Go.Sy Go.RowKit
set_option linter.unusedSimpArgs false
set_option linter.unusedVariables false
theorem pj {m : Mem} (h : m.free.length≠0) : bc m∈m.free:=pA (by omega)
theorem pa {l : List Int} {n : Nat} (hd : l.Nodup) (h : ∀ a∈l,0≤a∧a < n) : l.length≤n:=by
 have h1 : (l.map Int.toNat).Nodup:=by
  refine List.pairwise_map.2 (List.Pairwise.imp_of_mem ?_ hd)
  intro a b ha hb hab e
  have:=h a ha
  have:=h b hb
  exact hab (by omega)
 have h2 : (l.map Int.toNat) ⊆ List.range n:=fun x hx=>by
  obtain ⟨a,ha,rfl⟩:=List.mem_map.1 hx
  have:=h a ha
  exact List.mem_range.2 (by omega)
 have:=h1.length_le_of_subset h2
 simpa using this
theorem bB.nf {m : Mem} (h : bB m) : m.free.length≤12:=by
 have h1:=pa h.nodup fun a ha=>⟨(h.free a ha).1,(h.free a ha).2.1⟩
 have:=h.ns
 omega
theorem bB.refs {m : Mem} (h : bB m) {a : Int} (h1 : 0≤a) (h2 : a < m.slots.length) : 0≤(msl m a.toNat).refs∧(msl m a.toNat).refs≤1000:=by
 have:=h.sl (i:=a.toNat) (by omega)
 exact ⟨this.r0,this.r1⟩
end Go.Proofs.Ytpmamacjepcdmaa

namespace Go.Proofs.Ytpmamacjepcdmaa
open Go Go.Sy Go.RowKit
set_option linter.unusedSimpArgs false
set_option linter.unusedVariables false
theorem Bf {Γ : Gam} {R : List CD→Prop} {E : Env} {J : JJ} {b : X} {t e : Tree} (h : (b.den E).bool=true) (ht : t.den Γ R E J) : (Tree.ite b t e).den Γ R E J:=⟨fun _=>ht,fun h'=>by rw [h] at h';cases h'⟩
theorem Fk {Γ : Gam} {R : List CD→Prop} {E : Env} {J : JJ} {b : X} {t e : Tree} (h : (b.den E).bool=false) (ht : e.den Γ R E J) : (Tree.ite b t e).den Γ R E J:=⟨fun h'=>by rw [h] at h';(cases h'),fun _=>ht⟩
end Go.Proofs.Ytpmamacjepcdmaa

namespace Go.Proofs.Ytpmamacjepcdmaa
open Go Go.Sy Go.RowKit
set_option linter.unusedSimpArgs false
set_option linter.unusedVariables false
end Go.Proofs.Ytpmamacjepcdmaa
