import Derived.Test.YtpmamacjepcdmaaCChain4
namespace Go.Proofs.Ytpmamacjepcdmaa
open Go Go.Sy Go.RowKit
set_option linter.unusedSimpArgs false
set_option linter.unusedVariables false
def kys (m : Mem) (a : Int) : Key:=(msl m a.toNat).k
structure Ch (m : Mem) (b : Int) (a : Int) : Prop where
 refs : (msl m a.toNat).refs≠0
 inn : (msl m a.toNat).inn=true
 bk : bk m (kys m a)=b
structure oa (m : Mem) (b : Nat) (l : List Int) : Prop where
 of : dY m b=some l
 ok : ∀ a∈l,Ch m b a
 nd : (l.map (kys m)).Nodup
structure tf (m : Mem) : Prop where
 mem : cr m
 all : ∀ b : Nat,b < m.heads.length→∃ l,oa m b l
theorem Bz {m : Mem} {b : Int} {ks : List Key} {a : Int} : eZ m b ks a=0↔Ch m b a∧kys m a ∉ ks:=by
 unfold eZ
 constructor
 ·intro h
  split at h
  ·cases h
  ·rename_i h1
   split at h
   ·cases h
   ·rename_i h2
    split at h
    ·cases h
    ·rename_i h3
     refine ⟨⟨fun e=>h1 (.inl e),?_,Classical.not_not.1 h2⟩,h3⟩
     cases hx : (msl m a.toNat).inn with
     | true=>rfl
     | false=>exact absurd (.inr hx) h1
 ·rintro ⟨⟨h1,h2,h3⟩,h4⟩
  rw [if_neg,if_neg (fun h=>h h3),if_neg (show (msl m a.toNat).k ∉ ks from h4)]
  rintro (e | e)
  ·exact h1 e
  ·rw [h2] at e;cases e
theorem AT {m : Mem} {b : Int} : ∀ {l : List Int} {ks : List Key},((cW m b l ks).1=0↔(∀ a∈l,Ch m b a∧kys m a ∉ ks)∧(l.map (kys m)).Nodup)
 | [],ks=>by simp [cW]
 | a :: l,ks=>by
  have ih:=AT (m:=m) (b:=b) (l:=l) (ks:=kys m a :: ks)
  simp only [cW]
  split
  ·rename_i h
   constructor
   ·intro e;exact absurd e h
   ·intro e;exact absurd (Bz.2 (e.1 a (by simp))) h
  ·rename_i h
   have h0:=Bz.1 (Classical.not_not.1 h)
   show (cW m b l (kys m a :: ks)).1=0↔_
   rw [ih]
   simp only [List.map_cons,List.nodup_cons,List.mem_cons,not_or,forall_eq_or_imp]
   constructor
   ·rintro ⟨h1,h2⟩
    refine ⟨⟨h0,fun x hx=>⟨(h1 x hx).1,(h1 x hx).2.2⟩⟩,fun hm=>?_,h2⟩
    obtain ⟨y,hy,e⟩:=List.mem_map.1 hm
    exact (h1 y hy).2.1 e
   ·rintro ⟨⟨_,h1⟩,h2,h3⟩
    exact ⟨fun x hx=>⟨(h1 x hx).1,fun e=>h2 (List.mem_map.2 ⟨x,hx,e⟩),(h1 x hx).2⟩,h3⟩
theorem Bu {m : Mem} {b : Int} : ∀ {l : List Int} {ks : List Key},(cW m b l ks).1=0→∀ k∈(cW m b l ks).2,k∈ks∨∃ a∈l,k=kys m a
 | [],ks,_,k,hk=>.inl hk
 | a :: l,ks,h,k,hk=>by
  simp only [cW] at h hk
  split at h
  ·rename_i hx;exact absurd h hx
  ·rename_i hx
   rw [if_neg hx] at hk
   rcases Bu h k hk with h1 | ⟨x,h1,h2⟩
   ·rcases List.mem_cons.1 h1 with rfl | h1
    ·exact .inr ⟨a,by simp,rfl⟩
    ·exact .inl h1
   ·exact .inr ⟨x,by simp [h1],h2⟩
theorem AS {m : Mem} : ∀ {n b : Nat} {ks : List Key},(∀ k∈ks,bk m k < b)→(dF m n b ks=0↔∀ i,b≤i→i < b + n→∃ l,oa m i l)
 | 0,b,ks,_=>by simp only [dF,true_iff];intro i h1 h2;omega
 | n + 1,b,ks,hk=>by
  cases hc : dY m b with
  | none =>
   rw [pE hc]
   constructor
   ·intro h;cases h
   ·intro h
    obtain ⟨l,hl⟩:=h b (Nat.le_refl _) (by omega)
    rw [hl.of] at hc;cases hc
  | some l =>
   rw [pD hc]
   by_cases h0 : (cW m b l ks).1=0
   ·rw [if_neg (fun h=>h h0)]
    obtain ⟨h1,h2⟩:=AT.1 h0
    have ih:=AS (m:=m) (n:=n) (b:=b + 1) (ks:=(cW m b l ks).2) fun k hk'=>by
     rcases Bu h0 k hk' with h | ⟨a,ha,e⟩
     ·have:=hk k h;omega
     ·rw [e,(h1 a ha).1.bk];omega
    rw [ih]
    constructor
    ·intro h i hi1 hi2
     rcases Nat.lt_or_ge b i with hl | hg
     ·exact h i (by omega) (by omega)
     ·have : i=b:=by omega
      subst this
      exact ⟨l,hc,fun a ha=>(h1 a ha).1,h2⟩
    ·intro h i hi1 hi2
     exact h i (by omega) (by omega)
   ·rw [if_pos h0]
    constructor
    ·intro h;exact absurd h h0
    ·intro h
     obtain ⟨l',hl⟩:=h b (Nat.le_refl _) (by omega)
     have:=hl.of
     rw [hc] at this
     cases this
     refine absurd (AT.2 ⟨fun a ha=>⟨hl.ok a ha,fun hm=>?_⟩,hl.nd⟩) h0
     have h3:=hk _ hm
     rw [(hl.ok a ha).bk] at h3
     omega
theorem BC (m : Mem) : cp m=0↔tf m:=by
 unfold cp
 constructor
 ·intro h
  split at h
  ·rename_i hx;exact absurd h hx
  ·rename_i hx
   have hm:=(fW m).1 (Classical.not_not.1 hx)
   exact ⟨hm,fun b hb=>(AS (by simp)).1 h b (by omega) (by omega)⟩
 ·intro h
  rw [if_neg (fun hx=>hx ((fW m).2 h.mem))]
  exact (AS (by simp)).2 fun i _ hi=>h.all i (by omega)
theorem oa.r {m : Mem} {b : Nat} {l : List Int} (h : oa m b l) : (cw m b).1=l:=by unfold cw;rw [h.of]
def chL (m : Mem) (b : Nat) : List Int:=(cw m b).1
theorem tf.ch {m : Mem} (h : tf m) {b : Nat} (hb : b < m.heads.length) : oa m b (chL m b):=by
 obtain ⟨l,hl⟩:=h.all b hb
 have:=hl.r
 unfold chL
 rw [this];exact hl
theorem AF {m : Mem} (h : tf m) {b : Nat} {a : Int} (ha : a∈chL m b) : 0≤a∧a < m.slots.length:=(um h.mem b).2 a ha
def AO (t : Int) : List Int→Int→Int
 | [],p=>p
 | a :: l,p=>if a=t then p else AO t l (a + 1)
end Go.Proofs.Ytpmamacjepcdmaa

namespace Go.Proofs.Ytpmamacjepcdmaa
open Go Go.Sy Go.RowKit
set_option linter.unusedSimpArgs false
set_option linter.unusedVariables false
theorem CI {m : Mem} (hm : cr m) {k : Key} (hk : Key.Ok k) : 0≤bk m k∧bk m k < m.heads.length∧(bH k m.heads.length).2=0:=wu hk (by have:=hm.nh1;omega) (by have:=hm.nh4;omega)
end Go.Proofs.Ytpmamacjepcdmaa
