import Derived.Test.YtpmamacjepcdmaaCChain4
namespace Go.Proofs.Ytpmamacjepcdmaa
open Go Go.Sy Go.RowKit
set_option linter.unusedSimpArgs false
set_option linter.unusedVariables false
def kys (m : Mem) (a : Int) : Key:=(msl m a.toNat).k
structure yU (m : Mem) (b : Int) (a : Int) : Prop where
 refs : (msl m a.toNat).refs≠0
 inn : (msl m a.toNat).inn=true
 bk : bk m (kys m a)=b
structure ft (m : Mem) (b : Nat) (l : List Int) : Prop where
 of : cQ m b=some l
 ok : ∀ a∈l,yU m b a
 nd : (l.map (kys m)).Nodup
structure aK (m : Mem) : Prop where
 mem : bs m
 all : ∀ b : Nat,b < m.heads.length→∃ l,ft m b l
theorem qF {m : Mem} {b : Int} {ks : List Key} {a : Int} : eO m b ks a=0↔yU m b a∧kys m a ∉ ks:=by
 unfold eO
 constructor
 ·intro h
  split at h
  ·cases h
  ·rename_i h1
   split at h
   ·cases h
   ·rename_i h2
    split at h
    ·cases h
    ·rename_i h3
     refine ⟨⟨fun e=>h1 (.inl e),?_,Classical.not_not.1 h2⟩,h3⟩
     cases hx : (msl m a.toNat).inn with
     | true=>rfl
     | false=>exact absurd (.inr hx) h1
 ·rintro ⟨⟨h1,h2,h3⟩,h4⟩
  rw [if_neg,if_neg (fun h=>h h3),if_neg (show (msl m a.toNat).k ∉ ks from h4)]
  rintro (e | e)
  ·exact h1 e
  ·rw [h2] at e;cases e
theorem jD {m : Mem} {b : Int} : ∀ {l : List Int} {ks : List Key},((bJ m b l ks).1=0↔(∀ a∈l,yU m b a∧kys m a ∉ ks)∧(l.map (kys m)).Nodup)
 | [],ks=>by simp [bJ]
 | a :: l,ks=>by
  have ih:=jD (m:=m) (b:=b) (l:=l) (ks:=kys m a :: ks)
  simp only [bJ]
  split
  ·rename_i h
   constructor
   ·intro e;exact absurd e h
   ·intro e;exact absurd (qF.2 (e.1 a (by simp))) h
  ·rename_i h
   have h0:=qF.1 (Classical.not_not.1 h)
   show (bJ m b l (kys m a :: ks)).1=0↔_
   rw [ih]
   simp only [List.map_cons,List.nodup_cons,List.mem_cons,not_or,forall_eq_or_imp]
   constructor
   ·rintro ⟨h1,h2⟩
    refine ⟨⟨h0,fun x hx=>⟨(h1 x hx).1,(h1 x hx).2.2⟩⟩,fun hm=>?_,h2⟩
    obtain ⟨y,hy,e⟩:=List.mem_map.1 hm
    exact (h1 y hy).2.1 e
   ·rintro ⟨⟨_,h1⟩,h2,h3⟩
    exact ⟨fun x hx=>⟨(h1 x hx).1,fun e=>h2 (List.mem_map.2 ⟨x,hx,e⟩),(h1 x hx).2⟩,h3⟩
theorem po {m : Mem} {b : Int} : ∀ {l : List Int} {ks : List Key},(bJ m b l ks).1=0→∀ k∈(bJ m b l ks).2,k∈ks∨∃ a∈l,k=kys m a
 | [],ks,_,k,hk=>.inl hk
 | a :: l,ks,h,k,hk=>by
  simp only [bJ] at h hk
  split at h
  ·rename_i hx;exact absurd h hx
  ·rename_i hx
   rw [if_neg hx] at hk
   rcases po h k hk with h1 | ⟨x,h1,h2⟩
   ·rcases List.mem_cons.1 h1 with rfl | h1
    ·exact .inr ⟨a,by simp,rfl⟩
    ·exact .inl h1
   ·exact .inr ⟨x,by simp [h1],h2⟩
theorem jC {m : Mem} : ∀ {n b : Nat} {ks : List Key},(∀ k∈ks,bk m k < b)→(dk m n b ks=0↔∀ i,b≤i→i < b + n→∃ l,ft m i l)
 | 0,b,ks,_=>by simp only [dk,true_iff];intro i h1 h2;omega
 | n + 1,b,ks,hk=>by
  cases hc : cQ m b with
  | none =>
   rw [mg hc]
   constructor
   ·intro h;cases h
   ·intro h
    obtain ⟨l,hl⟩:=h b (Nat.le_refl _) (by omega)
    rw [hl.of] at hc;cases hc
  | some l =>
   rw [mc hc]
   by_cases h0 : (bJ m b l ks).1=0
   ·rw [if_neg (fun h=>h h0)]
    obtain ⟨h1,h2⟩:=jD.1 h0
    have ih:=jC (m:=m) (n:=n) (b:=b + 1) (ks:=(bJ m b l ks).2) fun k hk'=>by
     rcases po h0 k hk' with h | ⟨a,ha,e⟩
     ·have:=hk k h;omega
     ·rw [e,(h1 a ha).1.bk];omega
    rw [ih]
    constructor
    ·intro h i hi1 hi2
     rcases Nat.lt_or_ge b i with hl | hg
     ·exact h i (by omega) (by omega)
     ·have : i=b:=by omega
      subst this
      exact ⟨l,hc,fun a ha=>(h1 a ha).1,h2⟩
    ·intro h i hi1 hi2
     exact h i (by omega) (by omega)
   ·rw [if_pos h0]
    constructor
    ·intro h;exact absurd h h0
    ·intro h
     obtain ⟨l',hl⟩:=h b (Nat.le_refl _) (by omega)
     have:=hl.of
     rw [hc] at this
     cases this
     refine absurd (jD.2 ⟨fun a ha=>⟨hl.ok a ha,fun hm=>?_⟩,hl.nd⟩) h0
     have h3:=hk _ hm
     rw [(hl.ok a ha).bk] at h3
     omega
theorem rp (m : Mem) : bL m=0↔aK m:=by
 unfold bL
 constructor
 ·intro h
  split at h
  ·rename_i hx;exact absurd h hx
  ·rename_i hx
   have hm:=(dv m).1 (Classical.not_not.1 hx)
   exact ⟨hm,fun b hb=>(jC (by simp)).1 h b (by omega) (by omega)⟩
 ·intro h
  rw [if_neg (fun hx=>hx ((dv m).2 h.mem))]
  exact (jC (by simp)).2 fun i _ hi=>h.all i (by omega)
theorem ft.r {m : Mem} {b : Nat} {l : List Int} (h : ft m b l) : (bG m b).1=l:=by unfold bG;rw [h.of]
def chL (m : Mem) (b : Nat) : List Int:=(bG m b).1
theorem aK.ch {m : Mem} (h : aK m) {b : Nat} (hb : b < m.heads.length) : ft m b (chL m b):=by
 obtain ⟨l,hl⟩:=h.all b hb
 have:=hl.r
 unfold chL
 rw [this];exact hl
theorem df {m : Mem} (h : aK m) {b : Nat} {a : Int} (ha : a∈chL m b) : 0≤a∧a < m.slots.length:=(jf h.mem b).2 a ha
theorem nj {α β : Type} {f : α→β} : ∀ {l : List α},(l.map f).Nodup→∀ {a b : α},a∈l→b∈l→f a=f b→a=b
 | [],_,_,_,h,_,_=>by cases h
 | x :: l,hd,a,b,ha,hb,e=>by
  rw [List.map_cons,List.nodup_cons] at hd
  rcases List.mem_cons.1 ha with h1 | h1
  ·rcases List.mem_cons.1 hb with h2 | h2
   ·rw [h1,h2]
   ·exact absurd (List.mem_map.2 ⟨b,h2,by rw [← h1];exact e.symm⟩) hd.1
  ·rcases List.mem_cons.1 hb with h2 | h2
   ·exact absurd (List.mem_map.2 ⟨a,h1,by rw [← h2];exact e⟩) hd.1
   ·exact nj hd.2 h1 h2 e
theorem nt {m : Mem} {f : dV} : ∀ {n b : Nat} {acc : List dV},f∈bD m n b acc↔f∈acc∨∃ i,b≤i∧i < b + n∧∃ a∈chL m i,f=bP m a
 | 0,b,acc=>by
  simp only [bD]
  exact ⟨.inl,fun h=>h.resolve_right (by rintro ⟨i,h1,h2,_⟩;omega)⟩
 | n + 1,b,acc=>by
  rw [bD,nt (n:=n) (b:=b + 1)]
  constructor
  ·rintro (h | ⟨i,h1,h2,h3⟩)
   ·rcases List.mem_append.1 h with h | h
    ·exact .inl h
    ·obtain ⟨a,ha,e⟩:=List.mem_map.1 h
     exact .inr ⟨b,Nat.le_refl _,by omega,a,ha,e.symm⟩
   ·exact .inr ⟨i,by omega,by omega,h3⟩
  ·rintro (h | ⟨i,h1,h2,a,ha,e⟩)
   ·exact .inl (List.mem_append_left _ h)
   ·rcases Nat.lt_or_ge b i with hl | hg
    ·exact .inr ⟨i,by omega,by omega,a,ha,e⟩
    ·have : i=b:=by omega
     subst this
     exact .inl (List.mem_append_right _ (List.mem_map.2 ⟨a,ha,e.symm⟩))
theorem uD {m : Mem} {f : dV} : f∈bl m↔∃ b,b < m.heads.length∧∃ a∈chL m b,f=bP m a:=by
 unfold bl
 rw [nt]
 constructor
 ·rintro (h | ⟨i,_,h2,h3⟩)
  ·cases h
  ·exact ⟨i,by omega,h3⟩
 ·rintro ⟨b,h1,h2⟩
  exact .inr ⟨b,by omega,by omega,h2⟩
theorem s9 {m : Mem} (h : aK m) {f : dV} (hf : f∈bl m) : 0≤f.slot∧f.slot < m.slots.length∧kys m f.slot=f.k∧f=bP m f.slot∧0≤bk m f.k∧bk m f.k < m.heads.length∧f.slot∈chL m (bk m f.k).toNat:=by
 obtain ⟨b,hb,a,ha,e⟩:=uD.1 hf
 have hc:=h.ch hb
 have h1:=df h ha
 have h2:=(hc.ok a ha).bk
 have e1 : f.slot=a:=by rw [e];rfl
 have e2 : f.k=kys m a:=by rw [e];rfl
 rw [e1,e2,h2]
 refine ⟨h1.1,h1.2,rfl,e,by omega,by omega,?_⟩
 rw [show ((b : Int)).toNat=b from by omega]
 exact ha
theorem CI {m : Mem} {b : Nat} (hb : b < m.heads.length) {a : Int} (ha : a∈chL m b) : bP m a∈bl m:=uD.2 ⟨b,hb,a,ha,rfl⟩
theorem jZ {m : Mem} (hm : bs m) : ∀ {n b : Nat} {acc : List dV},(bD m n b acc).length≤acc.length + n * 12
 | 0,b,acc=>by simp [bD]
 | n + 1,b,acc=>by
  rw [bD]
  have ih:=jZ hm (n:=n) (b:=b + 1) (acc:=acc ++ (bG m b).1.map (bP m))
  have h1:=(jf hm b).1
  have h2:=hm.ns
  rw [List.length_append,List.length_map] at ih
  omega
theorem vu {m : Mem} (hm : bs m) : (bl m).length≤48:=by
 have:=jZ hm (n:=m.heads.length) (b:=0) (acc:=[])
 have h1:=hm.nh4
 unfold bl
 simp only [List.length_nil] at this
 omega
def gx (t : Int) : List Int→Int→Int
 | [],p=>p
 | a :: l,p=>if a=t then p else gx t l (a + 1)
end Go.Proofs.Ytpmamacjepcdmaa

namespace Go.Proofs.Ytpmamacjepcdmaa
open Go Go.Sy Go.RowKit
set_option linter.unusedSimpArgs false
set_option linter.unusedVariables false
theorem xa {m : Mem} (hm : bs m) {k : Key} (hk : Key.Ok k) : 0≤bk m k∧bk m k < m.heads.length∧(bI k m.heads.length).2=0:=qg hk (by have:=hm.nh1;omega) (by have:=hm.nh4;omega)
end Go.Proofs.Ytpmamacjepcdmaa
