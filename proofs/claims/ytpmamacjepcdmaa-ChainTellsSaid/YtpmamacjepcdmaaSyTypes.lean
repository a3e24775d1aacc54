/- The table of types, looked over. -/
import Derived.Test.YtpmamacjepcdmaaSyAll
namespace Go.Sy
open Go.RowKit

def fldsChk : List Field → List (Nat × Nat) → Bool
  | [], [] => true
  | f :: l, (o, u) :: m => ((Nat.beq f.offset o).and (Nat.beq f.type u)).and (fldsChk l m)
  | _, _ => false
def kChk : TK → TypeDesc → Bool
  | .struct fs, .struct flds => fldsChk flds.toList fs
  | .array n e, .array m f => (Nat.beq n m).and (Nat.beq e f)
  | .slice e, .slice f => Nat.beq e f
  | .map k v, .map k' v' => (Nat.beq k k').and (Nat.beq v v')
  | .ptr e, .pointer f => Nat.beq e f
  | .other, _ => true
  | _, _ => false
def isAggV : Value → Bool | .agg _ => true | _ => false
def isAggD : TypeDesc → Bool | .struct _ => true | .array _ _ => true | _ => false
def bsame (a b : Bool) : Bool := if a then b else b.not
def tiChk (P : Program) (t : Nat) (ti : TI) : Bool := match P.info? t, P.underlying t with
  | some i, some d => (match i.zero with
    | some z => ((Nat.beq i.size ti.sz).and ((Nat.beq i.bytes ti.by_).and (Nat.beq z.cells.size ti.sz))).and (((match ofCells z.cells.toList with | some l => listSame SC.same l ti.zero | none => false)).and
        (((bsame ti.agg (isAggV z)).and (bsame ti.agg (isAggD d))).and (kChk ti.k d)))
    | none => false)
  | _, _ => false
def ttChk (P : Program) : TT → Bool
  | [] => true
  | (t, ti) :: l => (tiChk P t ti).and (ttChk P l)

theorem bsame_iff {a b : Bool} (h : bsame a b = true) : a = b := by revert h; cases a <;> cases b <;> simp [bsame]
theorem fldsChk_sound : ∀ {l : List Field} {m : List (Nat × Nat)}, fldsChk l m = true → l.length = m.length ∧ ∀ j off u, nth m j = some (off, u) → ∃ f, l[j]? = some f ∧ f.offset = off ∧ f.type = u
  | [], [], _ => ⟨rfl, fun _ _ _ h => by simp [nth] at h⟩
  | f :: l, (o, u) :: m, h => by
    simp only [fldsChk, Bool.and_eq_true] at h
    obtain ⟨i1, i2⟩ := fldsChk_sound h.2
    refine ⟨by simp [i1], fun j off v hj => ?_⟩
    cases j with
    | zero =>
      simp only [nth, Option.some.injEq, Prod.mk.injEq] at hj
      exact ⟨f, rfl, by rw [Nat.eq_of_beq_eq_true h.1.1]; exact hj.1, by rw [Nat.eq_of_beq_eq_true h.1.2]; exact hj.2⟩
    | succ j => simp only [nth] at hj; simpa using i2 j off v hj
  | [], _ :: _, h => by simp [fldsChk] at h
  | _ :: _, [], h => by simp [fldsChk] at h
theorem tiChk_sound {P : Program} {t : Nat} {ti : TI} (h : tiChk P t ti = true) : TiOk P t ti := by
  unfold tiChk at h
  split at h
  · rename_i i d hi hd
    split at h
    · rename_i z hz
      simp only [Bool.and_eq_true] at h
      obtain ⟨⟨h1, h2, h3⟩, h4, ⟨g5, g6⟩, h7⟩ := h
      have h5 := bsame_iff g5
      have h6 := bsame_iff g6
      clear g5 g6
      refine ⟨i, d, z, hi, hd, Nat.eq_of_beq_eq_true h1, Nat.eq_of_beq_eq_true h2, hz, Nat.eq_of_beq_eq_true h3, ?_, ?_, ?_, ?_⟩
      · split at h4
        · rename_i l hl; rw [hl, listSame_eq SC.same_eq h4]
        · cases h4
      · rw [h5]; cases z <;> simp [isAggV]
      · rw [h6]; cases d <;> simp [isAggD]
      · cases hk : ti.k <;> rw [hk] at h7 <;> cases d <;> simp only [kChk, Bool.false_eq_true] at h7 <;> try trivial
        · rename_i fs flds
          obtain ⟨e1, e2⟩ := fldsChk_sound h7
          exact ⟨flds, rfl, by rw [← Array.length_toList]; exact e1, fun j off u hj => by
            obtain ⟨f, hf, h8⟩ := e2 j off u hj
            exact ⟨f, by simpa using hf, h8⟩⟩
        · simp only [Bool.and_eq_true] at h7
          rw [Nat.eq_of_beq_eq_true h7.1, Nat.eq_of_beq_eq_true h7.2]
        · rw [Nat.eq_of_beq_eq_true h7]
        · simp only [Bool.and_eq_true] at h7
          rw [Nat.eq_of_beq_eq_true h7.1, Nat.eq_of_beq_eq_true h7.2]
        · rw [Nat.eq_of_beq_eq_true h7]
    · cases h
  · cases h
theorem ttChk_get {P : Program} : ∀ {T : TT}, ttChk P T = true → ∀ t ti, T.get t = some ti → TiOk P t ti
  | [], _, _, _, h => by simp [TT.get] at h
  | (u, i) :: l, hc, t, ti, h => by
    simp only [ttChk, Bool.and_eq_true] at hc
    simp only [TT.get] at h
    split at h
    · rename_i e
      cases h
      rw [← Nat.eq_of_beq_eq_true e]; exact tiChk_sound hc.1
    · exact ttChk_get hc.2 t ti h
end Go.Sy
