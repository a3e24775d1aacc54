import Derived.Test.YtpmamacjepcdmaaCFit
import Derived.Test.YtpmamacjepcdmaaCChainLaws2
import Derived.Test.YtpmamacjepcdmaaCLooked
/- Plain: a call that goes on alone. -/
namespace Go.Proofs.Ytpmamacjepcdmaa
open Go Go.Sy Go.RowKit
set_option linter.unusedSimpArgs false
set_option linter.unusedVariables false

/-- A Look of a key in its chain. -/
def lkF (k : Key) (pc cur slot : Int) : Frm := ⟨⟨1, k, 0, 0, 0⟩, pc, cur, 0, slot, 0, [], false, 0⟩
theorem lk0 {m : Mem} {k : Key} {c s : Int} : lookStep m (lkF k 0 c s) = (lkF k 1 (headAt m (bk m k)) s, m) := rfl
theorem lk_no {m : Mem} {k : Key} {a s : Int} (h : 0 ≤ a) (hk : kys m a ≠ k) : lookStep m (lkF k 1 (a + 1) s) = (lkF k 2 (a + 1) s, m) := by
  have e : at1 m (lkF k 1 (a + 1) s) = msl m a.toNat := by unfold at1 lkF; rw [show a + 1 - 1 = a from by omega]
  unfold lookStep
  rw [if_neg (by simp [lkF]), if_pos ⟨rfl, by simp only [lkF]; omega⟩, e, if_neg (show ¬ (msl m a.toNat).k = (lkF k 1 (a + 1) s).c.k from hk)]; rfl
theorem lk_yes {m : Mem} {k : Key} {a s : Int} (h : 0 ≤ a) (hk : kys m a = k) : lookStep m (lkF k 1 (a + 1) s) = (lkF k 3 (a + 1) s, m) := by
  have e : at1 m (lkF k 1 (a + 1) s) = msl m a.toNat := by unfold at1 lkF; rw [show a + 1 - 1 = a from by omega]
  unfold lookStep
  rw [if_neg (by simp [lkF]), if_pos ⟨rfl, by simp only [lkF]; omega⟩, e, if_pos (show (msl m a.toNat).k = (lkF k 1 (a + 1) s).c.k from hk)]; rfl
theorem lk_next {m : Mem} {k : Key} {a s : Int} (h : 0 ≤ a) : lookStep m (lkF k 2 (a + 1) s) = (lkF k 1 (nxt m a) s, m) := by
  have e : at1 m (lkF k 2 (a + 1) s) = msl m a.toNat := by unfold at1 lkF; rw [show a + 1 - 1 = a from by omega]
  unfold lookStep
  rw [if_neg (by simp [lkF]), if_neg (by simp [lkF]), if_neg (by simp [lkF]), if_pos ⟨rfl, by simp only [lkF]; omega⟩, e]; rfl
theorem lk_none {m : Mem} {k : Key} {s : Int} (h : 0 ≤ bk m k) : lookStep m (lkF k 1 (-1 - bk m k) s) = (endFrame (lkF k 1 (-1 - bk m k) s) 5, m) := by
  have e : bucketFor m (lkF k 1 (-1 - bk m k) s).c = bk m k := rfl
  unfold lookStep
  rw [e, if_neg (by simp [lkF]), if_neg (by simp only [lkF]; omega), if_pos ⟨rfl, rfl⟩]
theorem lk_hold {m : Mem} {k : Key} {a s : Int} (h : 0 ≤ a) (h1 : (msl m a.toNat).refs ≠ 0) (h2 : (msl m a.toNat).refs ≠ 1000) : lookStep m (lkF k 3 (a + 1) s) = (lkF k 4 (a + 1) a, (hold m a).1) := by
  have e : a + 1 - 1 = a := by omega
  have e2 : (hold m a).2 = true := by unfold hold; rw [if_neg (by omega)]
  unfold lookStep
  rw [if_neg (by simp [lkF]), if_neg (by simp [lkF]), if_neg (by simp [lkF]), if_neg (by simp [lkF]), if_pos ⟨rfl, by simp only [lkF]; omega⟩]
  simp only [lkF, e]
  rw [if_pos e2]
theorem lk_ok {m : Mem} {k : Key} {c a : Int} (h : 0 ≤ a) (hk : (msl m a.toNat).k = k) (hi : (msl m a.toNat).inn = true) (ht : m.now < (msl m a.toNat).till) : lookStep m (lkF k 4 c a) = (endFrame (lkF k 4 c a) 0, m) := by
  have e : at2 m (lkF k 4 c a) = msl m a.toNat := rfl
  unfold lookStep
  rw [if_neg (by simp [lkF]), if_neg (by simp [lkF]), if_neg (by simp [lkF]), if_neg (by simp [lkF]), if_neg (by simp [lkF]), if_pos ⟨rfl, by simp only [lkF]; omega⟩, e, if_neg (by rw [hi]; simp [lkF, hk]), if_neg (by omega)]
theorem lk_over {m : Mem} {k : Key} {c a : Int} (h : 0 ≤ a) (hk : (msl m a.toNat).k = k) (hi : (msl m a.toNat).inn = true) (ht : (msl m a.toNat).till ≤ m.now) : lookStep m (lkF k 4 c a) = (lkF k 6 c a, m) := by
  have e : at2 m (lkF k 4 c a) = msl m a.toNat := rfl
  unfold lookStep
  rw [if_neg (by simp [lkF]), if_neg (by simp [lkF]), if_neg (by simp [lkF]), if_neg (by simp [lkF]), if_neg (by simp [lkF]), if_pos ⟨rfl, by simp only [lkF]; omega⟩, e, if_neg (by rw [hi]; simp [lkF, hk]), if_pos ht]; rfl
theorem lk_put {m : Mem} {k : Key} {c a : Int} (h : 0 ≤ a) : lookStep m (lkF k 6 c a) = (endFrame (lkF k 6 c (-1)) 5, put m a) := by
  unfold lookStep
  rw [if_neg (by simp [lkF]), if_neg (by simp [lkF]), if_neg (by simp [lkF]), if_neg (by simp [lkF]), if_neg (by simp [lkF]), if_neg (by simp [lkF]), if_neg (by simp [lkF]), if_pos ⟨rfl, by simp only [lkF]; omega⟩]; rfl
theorem lk_walk {m : Mem} {k : Key} {s : Int} : ∀ {l : List Int} {n q : Int} {N : Nat}, Seg m n l q → (∀ a ∈ l, kys m a ≠ k) → aloneR lookStep (2 * l.length + N) (lkF k 1 n s) m = aloneR lookStep N (lkF k 1 q s) m
  | [], n, q, N, h, _ => by
    have h : n = q := h
    subst h
    rw [List.length_nil, Nat.mul_zero, Nat.zero_add]
  | c :: l, n, q, N, h, hk => by
    obtain ⟨h1, h2, h3⟩ := h
    subst h1
    rw [List.length_cons, show 2 * (l.length + 1) + N = 2 * l.length + N + 1 + 1 from by omega, alone_on (lk_no (by omega) (hk c (by simp))) rfl, alone_on (lk_next (by omega)) rfl]
    exact lk_walk h3 fun a ha => hk a (by simp [ha])
theorem path_split {m : Mem} {k : Key} : ∀ {l : List Int} {n e : Int}, Path m n l e → (∀ a ∈ l, kys m a ≠ k) ∧ Seg m n l e ∨ ∃ l1 a l2, l = l1 ++ a :: l2 ∧ (∀ a ∈ l1, kys m a ≠ k) ∧ kys m a = k ∧ Seg m n l1 (a + 1) ∧ 0 ≤ a
  | [], n, e, h => .inl ⟨fun _ h => (by cases h), h.1⟩
  | c :: l, n, e, h => by
    obtain ⟨h1, h2, h3⟩ := h
    by_cases hc : kys m c = k
    · exact .inr ⟨[], c, l, rfl, fun _ h => by (cases h), hc, h1, by omega⟩
    · rcases path_split h3 with ⟨k1, k2⟩ | ⟨l1, a, l2, e1, k1, k2, k3, k4⟩
      · exact .inl ⟨fun a ha => by rcases List.mem_cons.1 ha with rfl | ha; exact hc; exact k1 a ha, h1, h2, k2⟩
      · exact .inr ⟨c :: l1, a, l2, by rw [e1]; rfl, fun a ha => by rcases List.mem_cons.1 ha with rfl | ha; exact hc; exact k1 a ha, k2, ⟨h1, h2, k3⟩, k4⟩
theorem put_hold {m : Mem} {a : Int} (h0 : 0 ≤ a) (h1 : a < m.slots.length) (hr : 1 ≤ (msl m a.toNat).refs) (h2 : (msl m a.toNat).refs ≠ 1000) : put (hold m a).1 a = m := by
  have e : hold m a = (turned m a.toNat (refsBy 1) m.free, true) := by unfold hold; rw [if_neg (by omega)]; rfl
  have er : (msl (turned m a.toNat (refsBy 1) m.free) a.toNat).refs = (msl m a.toNat).refs + 1 := by rw [msl_turned, if_pos ⟨rfl, by omega⟩]; rfl
  rw [e]
  unfold put
  rw [if_neg (by rw [er]; omega), if_neg (by rw [er]; omega)]
  have := turned_refs m a.toNat 1 (-1) m.free m.free
  have z := turned_zero m a.toNat
  rw [show (1 : Int) + -1 = 0 from rfl, z] at this
  exact this
/-- A Look that goes on alone. -/
theorem look_alone {m : Mem} (hC : ChainsOk m) {k : Key} (hk : Key.Ok k) (hr : ∀ i, i < m.slots.length → (msl m i).refs ≠ 1000) :
    ∃ f x, aloneR lookStep (2 * m.slots.length + 6) (newFrame ⟨1, k, 0, 0, 0⟩) m = (f, x, true) ∧
      ((f.e = 5 ∧ x = m ∧ ∀ a ∈ chL m (bk m k).toNat, kys m a = k → (msl m a.toNat).till ≤ m.now) ∨
       (f.e = 0 ∧ f.slot ∈ chL m (bk m k).toNat ∧ kys m f.slot = k ∧ m.now < (msl m f.slot.toNat).till ∧ x = (hold m f.slot).1)) := by
  have hb := bk_range hC.mem hk
  obtain ⟨b, hbb⟩ : ∃ b : Nat, bk m k = b := ⟨(bk m k).toNat, by omega⟩
  have hch := hC.ch (b := b) (by omega)
  obtain ⟨hp, hl⟩ := chainOf_iff.1 hch.of
  have hst : newFrame ⟨1, k, 0, 0, 0⟩ = lkF k 0 0 (-1) := rfl
  rw [hst, show 2 * m.slots.length + 6 = 2 * m.slots.length + 5 + 1 from rfl, alone_on lk0 rfl, hbb, Int.toNat_natCast]
  rcases path_split (k := k) hp with ⟨k1, k2⟩ | ⟨l1, a, l2, e1, k1, k2, k3, k4⟩
  · rw [show 2 * m.slots.length + 5 = 2 * (chL m b).length + ((2 * m.slots.length + 4 - 2 * (chL m b).length) + 1) from by omega, lk_walk k2 k1, ← hbb, alone_end (lk_none hb.1) rfl]
    exact ⟨_, _, rfl, .inl ⟨rfl, rfl, fun a ha e => absurd e (k1 a ha)⟩⟩
  · have ha : a ∈ chL m b := by rw [e1]; simp
    have hin := chL_mem hC ha
    have hok := hch.ok a ha
    have hl1 : l1.length + 1 ≤ (chL m b).length := by rw [e1]; simp
    have r0 := hC.mem.refs hin.1 hin.2
    have r1 := hok.refs
    have r2 := hr a.toNat (by omega)
    have hx : hold m a = (turned m a.toNat (refsBy 1) m.free, true) := by unfold hold; rw [if_neg (by omega)]; rfl
    have hs : msl (hold m a).1 a.toNat = refsBy 1 (msl m a.toNat) := by rw [hx]; show msl (turned m a.toNat (refsBy 1) m.free) a.toNat = _; rw [msl_turned, if_pos ⟨rfl, by omega⟩]
    have hn : (hold m a).1.now = m.now := by rw [hx]; rfl
    rw [show 2 * m.slots.length + 5 = 2 * l1.length + ((2 * m.slots.length + 1 - 2 * l1.length) + 1 + 1 + 1 + 1) from by omega, lk_walk k3 k1, alone_on (lk_yes k4 k2) rfl, alone_on (lk_hold k4 r1 r2) rfl]
    by_cases ht : (msl m a.toNat).till ≤ m.now
    · rw [alone_on (lk_over k4 (by rw [hs]; exact k2) (by rw [hs]; exact hok.inn) (by rw [hs, hn]; exact ht)) rfl, alone_end (lk_put k4) rfl]
      refine ⟨_, _, rfl, .inl ⟨rfl, put_hold hin.1 hin.2 (by omega) r2, fun c hc e => ?_⟩⟩
      have := nodup_map_inj hch.nd hc ha (e.trans k2.symm)
      subst this
      exact ht
    · rw [alone_end (lk_ok k4 (by rw [hs]; exact k2) (by rw [hs]; exact hok.inn) (by rw [hs, hn]; show m.now < (msl m a.toNat).till; omega)) rfl]
      exact ⟨_, _, rfl, .inr ⟨rfl, ha, k2, by show _ < (msl m a.toNat).till; omega, rfl⟩⟩
end Go.Proofs.Ytpmamacjepcdmaa

/- Where nobody else goes on a Look is done in two steps a slot and six, and finds just what is mapped and not over; it holds that, and changes nothing else. -/
namespace Go.Proofs.Ytpmamacjepcdmaa
open Go Go.Sy Go.RowKit
set_option linter.unusedSimpArgs false
set_option linter.unusedVariables false

theorem flowsR_ok0 {m : Mem} (h : (flowsR m).2 = 0) : ChainsOk m ∧ flowsR m = (flowsOf m, 0) := by
  unfold flowsR at h ⊢
  split at h
  · rename_i hc; exact absurd h hc
  · rename_i hc
    have hc : checkChains m = 0 := Classical.not_not.1 hc
    exact ⟨(checkChains_iff m).1 hc, by rw [if_neg (fun x => x hc)]⟩
theorem let_hold {m : Mem} (hm : MemOk m) {a : Int} (h0 : 0 ≤ a) (h1 : a < m.slots.length) (hr : 1 ≤ (msl m a.toNat).refs) (h2 : (msl m a.toNat).refs ≠ 1000) : letGo (hold m a).1 a = (m, 0) := by
  have hx := hold_ok hm h0 h1
  have hl := (hold_len m a).1
  have e : (msl (hold m a).1 a.toNat).refs = (msl m a.toNat).refs + 1 := by
    have e : hold m a = (turned m a.toNat (refsBy 1) m.free, true) := by unfold hold; rw [if_neg (by omega)]; rfl
    rw [e]; show (msl (turned m a.toNat (refsBy 1) m.free) a.toNat).refs = _; rw [msl_turned, if_pos ⟨rfl, by omega⟩]; rfl
  unfold letGo
  rw [if_neg (fun x => x ((checkMem_iff _).2 hx)), if_pos ⟨h0, by rw [hl]; exact h1⟩, if_neg (by rw [e]; omega), put_hold h0 h1 hr h2]
def s20 : Sig := ⟨[.agg [.fz kS, .fz kI, .fz kI, .fz kI, .int .i64], .agg [.int .i64, .int .i64]], [.one (.bool)]⟩
def d20 : DC := ⟨s20, fun _ => True, fun _ => [.b true]⟩
def l20 : List (Nat × Ct) := [(71, d71.ct), (99, d99.ct), (52, d52.ct), (62, d62.ct), (41, d41.ct), (101, d101.ct), (59, d59.ct), (64, d64.ct)]
noncomputable def z20 : Cx := { T := ttA, C := sigs l20, F := [(55, Try.f55), (163, Try.f163), (112, Try.f112), (113, Try.f113), (114, Try.f114), (85, Try.f85), (115, Try.f115)], hints := [⟨113, 3, false, [(12, .lt)], [(2, 0, .own 52 kS), (2, 1, .own 3 kI), (2, 2, .own 3 kI), (2, 3, .own 3 kI), (2, 4, .lt), (5, 0, .lt), (5, 1, .lt), (5, 2, .lt), (5, 3, .lt), (5, 4, .lt), (5, 5, .lt), (5, 6, .lt), (5, 7, .lt), (5, 8, .lt), (5, 9, .lt), (5, 10, .lt), (5, 11, .fz kK), (5, 12, .lt), (5, 13, .lt)], [], [], 6⟩, ⟨163, 2, false, [(8, .lt)], [], [], [], 0⟩, ⟨85, 2, false, [(8, .lt)], [], [], [], 0⟩], sig := s20 }
def t20 : Tree :=
 (.call 71 [.var 0, .var 1, .var 2, .var 3, .var 4] 7
 (.call 99 [] 9
 (.ite (.not (.var 9))
  (.call 99 [] 10
  (.ret [.var 10]))
  (.ite (.not (.eq (.var 8) (.int 0)))
   (.call 99 [] 10
   (.ret [.var 10]))
   (.call 52 [.var 5, .var 6] 10
   (.ite (.not (.eq (.var 10) (.int 0)))
    (.call 99 [] 11
    (.ret [.var 11]))
    (.loop 11 [.int .i64] [.int 0]
    (.ite (.lt (.var 12) (.len (.var 0)))
     (.need (.le (.int 0) (.var 12))
     (.ite (.eq (.cell (.var 0) (.var 12) 0) (.int 1000))
      (.ret [.bool true])
      (.need (.fit (.add (.var 12) (.int 1)))
      (.back 11 [.add (.var 12) (.int 1)]))))
     (.call 62 [.var 0, .var 1, .var 2, .var 3, .var 4] 13
     (.need (.fit (.mul (.int 2) (.len (.var 0))))
     (.need (.fit (.add (.mul (.int 2) (.len (.var 0))) (.int 6)))
     (.call 41 [.int 1, .var 5, .var 6, .int 0, .int 0, .int 0] 18
     (.loop 32 [.int .i64, .sl 48 [.int .i64, .int .i64, .int .i64, .int .i64, .bool, .int .i64], .sl 8 [.int .i64], .sl 8 [.int .i64], .sl 8 [.int .i64], .int .i64, .int .i64, .int .i64, .int .i64, .int .i64, .int .i64, .int .i64, .int .i64, .int .i64, .int .i64, .int .i64, .int .i64, .sl 16 [.int .i64, .int .i64], .bool, .int .i64] [.int 0, .var 13, .var 14, .var 15, .var 16, .var 17, .var 18, .var 19, .var 20, .var 21, .var 22, .var 23, .var 24, .var 25, .var 26, .var 27, .var 28, .var 29, .var 30, .var 31]
     (.ite (.lt (.var 33) (.add (.mul (.int 2) (.len (.var 0))) (.int 6)))
      (.call 101 [.var 34, .var 35, .var 36, .var 37, .var 38, .var 39, .var 40, .var 41, .var 42, .var 43, .var 44, .var 45, .var 46, .var 47, .var 48, .var 49, .var 50, .var 51, .var 52] 53
      (.ite (.var 70)
       (.loop 72 [.int .i64] [.int 0]
       (.ite (.lt (.var 73) (.len (.var 7)))
        (.need (.le (.int 0) (.var 73))
        (.ite (.and (.eq (.cell (.var 7) (.var 73) 0) (.var 5)) (.and (.eq (.cell (.var 7) (.var 73) 1) (.var 6)) (.bool true)))
         (.ite (.lt (.var 4) (.cell (.var 7) (.var 73) 3))
          (.ite (.lt (.var 73) (.int 0))
           (.ite (.eq (.var 71) (.int 5))
            (.call 59 [.var 53, .var 54, .var 55, .var 56, .var 57, .var 0, .var 1, .var 2, .var 3, .var 4] 74
            (.ret [.var 74]))
            (.ret [.bool false]))
           (.call 64 [.var 53, .var 54, .var 55, .var 56, .var 57, .var 67] 74
           (.ite (.eq (.var 71) (.int 0))
            (.ite (.eq (.var 67) (.cell (.var 7) (.var 73) 2))
             (.ite (.eq (.var 79) (.int 0))
              (.call 59 [.var 74, .var 75, .var 76, .var 77, .var 78, .var 0, .var 1, .var 2, .var 3, .var 4] 80
              (.ret [.var 80]))
              (.ret [.bool false]))
             (.ret [.bool false]))
            (.ret [.bool false]))))
          (.need (.fit (.add (.var 73) (.int 1)))
          (.back 72 [.add (.var 73) (.int 1)])))
         (.need (.fit (.add (.var 73) (.int 1)))
         (.back 72 [.add (.var 73) (.int 1)]))))
        (.ite (.eq (.var 71) (.int 5))
         (.call 59 [.var 53, .var 54, .var 55, .var 56, .var 57, .var 0, .var 1, .var 2, .var 3, .var 4] 74
         (.ret [.var 74]))
         (.ret [.bool false]))))
       (.need (.fit (.add (.var 33) (.int 1)))
       (.back 32 [.add (.var 33) (.int 1), .var 53, .var 54, .var 55, .var 56, .var 57, .var 58, .var 59, .var 60, .var 61, .var 62, .var 63, .var 64, .var 65, .var 66, .var 67, .var 68, .var 69, .var 70, .var 71]))))
      (.ret [.bool false])))))))))))))))
theorem run20 : run z20 6000 [.code (Try.f20.body.getD .skip), .fin (topRet z20 Try.f20.results.toList 50)] { fn := 20, tmps := z20.sig.args0 ++ List.replicate (Try.f20.ntmps - z20.sig.args0.length) (.v (.one .undef)), stk := [], h := z20.sig.h0, nx := z20.sig.ins.length, known := [] } = t20 := by kernel_rfl
theorem ok20 : CtOk Try.prog 20 d20.ct := by
  refine dc_of_tree (d := d20) (Z := z20) (Γ := gam l20) (fn := Try.f20) (c := Try.f20.body.getD .skip) (told_of tok mixed (all_cons ok71 (all_cons ok99 (all_cons ok52 (all_cons ok62 (all_cons ok41 (all_cons ok101 (all_cons ok59 (all_cons ok64 all_nil)))))))) (fok_cons (c := Try.f55.body.getD .skip) Try.func55 (by kernel_rfl) (by kernel_rfl) (fok_cons (c := Try.f163.body.getD .skip) Try.func163 (by kernel_rfl) (by kernel_rfl) (fok_cons (c := Try.f112.body.getD .skip) Try.func112 (by kernel_rfl) (by kernel_rfl) (fok_cons (c := Try.f113.body.getD .skip) Try.func113 (by kernel_rfl) (by kernel_rfl) (fok_cons (c := Try.f114.body.getD .skip) Try.func114 (by kernel_rfl) (by kernel_rfl) (fok_cons (c := Try.f85.body.getD .skip) Try.func85 (by kernel_rfl) (by kernel_rfl) (fok_cons (c := Try.f115.body.getD .skip) Try.func115 (by kernel_rfl) (by kernel_rfl) fok_nil)))))))) Try.func20 (by kernel_rfl) (by kernel_rfl) rfl run20 fun E hk hp => ?_
  obtain ⟨hk0, hk1, hk2, hk3, hk4, hk5, hk6, _⟩ := hk
  obtain ⟨m, e0, e1, e2, e3, e4, b0, b1, b2, b3⟩ := ok_mem (d0 := E 0) (d1 := E 1) (d2 := E 2) (d3 := E 3) (d4 := E 4) hk0 hk1 hk2 hk3 hk4
  obtain ⟨k, e5, e6⟩ := ok_key (d0 := E 5) (d1 := E 6) hk5 hk6
  have el : letters E d20.sig.ins.length = [slotsD m.slots, intsD m.heads, intsD m.free, intsD m.locks, .i m.now, .i k.a, .i k.b] := by
    show [E 0, E 1, E 2, E 3, E 4, E 5, E 6] = _
    rw [e0, e1, e2, e3, e4, e5, e6]
  rw [el] at hp
  rw [el]
  rw [Env.pre_eq el]
  clear el e0 e1 e2 e3 e4 e5 e6
  simp only [d20]
  unfold t20
  refine den_calle d71 [flowsD (flowsR m).1, .i (flowsR m).2] rfl trivial (by simp only [nrm, X.den, Env.put, Env.pre, reduceIte, Nat.reduceLT, Nat.reduceSub, Nat.reduceAdd, fn71]) ?_
  refine den_calle d99 [.b true] rfl trivial rfl (den_iff rfl (den_ite (fun h => ?_) (fun h => ?_)))
  · refine den_calle d99 [.b true] rfl trivial rfl (den_ret ?_)
    simp only [nrm, X.den, Env.put, Env.pre, reduceIte, Nat.reduceLT, Nat.reduceSub, Nat.reduceAdd]
  simp only [nrm, X.den, Env.put, Env.pre, reduceIte, Nat.reduceLT, Nat.reduceSub, Nat.reduceAdd, Bool.not_eq_false'] at h
  obtain ⟨hC, hfl⟩ := flowsR_ok0 h
  rw [hfl]
  refine den_calle d52 [.i (checkKey k)] rfl trivial (by simp only [nrm, X.den, Env.put, Env.pre, reduceIte, Nat.reduceLT, Nat.reduceSub, Nat.reduceAdd, d52, key_of, key_eta]) (den_ite (fun h1 => ?_) (fun h1 => ?_))
  · refine den_calle d99 [.b true] rfl trivial rfl (den_ret ?_)
    simp only [nrm, X.den, Env.put, Env.pre, reduceIte, Nat.reduceLT, Nat.reduceSub, Nat.reduceAdd]
  simp only [nrm, X.den, Env.put, Env.pre, reduceIte, Nat.reduceLT, Nat.reduceSub, Nat.reduceAdd, Bool.not_eq_false'] at h1
  have hK := (checkKey_iff k).1 h1
  have hns := hC.mem.ns
  refine den_loop (fun ds => ∃ j : Nat, ds = [.i j] ∧ j ≤ m.slots.length ∧ ∀ i, i < j → (msl m i).refs ≠ 1000) (fun ds => m.slots.length - (ds.getD 0 .u).int.toNat) ⟨0, rfl, by omega, fun i hi => absurd hi (by omega)⟩ ?_
  rintro ds - ⟨j, rfl, hj, hr⟩
  refine den_ite (fun hlt => ?_) (fun hge => ?_)
  · simp only [nrm, X.den, Env.put, Env.pre, reduceIte, Nat.reduceLT, Nat.reduceSub, Nat.reduceAdd, len_slots] at hlt
    refine den_le (by simp only [nrm, X.den, Env.put, Env.pre, reduceIte, Nat.reduceLT, Nat.reduceSub, Nat.reduceAdd]; omega) (den_ite (fun h => den_ret ?_) (fun h => ?_))
    · simp only [nrm, X.den, Env.put, Env.pre, reduceIte, Nat.reduceLT, Nat.reduceSub, Nat.reduceAdd]
    · simp only [nrm, X.den, Env.put, Env.pre, reduceIte, Nat.reduceLT, Nat.reduceSub, Nat.reduceAdd, cell_s0, Int.toNat_natCast] at h
      refine den_fit (by simp only [nrm, X.den, Env.put, Env.pre, reduceIte, Nat.reduceLT, Nat.reduceSub, Nat.reduceAdd]; omega) (den_back ⟨⟨j + 1, ?_, by omega, fun i hi => ?_⟩, ?_⟩)
      · simp only [nrm, X.den, Env.put, Env.pre, reduceIte, Nat.reduceLT, Nat.reduceSub, Nat.reduceAdd]; rfl
      · by_cases e : i = j
        · rw [e]; exact h
        · exact hr i (by omega)
      · simp only [nrm, X.den, Env.put, Env.pre, reduceIte, Nat.reduceLT, Nat.reduceSub, Nat.reduceAdd]; omega
  simp only [nrm, X.den, Env.put, Env.pre, reduceIte, Nat.reduceLT, Nat.reduceSub, Nat.reduceAdd, len_slots] at hge
  have hr : ∀ i, i < m.slots.length → (msl m i).refs ≠ 1000 := fun i hi => hr i (by omega)
  obtain ⟨g0, x0, hR, hres⟩ := look_alone hC hK hr
  have hf0 : FrmOk m (newFrame ⟨1, k, 0, 0, 0⟩) := (checkFrame_iff _ _).1 (by
    unfold checkFrame checkCall newFrame
    rw [if_neg (by simp only [true_or, if_true]; exact fun x => x h1), if_neg (by simp only; omega), if_neg (by simp), if_neg (by simp only; omega), if_neg (by simp)])
  refine den_calle d62 m.cds rfl trivial (by simp only [nrm, X.den, Env.put, Env.pre, reduceIte, Nat.reduceLT, Nat.reduceSub, Nat.reduceAdd, fn62]) ?_
  refine den_fit (by simp only [nrm, X.den, Env.put, Env.pre, reduceIte, Nat.reduceLT, Nat.reduceSub, Nat.reduceAdd, len_slots]; omega) (den_fit (by simp only [nrm, X.den, Env.put, Env.pre, reduceIte, Nat.reduceLT, Nat.reduceSub, Nat.reduceAdd, len_slots]; omega) ?_)
  refine den_calle d41 (newFrame ⟨1, k, 0, 0, 0⟩).cds rfl trivial (by simp only [nrm, X.den, Env.put, Env.pre, reduceIte, Nat.reduceLT, Nat.reduceSub, Nat.reduceAdd, fs41]) ?_
  refine den_loop (fun ds => ∃ (i : Nat) (x : Mem) (f : Frm), ds = .i i :: (x.cds ++ f.cds) ∧ i ≤ (2 * m.slots.length + 6) ∧ aloneR lookStep ((2 * m.slots.length + 6) - i) f x = (g0, x0, true) ∧ MemIn x ∧ FrmOk x f ∧ f.c.kind = 1) (fun ds => (2 * m.slots.length + 6) - (ds.getD 0 .u).int.toNat) ⟨0, m, (newFrame ⟨1, k, 0, 0, 0⟩), ?_, by omega, by rw [Nat.sub_zero]; exact hR, hC.mem.into, hf0, rfl⟩ ?_
  · simp only [nrm, X.den, Env.put, Env.pre, reduceIte, Nat.reduceLT, Nat.reduceSub, Nat.reduceAdd, Mem.cds, Frm.cds, List.cons_append, List.nil_append]; rfl
  rintro ds - ⟨i, x, f, rfl, hi, ht, hx, hf, hk⟩
  simp only [Mem.cds, Frm.cds, List.cons_append, List.nil_append]
  refine den_ite (fun hlt => ?_) (fun hge => ?_)
  · simp only [nrm, X.den, Env.put, Env.pre, reduceIte, Nat.reduceLT, Nat.reduceSub, Nat.reduceAdd, len_slots] at hlt
    refine den_calle d101 ((lookStep x f).2.cds ++ (lookStep x f).1.cds) rfl (by simp only [nrm, X.den, Env.put, Env.pre, reduceIte, Nat.reduceLT, Nat.reduceSub, Nat.reduceAdd]; exact pi101 hx hf hk) (by simp only [nrm, X.den, Env.put, Env.pre, reduceIte, Nat.reduceLT, Nat.reduceSub, Nat.reduceAdd, fn101]) ?_
    have e1 : (2 * m.slots.length + 6) - i = (2 * m.slots.length + 6) - (i + 1) + 1 := by omega
    have hfit := look_fit hx hf hk
    have hin := (fun a b _ => look_into a b) hx hf hk
    rw [e1] at ht
    rcases hs : lookStep x f with ⟨g, y⟩
    rw [hs] at hfit hin
    simp only [Mem.cds, Frm.cds, List.cons_append, List.nil_append]
    refine den_ite (fun hd => ?_) (fun hd => ?_)
    · simp only [nrm, X.den, Env.put, Env.pre, reduceIte, Nat.reduceLT, Nat.reduceSub, Nat.reduceAdd] at hd
      rw [alone_end hs hd] at ht
      clear hlt e1 hfit hs hd hx hf hk hi
      obtain ⟨rfl, rfl, -⟩ : g = g0 ∧ y = x0 ∧ True := by cases ht; exact ⟨rfl, rfl, trivial⟩
      clear hR ht hin
      refine den_loop (fun ds => ∃ j : Nat, ds = [.i j] ∧ j ≤ (flowsOf m).length ∧ ∀ i, i < j → ¬ (((flowsOf m).getD i default).k = k ∧ m.now < ((flowsOf m).getD i default).till)) (fun ds => (flowsOf m).length - (ds.getD 0 .u).int.toNat) ⟨0, rfl, by omega, fun i hi => absurd hi (by omega)⟩ ?_
      rintro ds - ⟨j, rfl, hj, hno⟩
      have hfl48 := flows_length hC.mem
      refine den_ite (fun hlt => ?_) (fun hge => ?_)
      · simp only [nrm, X.den, Env.put, Env.pre, reduceIte, Nat.reduceLT, Nat.reduceSub, Nat.reduceAdd, len_flows] at hlt
        have on : ¬ (((flowsOf m).getD j default).k = k ∧ m.now < ((flowsOf m).getD j default).till) → ∀ i, i < j + 1 → ¬ (((flowsOf m).getD i default).k = k ∧ m.now < ((flowsOf m).getD i default).till) := fun h i hi => by
          by_cases e : i = j
          · rw [e]; exact h
          · exact hno i (by omega)
        refine den_le (by simp only [nrm, X.den, Env.put, Env.pre, reduceIte, Nat.reduceLT, Nat.reduceSub, Nat.reduceAdd]; omega) (den_ite (fun hk => ?_) (fun hk => ?_))
        · simp only [nrm, X.den, Env.put, Env.pre, reduceIte, Nat.reduceLT, Nat.reduceSub, Nat.reduceAdd, cell_f0, cell_f1, Int.toNat_natCast] at hk
          replace hk := key_t (j := ((flowsOf m).getD j default).k) (k := k) hk
          refine den_ite (fun ht => ?_) (fun ht => ?_)
          · simp only [nrm, X.den, Env.put, Env.pre, reduceIte, Nat.reduceLT, Nat.reduceSub, Nat.reduceAdd, cell_f3, Int.toNat_natCast] at ht
            have hat := flows_at hC (getD_memF (l := flowsOf m) (i := j) (by omega))
            have etill : ((flowsOf m).getD j default).till = (msl m ((flowsOf m).getD j default).slot.toNat).till := by
              have := hat.2.2.2.1
              generalize (flowsOf m).getD j default = w at *
              rw [this]; rfl
            rw [hk] at hat
            refine den_iff (by simp only [nrm, X.den, Env.put, Env.pre, reduceIte, Nat.reduceLT, Nat.reduceSub, Nat.reduceAdd]; omega) ?_
            rcases hres with ⟨_, _, hall⟩ | ⟨r1, r2, r3, r4, r5⟩
            · have := hall _ hat.2.2.2.2.2.2 hat.2.2.1
              omega
            · have hb := bk_range hC.mem hK
              have hch := hC.ch (b := (bk m k).toNat) (by omega)
              have es : ((flowsOf m).getD j default).slot = g.slot := nodup_map_inj hch.nd hat.2.2.2.2.2.2 r2 (hat.2.2.1.trans r3.symm)
              have hin := chL_mem hC r2
              have hok := hch.ok _ r2
              have rr := hC.mem.refs hin.1 hin.2
              have hl := let_hold hC.mem hin.1 hin.2 (by have := hok.refs; omega) (hr _ (by omega))
              subst r5
              refine den_calle d64 (m.cds ++ [.i 0]) rfl trivial (by simp only [nrm, X.den, Env.put, Env.pre, reduceIte, Nat.reduceLT, Nat.reduceSub, Nat.reduceAdd, fn64, hl]) ?_
              simp only [Mem.cds, List.cons_append, List.nil_append]
              refine den_ift (by simp only [nrm, X.den, Env.put, Env.pre, reduceIte, Nat.reduceLT, Nat.reduceSub, Nat.reduceAdd]; exact r1) (den_ift (by simp only [nrm, X.den, Env.put, Env.pre, reduceIte, Nat.reduceLT, Nat.reduceSub, Nat.reduceAdd, cell_f2, Int.toNat_natCast]; exact es.symm) (den_ift rfl ?_))
              refine den_calle d59 [.b true] rfl trivial (by simp only [nrm, X.den, Env.put, Env.pre, reduceIte, Nat.reduceLT, Nat.reduceSub, Nat.reduceAdd, fn59]; simp) (den_ret ?_)
              simp only [nrm, X.den, Env.put, Env.pre, reduceIte, Nat.reduceLT, Nat.reduceSub, Nat.reduceAdd]
          · simp only [nrm, X.den, Env.put, Env.pre, reduceIte, Nat.reduceLT, Nat.reduceSub, Nat.reduceAdd, cell_f3, Int.toNat_natCast] at ht
            refine den_fit (by simp only [nrm, X.den, Env.put, Env.pre, reduceIte, Nat.reduceLT, Nat.reduceSub, Nat.reduceAdd]; omega) (den_back ⟨⟨j + 1, ?_, by omega, on (fun h => ht h.2)⟩, ?_⟩)
            · simp only [nrm, X.den, Env.put, Env.pre, reduceIte, Nat.reduceLT, Nat.reduceSub, Nat.reduceAdd]; rfl
            · simp only [nrm, X.den, Env.put, Env.pre, reduceIte, Nat.reduceLT, Nat.reduceSub, Nat.reduceAdd]; omega
        · simp only [nrm, X.den, Env.put, Env.pre, reduceIte, Nat.reduceLT, Nat.reduceSub, Nat.reduceAdd, cell_f0, cell_f1, Int.toNat_natCast] at hk
          replace hk := key_f (j := ((flowsOf m).getD j default).k) (k := k) hk
          refine den_fit (by simp only [nrm, X.den, Env.put, Env.pre, reduceIte, Nat.reduceLT, Nat.reduceSub, Nat.reduceAdd]; omega) (den_back ⟨⟨j + 1, ?_, by omega, on (fun h => hk h.1)⟩, ?_⟩)
          · simp only [nrm, X.den, Env.put, Env.pre, reduceIte, Nat.reduceLT, Nat.reduceSub, Nat.reduceAdd]; rfl
          · simp only [nrm, X.den, Env.put, Env.pre, reduceIte, Nat.reduceLT, Nat.reduceSub, Nat.reduceAdd]; omega
      · simp only [nrm, X.den, Env.put, Env.pre, reduceIte, Nat.reduceLT, Nat.reduceSub, Nat.reduceAdd, len_flows] at hge
        rcases hres with ⟨r1, r2, _⟩ | ⟨r1, r2, r3, r4, r5⟩
        · subst r2
          refine den_ift (by simp only [nrm, X.den, Env.put, Env.pre, reduceIte, Nat.reduceLT, Nat.reduceSub, Nat.reduceAdd]; exact r1) ?_
          refine den_calle d59 [.b true] rfl trivial (by simp only [nrm, X.den, Env.put, Env.pre, reduceIte, Nat.reduceLT, Nat.reduceSub, Nat.reduceAdd, fn59]; simp) (den_ret ?_)
          simp only [nrm, X.den, Env.put, Env.pre, reduceIte, Nat.reduceLT, Nat.reduceSub, Nat.reduceAdd]
        · have hb := bk_range hC.mem hK
          have hw := flows_of (m := m) (b := (bk m k).toNat) (by omega) r2
          obtain ⟨i, hi, e⟩ := mem_getDF hw
          exact absurd ⟨by rw [← e]; exact r3, by rw [← e]; exact r4⟩ (hno i (by omega))
    · simp only [nrm, X.den, Env.put, Env.pre, reduceIte, Nat.reduceLT, Nat.reduceSub, Nat.reduceAdd] at hd
      rw [alone_on hs hd] at ht
      refine den_fit (by simp only [nrm, X.den, Env.put, Env.pre, reduceIte, Nat.reduceLT, Nat.reduceSub, Nat.reduceAdd]; omega) (den_back ⟨⟨i + 1, y, g, ?_, by omega, ht, hfit hd⟩, ?_⟩)
      · simp only [nrm, X.den, Env.put, Env.pre, reduceIte, Nat.reduceLT, Nat.reduceSub, Nat.reduceAdd, Mem.cds, Frm.cds, List.cons_append, List.nil_append]; rfl
      · simp only [nrm, X.den, Env.put, Env.pre, reduceIte, Nat.reduceLT, Nat.reduceSub, Nat.reduceAdd]; omega
  · simp only [nrm, X.den, Env.put, Env.pre, reduceIte, Nat.reduceLT, Nat.reduceSub, Nat.reduceAdd, len_slots] at hge
    rw [show (2 * m.slots.length + 6) - i = 0 from by omega] at ht
    cases ht
end Go.Proofs.Ytpmamacjepcdmaa
