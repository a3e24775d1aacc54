import Derived.Test.YtpmamacjepcdmaaCDelete
import Derived.Test.YtpmamacjepcdmaaCStep
namespace Go.Proofs.Ytpmamacjepcdmaa
open Go Go.Sy Go.RowKit
set_option linter.unusedSimpArgs false
set_option linter.unusedVariables false
def s215 : Sig := ⟨[.one (.own 3 kI), .one (.int .i64), .one (.int .i64)], [.one (.own 3 kI)]⟩
def d215 : DC := ⟨s215, fun l => 0 ≤ (l.getD 1 .u).int ∧ (l.getD 1 .u).int ≤ (l.getD 2 .u).int ∧ (l.getD 2 .u).int ≤ (l.getD 0 .u).ints.length, fun l => [intsD ((l.getD 0 .u).ints.take (l.getD 1 .u).int.toNat ++ (l.getD 0 .u).ints.drop (l.getD 2 .u).int.toNat)]⟩
def l215 : List (Nat × Ct) := []
def z215 : Cx := { T := ttA, C := sigs l215, F := [], hints := [], sig := s215 }
def t215 : Tree :=
 (.need (.le (.int 0) (.var 1))
 (.need (.le (.var 1) (.var 2))
 (.need (.le (.var 2) (.len (.var 0)))
 (.ite (.eq (.var 1) (.var 2))
 (.ret [.var 0])
 (.need (.le (.var 1) (.len (.var 0)))
 (.need (.le (.int 0) (.var 2))
 (.need (.le (.add (.var 1) (.sub (.len (.var 0)) (.var 2))) (.len (.var 0)))
 (.need (.le (.add (.var 2) (.sub (.len (.var 0)) (.var 2))) (.len (.var 0)))
 (.need (.le (.int 0) (.add (.var 1) (.sub (.len (.var 0)) (.var 2))))
 (.need (.le (.len (.var 0)) (.add (.len (.take (.var 1) (.var 0))) (.add (.len (.take (.sub (.len (.var 0)) (.var 2)) (.drop (.var 2) (.var 0)))) (.len (.drop (.add (.var 1) (.sub (.len (.var 0)) (.var 2))) (.var 0))))))
 (.need (.le (.add (.add (.var 1) (.sub (.len (.var 0)) (.var 2))) (.sub (.len (.var 0)) (.add (.var 1) (.sub (.len (.var 0)) (.var 2))))) (.add (.len (.take (.var 1) (.var 0))) (.add (.len (.take (.sub (.len (.var 0)) (.var 2)) (.drop (.var 2) (.var 0)))) (.len (.drop (.add (.var 1) (.sub (.len (.var 0)) (.var 2))) (.var 0))))))
 (.need (.le (.add (.var 1) (.sub (.len (.var 0)) (.var 2))) (.add (.len (.take (.add (.var 1) (.sub (.len (.var 0)) (.var 2))) (.app (.take (.var 1) (.var 0)) (.app (.take (.sub (.len (.var 0)) (.var 2)) (.drop (.var 2) (.var 0))) (.drop (.add (.var 1) (.sub (.len (.var 0)) (.var 2))) (.var 0)))))) (.add (.len (.rep (.sub (.len (.var 0)) (.add (.var 1) (.sub (.len (.var 0)) (.var 2)))) (.cons (.int 0) .row0))) (.len (.drop (.add (.add (.var 1) (.sub (.len (.var 0)) (.var 2))) (.sub (.len (.var 0)) (.add (.var 1) (.sub (.len (.var 0)) (.var 2))))) (.app (.take (.var 1) (.var 0)) (.app (.take (.sub (.len (.var 0)) (.var 2)) (.drop (.var 2) (.var 0))) (.drop (.add (.var 1) (.sub (.len (.var 0)) (.var 2))) (.var 0)))))))))
 (.ret [.take (.add (.var 1) (.sub (.len (.var 0)) (.var 2))) (.app (.take (.add (.var 1) (.sub (.len (.var 0)) (.var 2))) (.app (.take (.var 1) (.var 0)) (.app (.take (.sub (.len (.var 0)) (.var 2)) (.drop (.var 2) (.var 0))) (.drop (.add (.var 1) (.sub (.len (.var 0)) (.var 2))) (.var 0))))) (.app (.rep (.sub (.len (.var 0)) (.add (.var 1) (.sub (.len (.var 0)) (.var 2)))) (.cons (.int 0) .row0)) (.drop (.add (.add (.var 1) (.sub (.len (.var 0)) (.var 2))) (.sub (.len (.var 0)) (.add (.var 1) (.sub (.len (.var 0)) (.var 2))))) (.app (.take (.var 1) (.var 0)) (.app (.take (.sub (.len (.var 0)) (.var 2)) (.drop (.var 2) (.var 0))) (.drop (.add (.var 1) (.sub (.len (.var 0)) (.var 2))) (.var 0)))))))])))))))))))))
theorem run215 : run z215 6000 [.code (Try.f215.body.getD .skip), .fin (topRet z215 Try.f215.results.toList 50)] { fn := 215, tmps := z215.sig.args0 ++ List.replicate (Try.f215.ntmps - z215.sig.args0.length) (.v (.one .undef)), stk := [], h := z215.sig.h0, nx := z215.sig.ins.length, known := [] } = t215 := by kernel_rfl
theorem ok215 : CtOk Try.prog 215 d215.ct := by
  refine dc_of_tree (d := d215) (Z := z215) (Γ := gam l215) (fn := Try.f215) (c := Try.f215.body.getD .skip) (told_of tok mixed all_nil fok_nil) Try.func215 (by kernel_rfl) (by kernel_rfl) rfl run215 fun E hk hp => ?_
  obtain ⟨hk0, hk1, hk2, _⟩ := hk
  obtain ⟨l, e0, b0⟩ := ok_ints (d := E 0) hk0
  have b0 : l.length * 8 ≤ 140737488355328 := b0
  obtain ⟨x, e1⟩ := ok_int (d := E 1) hk1
  obtain ⟨x2, e2⟩ := ok_int (d := E 2) hk2
  have el : letters E d215.sig.ins.length = [intsD l, .i x, .i x2] := by
    show [E 0, E 1, E 2] = _
    rw [e0, e1, e2]
  rw [el] at hp
  rw [el]
  rw [Env.pre_eq el]
  clear el e0 e1 e2
  simp only [d215, List.getD_cons_zero, List.getD_cons_succ, CD.int_i, ints_intsD] at hp ⊢
  obtain ⟨p0, p1, p2⟩ := hp
  obtain ⟨i, rfl⟩ : ∃ i : Nat, x = i := ⟨x.toNat, by omega⟩
  obtain ⟨j, rfl⟩ : ∃ j : Nat, x2 = j := ⟨x2.toNat, by omega⟩
  simp only [Int.toNat_natCast]
  unfold t215
  have hf : ∀ l : List Int, (intsD l).rows = l.map fun n => [CD.i n] := fun _ => rfl
  refine den_need (by simp only [nrm, X.den, Env.put, Env.pre, reduceIte, Nat.reduceLT, Nat.reduceSub, Nat.reduceAdd]; omega) (den_need (by simp only [nrm, X.den, Env.put, Env.pre, reduceIte, Nat.reduceLT, Nat.reduceSub, Nat.reduceAdd]; omega) (den_need (by simp only [nrm, X.den, Env.put, Env.pre, reduceIte, Nat.reduceLT, Nat.reduceSub, Nat.reduceAdd, len_ints]; omega) (den_ite (fun h => den_ret ?_) (fun h => ?_))))
  · simp only [nrm, X.den, Env.put, Env.pre, reduceIte, Nat.reduceLT, Nat.reduceSub, Nat.reduceAdd] at h ⊢
    have : i = j := by omega
    subst this
    rw [List.take_append_drop]
  simp only [nrm, X.den, Env.put, Env.pre, reduceIte, Nat.reduceLT, Nat.reduceSub, Nat.reduceAdd] at h
  have hij : ¬ (i : Int) = j := by simpa using h
  repeat refine den_need (by simp only [nrm, X.den, Env.put, Env.pre, reduceIte, Nat.reduceLT, Nat.reduceSub, Nat.reduceAdd, hf, List.length_take, List.length_drop, List.length_append, List.length_replicate, List.length_map]; omega) ?_
  refine den_ret ?_
  simp only [nrm, X.den, Env.put, Env.pre, reduceIte, Nat.reduceLT, Nat.reduceSub, Nat.reduceAdd, hf, List.length_map, Int.toNat_natCast]
  have en : ((i : Int) + ((l.length : Int) - (j : Int))).toNat = i + ((l.map fun n => [CD.i n]).length - j) := by rw [List.length_map]; omega
  have em : ((l.length : Int) - (j : Int)).toNat = (l.map fun n => [CD.i n]).length - j := by rw [List.length_map]; omega
  rw [en, em, cut_rows (by omega) (by rw [List.length_map]; omega)]
  simp only [intsD, List.map_append, List.map_take, List.map_drop]
def tsk (w : Wrd) (x : Int) : Tsk := w.ts.getD x.toNat default
def Wrd.at (w : Wrd) (x : Int) (h : Tsk → Tsk) : Wrd := ⟨w.m, w.ts.modify x.toNat h⟩
def beginW (w : Wrd) (x : Int) (c : Cal) : Wrd × Int :=
  if (tsk w x).busy = true then (w, 8)
  else if checkCall w.m c ≠ 0 then (w, checkCall w.m c)
  else if (tsk w x).held.length = 100 ∧ c.kind = 1 then (w, 7)
  else if c.kind = 6 ∧ c.slot ∉ (tsk w x).held then (w, 6)
  else (w.at x fun t => { t with busy := true, f := newFrame c }, 0)
theorem hd_own {t : Tsk} (h : t.own = true) : t.hd = oints t.held := by unfold Tsk.hd; rw [h]; rfl
theorem orow_own {t : Tsk} (h : t.own = true) : t.orow = t.rw (oints t.held) := by unfold Tsk.orow; rw [hd_own h]
theorem modify_idw {α : Type} : ∀ (l : List α) (i : Nat), l.modify i (fun x => x) = l
  | [], i => by simp
  | _ :: _, 0 => by simp
  | _ :: l, i + 1 => by simp [modify_idw l i]
theorem cls {l : List Tsk} {r : List (List CD)} (h : CD.l r = otasksD l) : (r.all fun r => !(r.getD 15 .u).isH) = true := by
  rw [show r = (otasksD l).rows from congrArg CD.rows h]; exact clean_otasks l
theorem put_A {ts : List Tsk} {k : Nat} {t : Tsk} (ht : ts.getD k default = t) (hto : t.own = true) (b : Bool) (f : Frm) : CD.l ((otasksD ts).rows.modify k fun r => ((((((((((((((((r.set 15 (.o (intsD t.held).rows)).set 0 (.b b)).set 1 (.i f.c.kind)).set 2 (.i f.c.k.a)).set 3 (.i f.c.k.b)).set 4 (.i f.c.time)).set 5 (.i f.c.bucket)).set 6 (.i f.c.slot)).set 7 (.i f.pc)).set 8 (.i f.cur)).set 9 (.i f.prev)).set 10 (.i f.slot)).set 11 (.i f.n)).set 12 (keysD f.keys)).set 13 (.b f.done)).set 14 (.i f.e))) = otasksD (ts.modify k fun t => { t with busy := b, f := f }) :=
  orow_here (by rw [ht, orow_own hto]; simp only [Tsk.orow, Tsk.hd, hto, if_true]; rfl)
theorem put_B {ts : List Tsk} {k : Nat} {t : Tsk} (ht : ts.getD k default = t) (hto : t.own = true) (b : Bool) (f : Frm) : CD.l ((otasksD ts).rows.modify k fun r => (((((((((((((((r.set 1 (.i f.c.kind)).set 2 (.i f.c.k.a)).set 3 (.i f.c.k.b)).set 4 (.i f.c.time)).set 5 (.i f.c.bucket)).set 6 (.i f.c.slot)).set 7 (.i f.pc)).set 8 (.i f.cur)).set 9 (.i f.prev)).set 10 (.i f.slot)).set 11 (.i f.n)).set 12 (keysD f.keys)).set 13 (.b f.done)).set 14 (.i f.e)).set 0 (.b b))) = otasksD (ts.modify k fun t => { t with busy := b, f := f }) :=
  orow_here (by rw [ht, orow_own hto]; simp only [Tsk.orow, Tsk.hd, hto, if_true]; rfl)
theorem put_C {ts : List Tsk} {k : Nat} {t : Tsk} (ht : ts.getD k default = t) (hto : t.own = true) (b : Bool) (f : Frm) (l : List Int) : CD.l ((otasksD ts).rows.modify k fun r => ((((((((((((((((r.set 1 (.i f.c.kind)).set 2 (.i f.c.k.a)).set 3 (.i f.c.k.b)).set 4 (.i f.c.time)).set 5 (.i f.c.bucket)).set 6 (.i f.c.slot)).set 7 (.i f.pc)).set 8 (.i f.cur)).set 9 (.i f.prev)).set 10 (.i f.slot)).set 11 (.i f.n)).set 12 (keysD f.keys)).set 13 (.b f.done)).set 14 (.i f.e)).set 15 (.o (intsD l).rows)).set 0 (.b b))) = otasksD (ts.modify k fun t => { t with busy := b, f := f, held := l }) :=
  orow_here (by rw [ht, orow_own hto]; simp only [Tsk.orow, Tsk.hd, hto, if_true]; rfl)
theorem put_D {ts : List Tsk} {k : Nat} {t : Tsk} (ht : ts.getD k default = t) (hto : t.own = true) (b : Bool) (f : Frm) (l : List Int) : CD.l ((otasksD ts).rows.modify k fun r => ((((((((((((((((r.set 15 (.o (intsD l).rows)).set 1 (.i f.c.kind)).set 2 (.i f.c.k.a)).set 3 (.i f.c.k.b)).set 4 (.i f.c.time)).set 5 (.i f.c.bucket)).set 6 (.i f.c.slot)).set 7 (.i f.pc)).set 8 (.i f.cur)).set 9 (.i f.prev)).set 10 (.i f.slot)).set 11 (.i f.n)).set 12 (keysD f.keys)).set 13 (.b f.done)).set 14 (.i f.e)).set 0 (.b b))) = otasksD (ts.modify k fun t => { t with busy := b, f := f, held := l }) :=
  orow_here (by rw [ht, orow_own hto]; simp only [Tsk.orow, Tsk.hd, hto, if_true]; rfl)
def s209 : Sig := ⟨[.ptr [.own 52 kS, .own 3 kI, .own 3 kI, .own 3 kI, .int .i64, .own 129 kTo], .one (.int .i64), .agg [.int .i64, .int .i64, .int .i64, .int .i64, .int .i64, .int .i64]], [.one (.int .i64)]⟩
def d209 : DC := ⟨s209, fun l => 0 ≤ (l.getD 6 .u).int ∧ (l.getD 6 .u).int < (Wrd.of l).ts.length ∧ ∀ t ∈ (Wrd.of l).ts, t.own = true, fun l => (beginW (Wrd.of l) (l.getD 6 .u).int (Cal.of (l.drop 7))).1.cds ++ [.i (beginW (Wrd.of l) (l.getD 6 .u).int (Cal.of (l.drop 7))).2]⟩
theorem wrd_of (a : List Slot) (b c d : List Int) (n : Int) (ts : List Tsk) (l : List CD) : Wrd.of (slotsD a :: intsD b :: intsD c :: intsD d :: .i n :: otasksD ts :: l) = ⟨⟨a, b, c, d, n⟩, ts⟩ := by
  simp only [Wrd.of, mem_of, List.getD_cons_zero, List.getD_cons_succ, tasks_otasksD]
def l209 : List (Nat × Ct) := [(40, d40.ct), (98, d98.ct), (41, d41.ct)]
def z209 : Cx := { T := ttA, C := sigs l209, F := [], hints := [], sig := s209 }
def t209 : Tree :=
 (.need (.le (.int 0) (.var 6))
 (.need (.lt (.var 6) (.len (.var 5)))
 (.ite (.cell (.var 5) (.var 6) 0)
 (.need (.clean (.var 5) 15)
 (.ret [.var 0, .var 1, .var 2, .var 3, .var 4, .var 5, .int 8]))
 (.call 40 [.var 0, .var 1, .var 2, .var 3, .var 4, .var 7, .var 8, .var 9, .var 10, .var 11, .var 12] 13
 (.ite (.not (.eq (.var 13) (.int 0)))
 (.need (.clean (.var 5) 15)
 (.ret [.var 0, .var 1, .var 2, .var 3, .var 4, .var 5, .var 13]))
 (.need (.isO (.cell (.var 5) (.var 6) 15))
 (.ite (.eq (.len (.shut (.cell (.var 5) (.var 6) 15))) (.int 100))
 (.ite (.eq (.var 7) (.int 1))
 (.need (.clean (.set (.var 5) (.var 6) 15 (.own (.shut (.cell (.var 5) (.var 6) 15)))) 15)
 (.ret [.var 0, .var 1, .var 2, .var 3, .var 4, .set (.var 5) (.var 6) 15 (.own (.shut (.cell (.var 5) (.var 6) 15))), .int 7]))
 (.ite (.eq (.var 7) (.int 6))
 (.call 98 [.shut (.cell (.var 5) (.var 6) 15), .var 12] 14
 (.ite (.not (.var 14))
 (.need (.clean (.set (.var 5) (.var 6) 15 (.own (.shut (.cell (.var 5) (.var 6) 15)))) 15)
 (.ret [.var 0, .var 1, .var 2, .var 3, .var 4, .set (.var 5) (.var 6) 15 (.own (.shut (.cell (.var 5) (.var 6) 15))), .int 6]))
 (.call 41 [.var 7, .var 8, .var 9, .var 10, .var 11, .var 12] 15
 (.need (.clean (.set (.set (.set (.set (.set (.set (.set (.set (.set (.set (.set (.set (.set (.set (.set (.set (.var 5) (.var 6) 15 (.own (.shut (.cell (.var 5) (.var 6) 15)))) (.var 6) 0 (.bool true)) (.var 6) 1 (.var 15)) (.var 6) 2 (.var 16)) (.var 6) 3 (.var 17)) (.var 6) 4 (.var 18)) (.var 6) 5 (.var 19)) (.var 6) 6 (.var 20)) (.var 6) 7 (.var 21)) (.var 6) 8 (.var 22)) (.var 6) 9 (.var 23)) (.var 6) 10 (.var 24)) (.var 6) 11 (.var 25)) (.var 6) 12 (.var 26)) (.var 6) 13 (.var 27)) (.var 6) 14 (.var 28)) 15)
 (.ret [.var 0, .var 1, .var 2, .var 3, .var 4, .set (.set (.set (.set (.set (.set (.set (.set (.set (.set (.set (.set (.set (.set (.set (.set (.var 5) (.var 6) 15 (.own (.shut (.cell (.var 5) (.var 6) 15)))) (.var 6) 0 (.bool true)) (.var 6) 1 (.var 15)) (.var 6) 2 (.var 16)) (.var 6) 3 (.var 17)) (.var 6) 4 (.var 18)) (.var 6) 5 (.var 19)) (.var 6) 6 (.var 20)) (.var 6) 7 (.var 21)) (.var 6) 8 (.var 22)) (.var 6) 9 (.var 23)) (.var 6) 10 (.var 24)) (.var 6) 11 (.var 25)) (.var 6) 12 (.var 26)) (.var 6) 13 (.var 27)) (.var 6) 14 (.var 28), .int 0])))))
 (.call 41 [.var 7, .var 8, .var 9, .var 10, .var 11, .var 12] 14
 (.need (.clean (.set (.set (.set (.set (.set (.set (.set (.set (.set (.set (.set (.set (.set (.set (.set (.set (.var 5) (.var 6) 15 (.own (.shut (.cell (.var 5) (.var 6) 15)))) (.var 6) 0 (.bool true)) (.var 6) 1 (.var 14)) (.var 6) 2 (.var 15)) (.var 6) 3 (.var 16)) (.var 6) 4 (.var 17)) (.var 6) 5 (.var 18)) (.var 6) 6 (.var 19)) (.var 6) 7 (.var 20)) (.var 6) 8 (.var 21)) (.var 6) 9 (.var 22)) (.var 6) 10 (.var 23)) (.var 6) 11 (.var 24)) (.var 6) 12 (.var 25)) (.var 6) 13 (.var 26)) (.var 6) 14 (.var 27)) 15)
 (.ret [.var 0, .var 1, .var 2, .var 3, .var 4, .set (.set (.set (.set (.set (.set (.set (.set (.set (.set (.set (.set (.set (.set (.set (.set (.var 5) (.var 6) 15 (.own (.shut (.cell (.var 5) (.var 6) 15)))) (.var 6) 0 (.bool true)) (.var 6) 1 (.var 14)) (.var 6) 2 (.var 15)) (.var 6) 3 (.var 16)) (.var 6) 4 (.var 17)) (.var 6) 5 (.var 18)) (.var 6) 6 (.var 19)) (.var 6) 7 (.var 20)) (.var 6) 8 (.var 21)) (.var 6) 9 (.var 22)) (.var 6) 10 (.var 23)) (.var 6) 11 (.var 24)) (.var 6) 12 (.var 25)) (.var 6) 13 (.var 26)) (.var 6) 14 (.var 27), .int 0])))))
 (.ite (.eq (.var 7) (.int 6))
 (.call 98 [.shut (.cell (.var 5) (.var 6) 15), .var 12] 14
 (.ite (.not (.var 14))
 (.need (.clean (.set (.var 5) (.var 6) 15 (.own (.shut (.cell (.var 5) (.var 6) 15)))) 15)
 (.ret [.var 0, .var 1, .var 2, .var 3, .var 4, .set (.var 5) (.var 6) 15 (.own (.shut (.cell (.var 5) (.var 6) 15))), .int 6]))
 (.call 41 [.var 7, .var 8, .var 9, .var 10, .var 11, .var 12] 15
 (.need (.clean (.set (.set (.set (.set (.set (.set (.set (.set (.set (.set (.set (.set (.set (.set (.set (.set (.var 5) (.var 6) 15 (.own (.shut (.cell (.var 5) (.var 6) 15)))) (.var 6) 0 (.bool true)) (.var 6) 1 (.var 15)) (.var 6) 2 (.var 16)) (.var 6) 3 (.var 17)) (.var 6) 4 (.var 18)) (.var 6) 5 (.var 19)) (.var 6) 6 (.var 20)) (.var 6) 7 (.var 21)) (.var 6) 8 (.var 22)) (.var 6) 9 (.var 23)) (.var 6) 10 (.var 24)) (.var 6) 11 (.var 25)) (.var 6) 12 (.var 26)) (.var 6) 13 (.var 27)) (.var 6) 14 (.var 28)) 15)
 (.ret [.var 0, .var 1, .var 2, .var 3, .var 4, .set (.set (.set (.set (.set (.set (.set (.set (.set (.set (.set (.set (.set (.set (.set (.set (.var 5) (.var 6) 15 (.own (.shut (.cell (.var 5) (.var 6) 15)))) (.var 6) 0 (.bool true)) (.var 6) 1 (.var 15)) (.var 6) 2 (.var 16)) (.var 6) 3 (.var 17)) (.var 6) 4 (.var 18)) (.var 6) 5 (.var 19)) (.var 6) 6 (.var 20)) (.var 6) 7 (.var 21)) (.var 6) 8 (.var 22)) (.var 6) 9 (.var 23)) (.var 6) 10 (.var 24)) (.var 6) 11 (.var 25)) (.var 6) 12 (.var 26)) (.var 6) 13 (.var 27)) (.var 6) 14 (.var 28), .int 0])))))
 (.call 41 [.var 7, .var 8, .var 9, .var 10, .var 11, .var 12] 14
 (.need (.clean (.set (.set (.set (.set (.set (.set (.set (.set (.set (.set (.set (.set (.set (.set (.set (.set (.var 5) (.var 6) 15 (.own (.shut (.cell (.var 5) (.var 6) 15)))) (.var 6) 0 (.bool true)) (.var 6) 1 (.var 14)) (.var 6) 2 (.var 15)) (.var 6) 3 (.var 16)) (.var 6) 4 (.var 17)) (.var 6) 5 (.var 18)) (.var 6) 6 (.var 19)) (.var 6) 7 (.var 20)) (.var 6) 8 (.var 21)) (.var 6) 9 (.var 22)) (.var 6) 10 (.var 23)) (.var 6) 11 (.var 24)) (.var 6) 12 (.var 25)) (.var 6) 13 (.var 26)) (.var 6) 14 (.var 27)) 15)
 (.ret [.var 0, .var 1, .var 2, .var 3, .var 4, .set (.set (.set (.set (.set (.set (.set (.set (.set (.set (.set (.set (.set (.set (.set (.set (.var 5) (.var 6) 15 (.own (.shut (.cell (.var 5) (.var 6) 15)))) (.var 6) 0 (.bool true)) (.var 6) 1 (.var 14)) (.var 6) 2 (.var 15)) (.var 6) 3 (.var 16)) (.var 6) 4 (.var 17)) (.var 6) 5 (.var 18)) (.var 6) 6 (.var 19)) (.var 6) 7 (.var 20)) (.var 6) 8 (.var 21)) (.var 6) 9 (.var 22)) (.var 6) 10 (.var 23)) (.var 6) 11 (.var 24)) (.var 6) 12 (.var 25)) (.var 6) 13 (.var 26)) (.var 6) 14 (.var 27), .int 0])))))))))))
theorem run209 : run z209 6000 [.code (Try.f209.body.getD .skip), .fin (topRet z209 Try.f209.results.toList 50)] { fn := 209, tmps := z209.sig.args0 ++ List.replicate (Try.f209.ntmps - z209.sig.args0.length) (.v (.one .undef)), stk := [], h := z209.sig.h0, nx := z209.sig.ins.length, known := [] } = t209 := by kernel_rfl
theorem ok209 : CtOk Try.prog 209 d209.ct := by
  refine dc_of_tree (d := d209) (Z := z209) (Γ := gam l209) (fn := Try.f209) (c := Try.f209.body.getD .skip) (told_of tok mixed (all_cons ok40 (all_cons ok98 (all_cons ok41 all_nil))) fok_nil) Try.func209 (by kernel_rfl) (by kernel_rfl) rfl run209 fun E hk hp => ?_
  obtain ⟨hk0, hk1, hk2, hk3, hk4, hk5, hk6, hk7, hk8, hk9, hk10, hk11, hk12, _⟩ := hk
  obtain ⟨m, e0, e1, e2, e3, e4, b0, b1, b2, b3⟩ := ok_mem (d0 := E 0) (d1 := E 1) (d2 := E 2) (d3 := E 3) (d4 := E 4) hk0 hk1 hk2 hk3 hk4
  obtain ⟨ts, e5, hts, b5⟩ := ok_otasks (d := E 5) hk5
  have b5 : ts.length * 160 ≤ 140737488355328 := b5
  obtain ⟨x, e6⟩ := ok_int (d := E 6) hk6
  obtain ⟨c, e7, e8, e9, e10, e11, e12⟩ := ok_call (d0 := E 7) (d1 := E 8) (d2 := E 9) (d3 := E 10) (d4 := E 11) (d5 := E 12) hk7 hk8 hk9 hk10 hk11 hk12
  have el : letters E d209.sig.ins.length = [slotsD m.slots, intsD m.heads, intsD m.free, intsD m.locks, .i m.now, otasksD ts, .i x, .i c.kind, .i c.k.a, .i c.k.b, .i c.time, .i c.bucket, .i c.slot] := by
    show [E 0, E 1, E 2, E 3, E 4, E 5, E 6, E 7, E 8, E 9, E 10, E 11, E 12] = _
    rw [e0, e1, e2, e3, e4, e5, e6, e7, e8, e9, e10, e11, e12]
  rw [el] at hp
  rw [el]
  rw [Env.pre_eq el]
  clear el e0 e1 e2 e3 e4 e5 e6 e7 e8 e9 e10 e11 e12
  simp only [d209, wrd_of, List.getD_cons_zero, List.getD_cons_succ, CD.int_i, mem_eta, List.drop_succ_cons, List.drop_zero, call_of, call_eta] at hp ⊢
  obtain ⟨p0, p1, p2⟩ := hp
  obtain ⟨k, rfl⟩ : ∃ k : Nat, x = k := ⟨x.toNat, by omega⟩
  have hk : k < ts.length := by omega
  obtain ⟨t, ht⟩ : ∃ t, ts.getD k default = t := ⟨_, rfl⟩
  have hto : t.own = true := p2 _ (ht ▸ getD_cell hk)
  have htt : tsk ⟨m, ts⟩ k = t := by unfold tsk; rw [Int.toNat_natCast]; exact ht
  have e0 : ((otasksD ts).rows.getD k []).getD 0 .u = .b t.busy := by rw [raw_t 0 hk, ht]; rfl
  have e15 : ((otasksD ts).rows.getD k []).getD 15 .u = oints t.held := by rw [raw_t 15 hk, ht, orow_own hto]; rfl
  have eo : (oints t.held).isO = true := rfl
  have es : (oints t.held).shut = intsD t.held := rfl
  have h0 : CD.l ((otasksD ts).rows.modify k fun r => r.set 15 (.o (intsD t.held).rows)) = otasksD ts := by
    have := orow_here (l := ts) (i := k) (g := fun r => r.set 15 (.o (intsD t.held).rows)) (h := fun t => t) (by rw [ht, orow_own hto]; rfl)
    rw [this, modify_idw]
  have hB := put_A ht hto true (newFrame c)
  unfold beginW
  rw [htt]
  unfold t209
  refine den_need (by simp only [nrm, X.den, Env.put, Env.pre, reduceIte, Nat.reduceLT, Nat.reduceSub, Nat.reduceAdd]; omega) (den_need (by simp only [nrm, X.den, Env.put, Env.pre, reduceIte, Nat.reduceLT, Nat.reduceSub, Nat.reduceAdd, len_otasks]; omega) (den_ite (fun h => ?_) (fun h => ?_)))
  · simp only [nrm, X.den, Env.put, Env.pre, reduceIte, Nat.reduceLT, Nat.reduceSub, Nat.reduceAdd, Int.toNat_natCast, e0] at h
    rw [if_pos h]
    refine den_need (by simp only [nrm, X.den, Env.put, Env.pre, reduceIte, Nat.reduceLT, Nat.reduceSub, Nat.reduceAdd]; exact clean_otasks ts) (den_ret ?_)
    simp only [nrm, X.den, Env.put, Env.pre, reduceIte, Nat.reduceLT, Nat.reduceSub, Nat.reduceAdd, Wrd.cds, Mem.cds, lca]
  simp only [nrm, X.den, Env.put, Env.pre, reduceIte, Nat.reduceLT, Nat.reduceSub, Nat.reduceAdd, Int.toNat_natCast, e0] at h
  rw [if_neg (by rw [h]; exact Bool.false_ne_true)]
  refine den_calle d40 [.i (checkCall m c)] rfl trivial (by simp only [nrm, X.den, Env.put, Env.pre, reduceIte, Nat.reduceLT, Nat.reduceSub, Nat.reduceAdd, d40, mem_of, mem_eta, call_of, call_eta, List.drop_succ_cons, List.drop_zero]) (den_ite (fun h1 => ?_) (fun h1 => ?_))
  · simp only [nrm, X.den, Env.put, Env.pre, reduceIte, Nat.reduceLT, Nat.reduceSub, Nat.reduceAdd] at h1
    rw [if_pos (by simpa using h1)]
    refine den_need (by simp only [nrm, X.den, Env.put, Env.pre, reduceIte, Nat.reduceLT, Nat.reduceSub, Nat.reduceAdd]; exact clean_otasks ts) (den_ret ?_)
    simp only [nrm, X.den, Env.put, Env.pre, reduceIte, Nat.reduceLT, Nat.reduceSub, Nat.reduceAdd, Wrd.cds, Mem.cds, lca]
  simp only [nrm, X.den, Env.put, Env.pre, reduceIte, Nat.reduceLT, Nat.reduceSub, Nat.reduceAdd] at h1
  rw [if_neg (by simpa using h1)]
  refine den_need (by simp only [nrm, X.den, Env.put, Env.pre, reduceIte, Nat.reduceLT, Nat.reduceSub, Nat.reduceAdd, Int.toNat_natCast, e15, eo]) (den_ite (fun h2 => ?_) (fun h2 => ?_))
  · simp only [nrm, X.den, Env.put, Env.pre, reduceIte, Nat.reduceLT, Nat.reduceSub, Nat.reduceAdd, Int.toNat_natCast, e15, es, len_ints] at h2
    refine den_ite (fun h3 => ?_) (fun h3 => ?_)
    · simp only [nrm, X.den, Env.put, Env.pre, reduceIte, Nat.reduceLT, Nat.reduceSub, Nat.reduceAdd] at h3
      rw [if_pos ⟨by omega, h3⟩]
      refine den_need (by simp only [nrm, X.den, Env.put, Env.pre, reduceIte, Nat.reduceLT, Nat.reduceSub, Nat.reduceAdd, Int.toNat_natCast, e15, es, CD.rows_l]; exact cls h0) (den_ret ?_)
      simp only [nrm, X.den, Env.put, Env.pre, reduceIte, Nat.reduceLT, Nat.reduceSub, Nat.reduceAdd, Int.toNat_natCast, e15, es, CD.rows_l, h0, Wrd.cds, Mem.cds, lca]
    simp only [nrm, X.den, Env.put, Env.pre, reduceIte, Nat.reduceLT, Nat.reduceSub, Nat.reduceAdd] at h3
    rw [if_neg (fun x => h3 x.2)]
    refine den_ite (fun h3 => ?_) (fun h3 => ?_)
    · simp only [nrm, X.den, Env.put, Env.pre, reduceIte, Nat.reduceLT, Nat.reduceSub, Nat.reduceAdd] at h3
      refine den_calle d98 [.b (decide (c.slot ∈ t.held))] rfl trivial (by simp only [nrm, X.den, Env.put, Env.pre, reduceIte, Nat.reduceLT, Nat.reduceSub, Nat.reduceAdd, Int.toNat_natCast, e15, es, d98, ints_intsD]) (den_ite (fun h4 => ?_) (fun h4 => ?_))
      · simp only [nrm, X.den, Env.put, Env.pre, reduceIte, Nat.reduceLT, Nat.reduceSub, Nat.reduceAdd] at h4
        have h4 : c.slot ∉ t.held := by simpa using h4
        rw [if_pos ⟨h3, h4⟩]
        refine den_need (by simp only [nrm, X.den, Env.put, Env.pre, reduceIte, Nat.reduceLT, Nat.reduceSub, Nat.reduceAdd, Int.toNat_natCast, e15, es, CD.rows_l]; exact cls h0) (den_ret ?_)
        simp only [nrm, X.den, Env.put, Env.pre, reduceIte, Nat.reduceLT, Nat.reduceSub, Nat.reduceAdd, Int.toNat_natCast, e15, es, CD.rows_l, h0, Wrd.cds, Mem.cds, lca]
      simp only [nrm, X.den, Env.put, Env.pre, reduceIte, Nat.reduceLT, Nat.reduceSub, Nat.reduceAdd] at h4
      have h4 : c.slot ∈ t.held := by simpa using h4
      rw [if_neg (fun x => x.2 h4)]
      refine den_calle d41 (newFrame c).cds rfl trivial (by simp only [nrm, X.den, Env.put, Env.pre, reduceIte, Nat.reduceLT, Nat.reduceSub, Nat.reduceAdd, d41, call_of, call_eta]) (den_need ?_ (den_ret ?_))
      · simp only [nrm, X.den, Env.put, Env.pre, reduceIte, Nat.reduceLT, Nat.reduceSub, Nat.reduceAdd, Int.toNat_natCast, e15, es, CD.rows_l, modify_modify, Frm.cds]
        exact cls hB
      · simp only [nrm, X.den, Env.put, Env.pre, reduceIte, Nat.reduceLT, Nat.reduceSub, Nat.reduceAdd, Int.toNat_natCast, e15, es, CD.rows_l, modify_modify, Frm.cds, hB, Wrd.cds, Wrd.at, Mem.cds, lca]
    · simp only [nrm, X.den, Env.put, Env.pre, reduceIte, Nat.reduceLT, Nat.reduceSub, Nat.reduceAdd] at h3
      rw [if_neg (fun x => h3 x.1)]
      refine den_calle d41 (newFrame c).cds rfl trivial (by simp only [nrm, X.den, Env.put, Env.pre, reduceIte, Nat.reduceLT, Nat.reduceSub, Nat.reduceAdd, d41, call_of, call_eta]) (den_need ?_ (den_ret ?_))
      · simp only [nrm, X.den, Env.put, Env.pre, reduceIte, Nat.reduceLT, Nat.reduceSub, Nat.reduceAdd, Int.toNat_natCast, e15, es, CD.rows_l, modify_modify, Frm.cds]
        exact cls hB
      · simp only [nrm, X.den, Env.put, Env.pre, reduceIte, Nat.reduceLT, Nat.reduceSub, Nat.reduceAdd, Int.toNat_natCast, e15, es, CD.rows_l, modify_modify, Frm.cds, hB, Wrd.cds, Wrd.at, Mem.cds, lca]
  · simp only [nrm, X.den, Env.put, Env.pre, reduceIte, Nat.reduceLT, Nat.reduceSub, Nat.reduceAdd, Int.toNat_natCast, e15, es, len_ints] at h2
    rw [if_neg (fun x => h2 (by omega))]
    refine den_ite (fun h3 => ?_) (fun h3 => ?_)
    · simp only [nrm, X.den, Env.put, Env.pre, reduceIte, Nat.reduceLT, Nat.reduceSub, Nat.reduceAdd] at h3
      refine den_calle d98 [.b (decide (c.slot ∈ t.held))] rfl trivial (by simp only [nrm, X.den, Env.put, Env.pre, reduceIte, Nat.reduceLT, Nat.reduceSub, Nat.reduceAdd, Int.toNat_natCast, e15, es, d98, ints_intsD]) (den_ite (fun h4 => ?_) (fun h4 => ?_))
      · simp only [nrm, X.den, Env.put, Env.pre, reduceIte, Nat.reduceLT, Nat.reduceSub, Nat.reduceAdd] at h4
        have h4 : c.slot ∉ t.held := by simpa using h4
        rw [if_pos ⟨h3, h4⟩]
        refine den_need (by simp only [nrm, X.den, Env.put, Env.pre, reduceIte, Nat.reduceLT, Nat.reduceSub, Nat.reduceAdd, Int.toNat_natCast, e15, es, CD.rows_l]; exact cls h0) (den_ret ?_)
        simp only [nrm, X.den, Env.put, Env.pre, reduceIte, Nat.reduceLT, Nat.reduceSub, Nat.reduceAdd, Int.toNat_natCast, e15, es, CD.rows_l, h0, Wrd.cds, Mem.cds, lca]
      simp only [nrm, X.den, Env.put, Env.pre, reduceIte, Nat.reduceLT, Nat.reduceSub, Nat.reduceAdd] at h4
      have h4 : c.slot ∈ t.held := by simpa using h4
      rw [if_neg (fun x => x.2 h4)]
      refine den_calle d41 (newFrame c).cds rfl trivial (by simp only [nrm, X.den, Env.put, Env.pre, reduceIte, Nat.reduceLT, Nat.reduceSub, Nat.reduceAdd, d41, call_of, call_eta]) (den_need ?_ (den_ret ?_))
      · simp only [nrm, X.den, Env.put, Env.pre, reduceIte, Nat.reduceLT, Nat.reduceSub, Nat.reduceAdd, Int.toNat_natCast, e15, es, CD.rows_l, modify_modify, Frm.cds]
        exact cls hB
      · simp only [nrm, X.den, Env.put, Env.pre, reduceIte, Nat.reduceLT, Nat.reduceSub, Nat.reduceAdd, Int.toNat_natCast, e15, es, CD.rows_l, modify_modify, Frm.cds, hB, Wrd.cds, Wrd.at, Mem.cds, lca]
    · simp only [nrm, X.den, Env.put, Env.pre, reduceIte, Nat.reduceLT, Nat.reduceSub, Nat.reduceAdd] at h3
      rw [if_neg (fun x => h3 x.1)]
      refine den_calle d41 (newFrame c).cds rfl trivial (by simp only [nrm, X.den, Env.put, Env.pre, reduceIte, Nat.reduceLT, Nat.reduceSub, Nat.reduceAdd, d41, call_of, call_eta]) (den_need ?_ (den_ret ?_))
      · simp only [nrm, X.den, Env.put, Env.pre, reduceIte, Nat.reduceLT, Nat.reduceSub, Nat.reduceAdd, Int.toNat_natCast, e15, es, CD.rows_l, modify_modify, Frm.cds]
        exact cls hB
      · simp only [nrm, X.den, Env.put, Env.pre, reduceIte, Nat.reduceLT, Nat.reduceSub, Nat.reduceAdd, Int.toNat_natCast, e15, es, CD.rows_l, modify_modify, Frm.cds, hB, Wrd.cds, Wrd.at, Mem.cds, lca]
end Go.Proofs.Ytpmamacjepcdmaa

namespace Go.Proofs.Ytpmamacjepcdmaa
open Go Go.Sy Go.RowKit
set_option linter.unusedSimpArgs false
set_option linter.unusedVariables false
def s101 : Sig := ⟨[.ptr [.own 52 kS, .own 3 kI, .own 3 kI, .own 3 kI, .int .i64], .agg [.int .i64, .int .i64, .int .i64, .int .i64, .int .i64, .int .i64, .int .i64, .int .i64, .int .i64, .int .i64, .int .i64, .fz kK, .bool, .int .i64]], [.agg [.int .i64, .int .i64, .int .i64, .int .i64, .int .i64, .int .i64, .int .i64, .int .i64, .int .i64, .int .i64, .int .i64, .fz kK, .bool, .int .i64]]⟩
def d101 : DC := ⟨s101, fun l => MemIn (Mem.of l) ∧ FrmOk (Mem.of l) (Frm.of (l.drop 5)) ∧ (Frm.of (l.drop 5)).c.kind = 1, fun l => (lookStep (Mem.of l) (Frm.of (l.drop 5))).2.cds ++ (lookStep (Mem.of l) (Frm.of (l.drop 5))).1.cds⟩
theorem fn101 (m : Mem) (f : Frm) : d101.fn [slotsD m.slots, intsD m.heads, intsD m.free, intsD m.locks, .i m.now, .i f.c.kind, .i f.c.k.a, .i f.c.k.b, .i f.c.time, .i f.c.bucket, .i f.c.slot, .i f.pc, .i f.cur, .i f.prev, .i f.slot, .i f.n, keysD f.keys, .b f.done, .i f.e] = (lookStep m f).2.cds ++ (lookStep m f).1.cds := by
  simp only [d101, mem_of, mem_eta, List.drop_succ_cons, List.drop_zero, frm_of]
theorem pi101 {m : Mem} {f : Frm} (hm : MemIn m) (hf : FrmOk m f) (hk : f.c.kind = 1) : d101.pre [slotsD m.slots, intsD m.heads, intsD m.free, intsD m.locks, .i m.now, .i f.c.kind, .i f.c.k.a, .i f.c.k.b, .i f.c.time, .i f.c.bucket, .i f.c.slot, .i f.pc, .i f.cur, .i f.prev, .i f.slot, .i f.n, keysD f.keys, .b f.done, .i f.e] := by
  simp only [d101, mem_of, mem_eta, List.drop_succ_cons, List.drop_zero, frm_of]
  exact ⟨hm, hf, hk⟩
def l101 : List (Nat × Ct) := [(48, d48.ct), (166, d166.ct), (44, d44.ct), (167, d167.ct)]
def z101 : Cx := { T := ttA, C := sigs l101, F := [], hints := [], sig := s101 }
def t101 : Tree :=
 (.call 48 [.var 0, .var 1, .var 2, .var 3, .var 4, .var 5, .var 6, .var 7, .var 8, .var 9, .var 10] 19
 (.ite (.eq (.var 11) (.int 2))
 (.ite (.le (.var 12) (.int 0))
 (.ret [.var 0, .var 1, .var 2, .var 3, .var 4, .var 5, .var 6, .var 7, .var 8, .var 9, .var 10, .int 0, .var 12, .var 13, .var 14, .var 15, .var 16, .var 17, .var 18])
 (.need (.fit (.sub (.var 12) (.int 1)))
 (.need (.le (.int 0) (.sub (.var 12) (.int 1)))
 (.need (.lt (.sub (.var 12) (.int 1)) (.len (.var 0)))
 (.ret [.var 0, .var 1, .var 2, .var 3, .var 4, .var 5, .var 6, .var 7, .var 8, .var 9, .var 10, .int 1, .cell (.var 0) (.sub (.var 12) (.int 1)) 5, .var 13, .var 14, .var 15, .var 16, .var 17, .var 18])))))
 (.ite (.eq (.var 11) (.int 3))
 (.ite (.le (.var 12) (.int 0))
 (.ret [.var 0, .var 1, .var 2, .var 3, .var 4, .var 5, .var 6, .var 7, .var 8, .var 9, .var 10, .int 0, .var 12, .var 13, .var 14, .var 15, .var 16, .var 17, .var 18])
 (.need (.fit (.sub (.var 12) (.int 1)))
 (.call 166 [.var 0, .var 1, .var 2, .var 3, .var 4, .sub (.var 12) (.int 1)] 20
 (.ite (.var 25)
 (.ret [.var 20, .var 21, .var 22, .var 23, .var 24, .var 5, .var 6, .var 7, .var 8, .var 9, .var 10, .int 4, .var 12, .var 13, .sub (.var 12) (.int 1), .var 15, .var 16, .var 17, .var 18])
 (.ret [.var 20, .var 21, .var 22, .var 23, .var 24, .var 5, .var 6, .var 7, .var 8, .var 9, .var 10, .int 0, .var 12, .var 13, .var 14, .var 15, .var 16, .var 17, .var 18])))))
 (.ite (.eq (.var 11) (.int 4))
 (.ite (.lt (.var 14) (.int 0))
 (.ret [.var 0, .var 1, .var 2, .var 3, .var 4, .var 5, .var 6, .var 7, .var 8, .var 9, .var 10, .int 0, .var 12, .var 13, .var 14, .var 15, .var 16, .var 17, .var 18])
 (.need (.le (.int 0) (.var 14))
 (.need (.lt (.var 14) (.len (.var 0)))
 (.ite (.not (.and (.eq (.cell (.var 0) (.var 14) 1) (.var 6)) (.and (.eq (.cell (.var 0) (.var 14) 2) (.var 7)) (.bool true))))
 (.ret [.var 0, .var 1, .var 2, .var 3, .var 4, .var 5, .var 6, .var 7, .var 8, .var 9, .var 10, .int 5, .var 12, .var 13, .var 14, .var 15, .var 16, .var 17, .var 18])
 (.ite (.not (.cell (.var 0) (.var 14) 4))
 (.ret [.var 0, .var 1, .var 2, .var 3, .var 4, .var 5, .var 6, .var 7, .var 8, .var 9, .var 10, .int 5, .var 12, .var 13, .var 14, .var 15, .var 16, .var 17, .var 18])
 (.ite (.le (.cell (.var 0) (.var 14) 3) (.var 4))
 (.ret [.var 0, .var 1, .var 2, .var 3, .var 4, .var 5, .var 6, .var 7, .var 8, .var 9, .var 10, .int 6, .var 12, .var 13, .var 14, .var 15, .var 16, .var 17, .var 18])
 (.call 44 [.var 5, .var 6, .var 7, .var 8, .var 9, .var 10, .var 11, .var 12, .var 13, .var 14, .var 15, .var 16, .var 17, .var 18, .int 0] 20
 (.ret [.var 0, .var 1, .var 2, .var 3, .var 4, .var 20, .var 21, .var 22, .var 23, .var 24, .var 25, .var 26, .var 27, .var 28, .var 29, .var 30, .var 31, .var 32, .var 33]))))))))
 (.ite (.eq (.var 11) (.int 5))
 (.ite (.lt (.var 14) (.int 0))
 (.ret [.var 0, .var 1, .var 2, .var 3, .var 4, .var 5, .var 6, .var 7, .var 8, .var 9, .var 10, .int 0, .var 12, .var 13, .var 14, .var 15, .var 16, .var 17, .var 18])
 (.call 167 [.var 0, .var 1, .var 2, .var 3, .var 4, .var 14] 20
 (.ret [.var 20, .var 21, .var 22, .var 23, .var 24, .var 5, .var 6, .var 7, .var 8, .var 9, .var 10, .int 0, .var 12, .var 13, .int (-1), .var 15, .var 16, .var 17, .var 18])))
 (.ite (.eq (.var 11) (.int 6))
 (.ite (.lt (.var 14) (.int 0))
 (.ret [.var 0, .var 1, .var 2, .var 3, .var 4, .var 5, .var 6, .var 7, .var 8, .var 9, .var 10, .int 0, .var 12, .var 13, .var 14, .var 15, .var 16, .var 17, .var 18])
 (.call 167 [.var 0, .var 1, .var 2, .var 3, .var 4, .var 14] 20
 (.call 44 [.var 5, .var 6, .var 7, .var 8, .var 9, .var 10, .var 11, .var 12, .var 13, .int (-1), .var 15, .var 16, .var 17, .var 18, .int 5] 25
 (.ret [.var 20, .var 21, .var 22, .var 23, .var 24, .var 25, .var 26, .var 27, .var 28, .var 29, .var 30, .var 31, .var 32, .var 33, .var 34, .var 35, .var 36, .var 37, .var 38]))))
 (.ite (.lt (.int 6) (.var 11))
 (.ret [.var 0, .var 1, .var 2, .var 3, .var 4, .var 5, .var 6, .var 7, .var 8, .var 9, .var 10, .int 0, .var 12, .var 13, .var 14, .var 15, .var 16, .var 17, .var 18])
 (.ite (.eq (.var 11) (.int 0))
 (.need (.le (.int 0) (.var 19))
 (.need (.lt (.var 19) (.len (.var 1)))
 (.ret [.var 0, .var 1, .var 2, .var 3, .var 4, .var 5, .var 6, .var 7, .var 8, .var 9, .var 10, .int 1, .cell (.var 1) (.var 19) 0, .var 13, .var 14, .var 15, .var 16, .var 17, .var 18])))
 (.ite (.eq (.var 11) (.int 1))
 (.need (.fit (.sub (.int (-1)) (.var 19)))
 (.ite (.eq (.var 12) (.sub (.int (-1)) (.var 19)))
 (.call 44 [.var 5, .var 6, .var 7, .var 8, .var 9, .var 10, .var 11, .var 12, .var 13, .var 14, .var 15, .var 16, .var 17, .var 18, .int 5] 20
 (.ret [.var 0, .var 1, .var 2, .var 3, .var 4, .var 20, .var 21, .var 22, .var 23, .var 24, .var 25, .var 26, .var 27, .var 28, .var 29, .var 30, .var 31, .var 32, .var 33]))
 (.ite (.le (.var 12) (.int 0))
 (.ret [.var 0, .var 1, .var 2, .var 3, .var 4, .var 5, .var 6, .var 7, .var 8, .var 9, .var 10, .int 0, .var 12, .var 13, .var 14, .var 15, .var 16, .var 17, .var 18])
 (.need (.fit (.sub (.var 12) (.int 1)))
 (.need (.le (.int 0) (.sub (.var 12) (.int 1)))
 (.need (.lt (.sub (.var 12) (.int 1)) (.len (.var 0)))
 (.ite (.and (.eq (.cell (.var 0) (.sub (.var 12) (.int 1)) 1) (.var 6)) (.and (.eq (.cell (.var 0) (.sub (.var 12) (.int 1)) 2) (.var 7)) (.bool true)))
 (.ret [.var 0, .var 1, .var 2, .var 3, .var 4, .var 5, .var 6, .var 7, .var 8, .var 9, .var 10, .int 3, .var 12, .var 13, .var 14, .var 15, .var 16, .var 17, .var 18])
 (.ret [.var 0, .var 1, .var 2, .var 3, .var 4, .var 5, .var 6, .var 7, .var 8, .var 9, .var 10, .int 2, .var 12, .var 13, .var 14, .var 15, .var 16, .var 17, .var 18]))))))))
 (.ret [.var 0, .var 1, .var 2, .var 3, .var 4, .var 5, .var 6, .var 7, .var 8, .var 9, .var 10, .var 11, .var 12, .var 13, .var 14, .var 15, .var 16, .var 17, .var 18]))))))))))
theorem run101 : run z101 6000 [.code (Try.f101.body.getD .skip), .fin (topRet z101 Try.f101.results.toList 50)] { fn := 101, tmps := z101.sig.args0 ++ List.replicate (Try.f101.ntmps - z101.sig.args0.length) (.v (.one .undef)), stk := [], h := z101.sig.h0, nx := z101.sig.ins.length, known := [] } = t101 := by kernel_rfl
theorem ok101 : CtOk Try.prog 101 d101.ct := by
  refine dc_of_tree (d := d101) (Z := z101) (Γ := gam l101) (fn := Try.f101) (c := Try.f101.body.getD .skip) (told_of tok mixed (all_cons ok48 (all_cons ok166 (all_cons ok44 (all_cons ok167 all_nil)))) fok_nil) Try.func101 (by kernel_rfl) (by kernel_rfl) rfl run101 fun E hk hp => ?_
  obtain ⟨hk0, hk1, hk2, hk3, hk4, hk5, hk6, hk7, hk8, hk9, hk10, hk11, hk12, hk13, hk14, hk15, hk16, hk17, hk18, _⟩ := hk
  obtain ⟨m, e0, e1, e2, e3, e4, b0, b1, b2, b3⟩ := ok_mem (d0 := E 0) (d1 := E 1) (d2 := E 2) (d3 := E 3) (d4 := E 4) hk0 hk1 hk2 hk3 hk4
  obtain ⟨f, e5, e6, e7, e8, e9, e10, e11, e12, e13, e14, e15, e16, e17, e18, b16⟩ := ok_frame (d0 := E 5) (d1 := E 6) (d2 := E 7) (d3 := E 8) (d4 := E 9) (d5 := E 10) (d6 := E 11) (d7 := E 12) (d8 := E 13) (d9 := E 14) (d10 := E 15) (d11 := E 16) (d12 := E 17) (d13 := E 18) hk5 hk6 hk7 hk8 hk9 hk10 hk11 hk12 hk13 hk14 hk15 hk16 hk17 hk18
  have el : letters E d101.sig.ins.length = [slotsD m.slots, intsD m.heads, intsD m.free, intsD m.locks, .i m.now, .i f.c.kind, .i f.c.k.a, .i f.c.k.b, .i f.c.time, .i f.c.bucket, .i f.c.slot, .i f.pc, .i f.cur, .i f.prev, .i f.slot, .i f.n, keysD f.keys, .b f.done, .i f.e] := by
    show [E 0, E 1, E 2, E 3, E 4, E 5, E 6, E 7, E 8, E 9, E 10, E 11, E 12, E 13, E 14, E 15, E 16, E 17, E 18] = _
    rw [e0, e1, e2, e3, e4, e5, e6, e7, e8, e9, e10, e11, e12, e13, e14, e15, e16, e17, e18]
  rw [el] at hp
  rw [el]
  rw [Env.pre_eq el]
  clear el e0 e1 e2 e3 e4 e5 e6 e7 e8 e9 e10 e11 e12 e13 e14 e15 e16 e17 e18
  rw [fn101]
  simp only [d101, mem_of, mem_eta, List.drop_succ_cons, List.drop_zero, frm_of] at hp
  obtain ⟨hm, hf, hk⟩ : MemIn m ∧ FrmOk m f ∧ f.c.kind = 1 := hp
  have hb := bucketFor_range hm hf.call (by omega)
  have gs := hm.ns
  have g4 := hm.nh4
  have eH : ((intsD m.heads).rows.getD (bucketFor m f.c).toNat []).getD 0 .u = .i (headAt m (bucketFor m f.c)) := raw_int (by omega)
  obtain ⟨f1, f2, f3, f4, f5, f6, f7, f8, f9, f10, f11, f12, f13⟩ := id hf
  have eN : 0 < f.cur → ((slotsD m.slots).rows.getD (f.cur - 1).toNat []).getD 5 .u = .i (at1 m f).next := fun _ => raw_s5 (by omega)
  have eK1 : 0 < f.cur → ((slotsD m.slots).rows.getD (f.cur - 1).toNat []).getD 1 .u = .i (at1 m f).k.a := fun _ => raw_s1 (by omega)
  have eK2 : 0 < f.cur → ((slotsD m.slots).rows.getD (f.cur - 1).toNat []).getD 2 .u = .i (at1 m f).k.b := fun _ => raw_s2 (by omega)
  have a1 : m.slots.getD (f.cur - 1).toNat default = at1 m f := rfl
  have a2 : m.slots.getD f.slot.toNat default = at2 m f := rfl
  unfold t101
  refine den_calle d48 [.i (bucketFor m f.c)] rfl trivial (by simp only [nrm, X.den, Env.put, Env.pre, reduceIte, Nat.reduceLT, Nat.reduceSub, Nat.reduceAdd, fs48]) ?_
  refine den_ite (fun h1 => ?_) (fun h1 => ?_)
  · simp only [nrm, X.den, Env.put, Env.pre, reduceIte, Nat.reduceLT, Nat.reduceSub, Nat.reduceAdd, cell_s1, cell_s2, cell_s3, cell_s4, cell_s5, cell_int, a1, a2, len_keys, Mem.cds, lca, Bool.not_eq_true', Bool.not_eq_false'] at h1
    refine den_ite (fun h2 => ?_) (fun h2 => ?_)
    · simp only [nrm, X.den, Env.put, Env.pre, reduceIte, Nat.reduceLT, Nat.reduceSub, Nat.reduceAdd, cell_s1, cell_s2, cell_s3, cell_s4, cell_s5, cell_int, a1, a2, len_keys, Mem.cds, lca, Bool.not_eq_true', Bool.not_eq_false'] at h2
      refine den_ret ?_
      first | (exfalso; omega) | skip
      all_goals unfold lookStep
      all_goals repeat (first | rw [if_neg (by omega)] | rw [if_pos (by omega)] | rw [if_pos (by assumption)] | rw [if_neg (by assumption)] | rw [if_neg (ne_true_of_eq_false (by assumption))] | rw [if_pos (Or.inl (by assumption))] | rw [if_pos (Or.inr (by assumption))] | rw [if_neg (fun y => Or.elim y (fun z => z (by assumption)) (fun z => Bool.false_ne_true (z.symm.trans (by assumption))))])
      all_goals simp only [nrm, X.den, Env.put, Env.pre, reduceIte, Nat.reduceLT, Nat.reduceSub, Nat.reduceAdd, Mem.cds, Frm.cds, endFrame, lca, CD.row, List.headD_cons, eH, app_key, Bool.false_eq_true, Bool.true_eq_false]
      all_goals first | (have e14 : f.slot = -1 := (by omega); simp only [e14]; done) | (have e15 : f.n = 1000000 := (by omega); simp only [e15]; done)
    · simp only [nrm, X.den, Env.put, Env.pre, reduceIte, Nat.reduceLT, Nat.reduceSub, Nat.reduceAdd, cell_s1, cell_s2, cell_s3, cell_s4, cell_s5, cell_int, a1, a2, len_keys, Mem.cds, lca, Bool.not_eq_true', Bool.not_eq_false'] at h2
      refine den_fit (by simp only [nrm, X.den, Env.put, Env.pre, reduceIte, Nat.reduceLT, Nat.reduceSub, Nat.reduceAdd, len_slots, len_ints, len_keys, cell_s1, cell_s2, cell_s3, cell_s4, cell_s5, cell_int, a1, a2]; omega) ?_
      refine den_le (by simp only [nrm, X.den, Env.put, Env.pre, reduceIte, Nat.reduceLT, Nat.reduceSub, Nat.reduceAdd, len_slots, len_ints, len_keys, cell_s1, cell_s2, cell_s3, cell_s4, cell_s5, cell_int, a1, a2]; omega) ?_
      refine den_lt (by simp only [nrm, X.den, Env.put, Env.pre, reduceIte, Nat.reduceLT, Nat.reduceSub, Nat.reduceAdd, len_slots, len_ints, len_keys, cell_s1, cell_s2, cell_s3, cell_s4, cell_s5, cell_int, a1, a2]; omega) ?_
      refine den_ret ?_
      first | (exfalso; omega) | skip
      all_goals unfold lookStep
      all_goals repeat (first | rw [if_neg (by omega)] | rw [if_pos (by omega)] | rw [if_pos (by assumption)] | rw [if_neg (by assumption)] | rw [if_neg (ne_true_of_eq_false (by assumption))] | rw [if_pos (Or.inl (by assumption))] | rw [if_pos (Or.inr (by assumption))] | rw [if_neg (fun y => Or.elim y (fun z => z (by assumption)) (fun z => Bool.false_ne_true (z.symm.trans (by assumption))))])
      all_goals simp only [nrm, X.den, Env.put, Env.pre, reduceIte, Nat.reduceLT, Nat.reduceSub, Nat.reduceAdd, Mem.cds, Frm.cds, endFrame, lca, CD.row, List.headD_cons, eH, app_key, Bool.false_eq_true, Bool.true_eq_false, eN (by omega), eK1 (by omega), eK2 (by omega)]
      all_goals first | (have e14 : f.slot = -1 := (by omega); simp only [e14]; done) | (have e15 : f.n = 1000000 := (by omega); simp only [e15]; done)
  · simp only [nrm, X.den, Env.put, Env.pre, reduceIte, Nat.reduceLT, Nat.reduceSub, Nat.reduceAdd, cell_s1, cell_s2, cell_s3, cell_s4, cell_s5, cell_int, a1, a2, len_keys, Mem.cds, lca, Bool.not_eq_true', Bool.not_eq_false'] at h1
    refine den_ite (fun h2 => ?_) (fun h2 => ?_)
    · simp only [nrm, X.den, Env.put, Env.pre, reduceIte, Nat.reduceLT, Nat.reduceSub, Nat.reduceAdd, cell_s1, cell_s2, cell_s3, cell_s4, cell_s5, cell_int, a1, a2, len_keys, Mem.cds, lca, Bool.not_eq_true', Bool.not_eq_false'] at h2
      refine den_ite (fun h3 => ?_) (fun h3 => ?_)
      · simp only [nrm, X.den, Env.put, Env.pre, reduceIte, Nat.reduceLT, Nat.reduceSub, Nat.reduceAdd, cell_s1, cell_s2, cell_s3, cell_s4, cell_s5, cell_int, a1, a2, len_keys, Mem.cds, lca, Bool.not_eq_true', Bool.not_eq_false'] at h3
        refine den_ret ?_
        first | (exfalso; omega) | skip
        all_goals unfold lookStep
        all_goals repeat (first | rw [if_neg (by omega)] | rw [if_pos (by omega)] | rw [if_pos (by assumption)] | rw [if_neg (by assumption)] | rw [if_neg (ne_true_of_eq_false (by assumption))] | rw [if_pos (Or.inl (by assumption))] | rw [if_pos (Or.inr (by assumption))] | rw [if_neg (fun y => Or.elim y (fun z => z (by assumption)) (fun z => Bool.false_ne_true (z.symm.trans (by assumption))))])
        all_goals simp only [nrm, X.den, Env.put, Env.pre, reduceIte, Nat.reduceLT, Nat.reduceSub, Nat.reduceAdd, Mem.cds, Frm.cds, endFrame, lca, CD.row, List.headD_cons, eH, app_key, Bool.false_eq_true, Bool.true_eq_false]
        all_goals first | (have e14 : f.slot = -1 := (by omega); simp only [e14]; done) | (have e15 : f.n = 1000000 := (by omega); simp only [e15]; done)
      · simp only [nrm, X.den, Env.put, Env.pre, reduceIte, Nat.reduceLT, Nat.reduceSub, Nat.reduceAdd, cell_s1, cell_s2, cell_s3, cell_s4, cell_s5, cell_int, a1, a2, len_keys, Mem.cds, lca, Bool.not_eq_true', Bool.not_eq_false'] at h3
        refine den_fit (by simp only [nrm, X.den, Env.put, Env.pre, reduceIte, Nat.reduceLT, Nat.reduceSub, Nat.reduceAdd, len_slots, len_ints, len_keys, cell_s1, cell_s2, cell_s3, cell_s4, cell_s5, cell_int, a1, a2]; omega) ?_
        refine den_calle d166 ((hold m (f.cur - 1)).1.cds ++ [.b (hold m (f.cur - 1)).2]) rfl (by simp only [nrm, X.den, Env.put, Env.pre, reduceIte, Nat.reduceLT, Nat.reduceSub, Nat.reduceAdd]; exact pi166 hm (by omega) (by omega)) (by simp only [nrm, X.den, Env.put, Env.pre, reduceIte, Nat.reduceLT, Nat.reduceSub, Nat.reduceAdd, fs166]) ?_
        refine den_ite (fun h4 => ?_) (fun h4 => ?_)
        · simp only [nrm, X.den, Env.put, Env.pre, reduceIte, Nat.reduceLT, Nat.reduceSub, Nat.reduceAdd, cell_s1, cell_s2, cell_s3, cell_s4, cell_s5, cell_int, a1, a2, len_keys, Mem.cds, lca, Bool.not_eq_true', Bool.not_eq_false'] at h4
          refine den_ret ?_
          first | (exfalso; omega) | skip
          all_goals unfold lookStep
          all_goals repeat (first | rw [if_neg (by omega)] | rw [if_pos (by omega)] | rw [if_pos (by assumption)] | rw [if_neg (by assumption)] | rw [if_neg (ne_true_of_eq_false (by assumption))] | rw [if_pos (Or.inl (by assumption))] | rw [if_pos (Or.inr (by assumption))] | rw [if_neg (fun y => Or.elim y (fun z => z (by assumption)) (fun z => Bool.false_ne_true (z.symm.trans (by assumption))))])
          all_goals try rw [hold_no h4]
          all_goals try rw [lock_no h4]
          all_goals simp only [nrm, X.den, Env.put, Env.pre, reduceIte, Nat.reduceLT, Nat.reduceSub, Nat.reduceAdd, Mem.cds, Frm.cds, endFrame, lca, CD.row, List.headD_cons, eH, app_key, Bool.false_eq_true, Bool.true_eq_false, h4]
          all_goals first | (have e14 : f.slot = -1 := (by omega); simp only [e14]; done) | (have e15 : f.n = 1000000 := (by omega); simp only [e15]; done)
        · simp only [nrm, X.den, Env.put, Env.pre, reduceIte, Nat.reduceLT, Nat.reduceSub, Nat.reduceAdd, cell_s1, cell_s2, cell_s3, cell_s4, cell_s5, cell_int, a1, a2, len_keys, Mem.cds, lca, Bool.not_eq_true', Bool.not_eq_false'] at h4
          refine den_ret ?_
          first | (exfalso; omega) | skip
          all_goals unfold lookStep
          all_goals repeat (first | rw [if_neg (by omega)] | rw [if_pos (by omega)] | rw [if_pos (by assumption)] | rw [if_neg (by assumption)] | rw [if_neg (ne_true_of_eq_false (by assumption))] | rw [if_pos (Or.inl (by assumption))] | rw [if_pos (Or.inr (by assumption))] | rw [if_neg (fun y => Or.elim y (fun z => z (by assumption)) (fun z => Bool.false_ne_true (z.symm.trans (by assumption))))])
          all_goals try rw [hold_no h4]
          all_goals try rw [lock_no h4]
          all_goals simp only [nrm, X.den, Env.put, Env.pre, reduceIte, Nat.reduceLT, Nat.reduceSub, Nat.reduceAdd, Mem.cds, Frm.cds, endFrame, lca, CD.row, List.headD_cons, eH, app_key, Bool.false_eq_true, Bool.true_eq_false, h4]
          all_goals first | (have e14 : f.slot = -1 := (by omega); simp only [e14]; done) | (have e15 : f.n = 1000000 := (by omega); simp only [e15]; done)
    · simp only [nrm, X.den, Env.put, Env.pre, reduceIte, Nat.reduceLT, Nat.reduceSub, Nat.reduceAdd, cell_s1, cell_s2, cell_s3, cell_s4, cell_s5, cell_int, a1, a2, len_keys, Mem.cds, lca, Bool.not_eq_true', Bool.not_eq_false'] at h2
      refine den_ite (fun h3 => ?_) (fun h3 => ?_)
      · simp only [nrm, X.den, Env.put, Env.pre, reduceIte, Nat.reduceLT, Nat.reduceSub, Nat.reduceAdd, cell_s1, cell_s2, cell_s3, cell_s4, cell_s5, cell_int, a1, a2, len_keys, Mem.cds, lca, Bool.not_eq_true', Bool.not_eq_false'] at h3
        refine den_ite (fun h4 => ?_) (fun h4 => ?_)
        · simp only [nrm, X.den, Env.put, Env.pre, reduceIte, Nat.reduceLT, Nat.reduceSub, Nat.reduceAdd, cell_s1, cell_s2, cell_s3, cell_s4, cell_s5, cell_int, a1, a2, len_keys, Mem.cds, lca, Bool.not_eq_true', Bool.not_eq_false'] at h4
          refine den_ret ?_
          first | (exfalso; omega) | skip
          all_goals unfold lookStep
          all_goals repeat (first | rw [if_neg (by omega)] | rw [if_pos (by omega)] | rw [if_pos (by assumption)] | rw [if_neg (by assumption)] | rw [if_neg (ne_true_of_eq_false (by assumption))] | rw [if_pos (Or.inl (by assumption))] | rw [if_pos (Or.inr (by assumption))] | rw [if_neg (fun y => Or.elim y (fun z => z (by assumption)) (fun z => Bool.false_ne_true (z.symm.trans (by assumption))))])
          all_goals simp only [nrm, X.den, Env.put, Env.pre, reduceIte, Nat.reduceLT, Nat.reduceSub, Nat.reduceAdd, Mem.cds, Frm.cds, endFrame, lca, CD.row, List.headD_cons, eH, app_key, Bool.false_eq_true, Bool.true_eq_false]
          all_goals first | (have e14 : f.slot = -1 := (by omega); simp only [e14]; done) | (have e15 : f.n = 1000000 := (by omega); simp only [e15]; done)
        · simp only [nrm, X.den, Env.put, Env.pre, reduceIte, Nat.reduceLT, Nat.reduceSub, Nat.reduceAdd, cell_s1, cell_s2, cell_s3, cell_s4, cell_s5, cell_int, a1, a2, len_keys, Mem.cds, lca, Bool.not_eq_true', Bool.not_eq_false'] at h4
          refine den_le (by simp only [nrm, X.den, Env.put, Env.pre, reduceIte, Nat.reduceLT, Nat.reduceSub, Nat.reduceAdd, len_slots, len_ints, len_keys, cell_s1, cell_s2, cell_s3, cell_s4, cell_s5, cell_int, a1, a2]; omega) ?_
          refine den_lt (by simp only [nrm, X.den, Env.put, Env.pre, reduceIte, Nat.reduceLT, Nat.reduceSub, Nat.reduceAdd, len_slots, len_ints, len_keys, cell_s1, cell_s2, cell_s3, cell_s4, cell_s5, cell_int, a1, a2]; omega) ?_
          refine den_ite (fun h5 => ?_) (fun h5 => ?_)
          · simp only [nrm, X.den, Env.put, Env.pre, reduceIte, Nat.reduceLT, Nat.reduceSub, Nat.reduceAdd, cell_s1, cell_s2, cell_s3, cell_s4, cell_s5, cell_int, a1, a2, len_keys, Mem.cds, lca, Bool.not_eq_true', Bool.not_eq_false'] at h5
            replace h5 := key_f h5
            refine den_ret ?_
            first | (exfalso; omega) | skip
            all_goals unfold lookStep
            all_goals repeat (first | rw [if_neg (by omega)] | rw [if_pos (by omega)] | rw [if_pos (by assumption)] | rw [if_neg (by assumption)] | rw [if_neg (ne_true_of_eq_false (by assumption))] | rw [if_pos (Or.inl (by assumption))] | rw [if_pos (Or.inr (by assumption))] | rw [if_neg (fun y => Or.elim y (fun z => z (by assumption)) (fun z => Bool.false_ne_true (z.symm.trans (by assumption))))])
            all_goals simp only [nrm, X.den, Env.put, Env.pre, reduceIte, Nat.reduceLT, Nat.reduceSub, Nat.reduceAdd, Mem.cds, Frm.cds, endFrame, lca, CD.row, List.headD_cons, eH, app_key, Bool.false_eq_true, Bool.true_eq_false]
            all_goals first | (have e14 : f.slot = -1 := (by omega); simp only [e14]; done) | (have e15 : f.n = 1000000 := (by omega); simp only [e15]; done)
          · simp only [nrm, X.den, Env.put, Env.pre, reduceIte, Nat.reduceLT, Nat.reduceSub, Nat.reduceAdd, cell_s1, cell_s2, cell_s3, cell_s4, cell_s5, cell_int, a1, a2, len_keys, Mem.cds, lca, Bool.not_eq_true', Bool.not_eq_false'] at h5
            replace h5 := key_t h5
            refine den_ite (fun h6 => ?_) (fun h6 => ?_)
            · simp only [nrm, X.den, Env.put, Env.pre, reduceIte, Nat.reduceLT, Nat.reduceSub, Nat.reduceAdd, cell_s1, cell_s2, cell_s3, cell_s4, cell_s5, cell_int, a1, a2, len_keys, Mem.cds, lca, Bool.not_eq_true', Bool.not_eq_false'] at h6
              refine den_ret ?_
              first | (exfalso; omega) | skip
              all_goals unfold lookStep
              all_goals repeat (first | rw [if_neg (by omega)] | rw [if_pos (by omega)] | rw [if_pos (by assumption)] | rw [if_neg (by assumption)] | rw [if_neg (ne_true_of_eq_false (by assumption))] | rw [if_pos (Or.inl (by assumption))] | rw [if_pos (Or.inr (by assumption))] | rw [if_neg (fun y => Or.elim y (fun z => z (by assumption)) (fun z => Bool.false_ne_true (z.symm.trans (by assumption))))])
              all_goals try rw [hold_no h6]
              all_goals try rw [lock_no h6]
              all_goals simp only [nrm, X.den, Env.put, Env.pre, reduceIte, Nat.reduceLT, Nat.reduceSub, Nat.reduceAdd, Mem.cds, Frm.cds, endFrame, lca, CD.row, List.headD_cons, eH, app_key, Bool.false_eq_true, Bool.true_eq_false, h6]
              all_goals first | (have e14 : f.slot = -1 := (by omega); simp only [e14]; done) | (have e15 : f.n = 1000000 := (by omega); simp only [e15]; done)
            · simp only [nrm, X.den, Env.put, Env.pre, reduceIte, Nat.reduceLT, Nat.reduceSub, Nat.reduceAdd, cell_s1, cell_s2, cell_s3, cell_s4, cell_s5, cell_int, a1, a2, len_keys, Mem.cds, lca, Bool.not_eq_true', Bool.not_eq_false'] at h6
              refine den_ite (fun h7 => ?_) (fun h7 => ?_)
              · simp only [nrm, X.den, Env.put, Env.pre, reduceIte, Nat.reduceLT, Nat.reduceSub, Nat.reduceAdd, cell_s1, cell_s2, cell_s3, cell_s4, cell_s5, cell_int, a1, a2, len_keys, Mem.cds, lca, Bool.not_eq_true', Bool.not_eq_false'] at h7
                refine den_ret ?_
                first | (exfalso; omega) | skip
                all_goals unfold lookStep
                all_goals repeat (first | rw [if_neg (by omega)] | rw [if_pos (by omega)] | rw [if_pos (by assumption)] | rw [if_neg (by assumption)] | rw [if_neg (ne_true_of_eq_false (by assumption))] | rw [if_pos (Or.inl (by assumption))] | rw [if_pos (Or.inr (by assumption))] | rw [if_neg (fun y => Or.elim y (fun z => z (by assumption)) (fun z => Bool.false_ne_true (z.symm.trans (by assumption))))])
                all_goals try rw [hold_no h6]
                all_goals try rw [lock_no h6]
                all_goals simp only [nrm, X.den, Env.put, Env.pre, reduceIte, Nat.reduceLT, Nat.reduceSub, Nat.reduceAdd, Mem.cds, Frm.cds, endFrame, lca, CD.row, List.headD_cons, eH, app_key, Bool.false_eq_true, Bool.true_eq_false, h6]
                all_goals first | (have e14 : f.slot = -1 := (by omega); simp only [e14]; done) | (have e15 : f.n = 1000000 := (by omega); simp only [e15]; done)
              · simp only [nrm, X.den, Env.put, Env.pre, reduceIte, Nat.reduceLT, Nat.reduceSub, Nat.reduceAdd, cell_s1, cell_s2, cell_s3, cell_s4, cell_s5, cell_int, a1, a2, len_keys, Mem.cds, lca, Bool.not_eq_true', Bool.not_eq_false'] at h7
                refine den_calle d44 (endFrame f 0).cds rfl trivial (by simp only [nrm, X.den, Env.put, Env.pre, reduceIte, Nat.reduceLT, Nat.reduceSub, Nat.reduceAdd, Frm.cds, lca]; exact fs44 f 0) ?_
                refine den_ret ?_
                first | (exfalso; omega) | skip
                all_goals unfold lookStep
                all_goals repeat (first | rw [if_neg (by omega)] | rw [if_pos (by omega)] | rw [if_pos (by assumption)] | rw [if_neg (by assumption)] | rw [if_neg (ne_true_of_eq_false (by assumption))] | rw [if_pos (Or.inl (by assumption))] | rw [if_pos (Or.inr (by assumption))] | rw [if_neg (fun y => Or.elim y (fun z => z (by assumption)) (fun z => Bool.false_ne_true (z.symm.trans (by assumption))))])
                all_goals try rw [hold_no h6]
                all_goals try rw [lock_no h6]
                all_goals simp only [nrm, X.den, Env.put, Env.pre, reduceIte, Nat.reduceLT, Nat.reduceSub, Nat.reduceAdd, Mem.cds, Frm.cds, endFrame, lca, CD.row, List.headD_cons, eH, app_key, Bool.false_eq_true, Bool.true_eq_false, h6]
                all_goals first | (have e14 : f.slot = -1 := (by omega); simp only [e14]; done) | (have e15 : f.n = 1000000 := (by omega); simp only [e15]; done)
      · simp only [nrm, X.den, Env.put, Env.pre, reduceIte, Nat.reduceLT, Nat.reduceSub, Nat.reduceAdd, cell_s1, cell_s2, cell_s3, cell_s4, cell_s5, cell_int, a1, a2, len_keys, Mem.cds, lca, Bool.not_eq_true', Bool.not_eq_false'] at h3
        refine den_ite (fun h4 => ?_) (fun h4 => ?_)
        · simp only [nrm, X.den, Env.put, Env.pre, reduceIte, Nat.reduceLT, Nat.reduceSub, Nat.reduceAdd, cell_s1, cell_s2, cell_s3, cell_s4, cell_s5, cell_int, a1, a2, len_keys, Mem.cds, lca, Bool.not_eq_true', Bool.not_eq_false'] at h4
          refine den_ite (fun h5 => ?_) (fun h5 => ?_)
          · simp only [nrm, X.den, Env.put, Env.pre, reduceIte, Nat.reduceLT, Nat.reduceSub, Nat.reduceAdd, cell_s1, cell_s2, cell_s3, cell_s4, cell_s5, cell_int, a1, a2, len_keys, Mem.cds, lca, Bool.not_eq_true', Bool.not_eq_false'] at h5
            refine den_ret ?_
            first | (exfalso; omega) | skip
            all_goals unfold lookStep
            all_goals repeat (first | rw [if_neg (by omega)] | rw [if_pos (by omega)] | rw [if_pos (by assumption)] | rw [if_neg (by assumption)] | rw [if_neg (ne_true_of_eq_false (by assumption))] | rw [if_pos (Or.inl (by assumption))] | rw [if_pos (Or.inr (by assumption))] | rw [if_neg (fun y => Or.elim y (fun z => z (by assumption)) (fun z => Bool.false_ne_true (z.symm.trans (by assumption))))])
            all_goals simp only [nrm, X.den, Env.put, Env.pre, reduceIte, Nat.reduceLT, Nat.reduceSub, Nat.reduceAdd, Mem.cds, Frm.cds, endFrame, lca, CD.row, List.headD_cons, eH, app_key, Bool.false_eq_true, Bool.true_eq_false]
            all_goals first | (have e14 : f.slot = -1 := (by omega); simp only [e14]; done) | (have e15 : f.n = 1000000 := (by omega); simp only [e15]; done)
          · simp only [nrm, X.den, Env.put, Env.pre, reduceIte, Nat.reduceLT, Nat.reduceSub, Nat.reduceAdd, cell_s1, cell_s2, cell_s3, cell_s4, cell_s5, cell_int, a1, a2, len_keys, Mem.cds, lca, Bool.not_eq_true', Bool.not_eq_false'] at h5
            refine den_calle d167 (put m f.slot).cds rfl (by simp only [nrm, X.den, Env.put, Env.pre, reduceIte, Nat.reduceLT, Nat.reduceSub, Nat.reduceAdd]; exact pi167 hm (by omega) (by omega)) (by simp only [nrm, X.den, Env.put, Env.pre, reduceIte, Nat.reduceLT, Nat.reduceSub, Nat.reduceAdd, fs167]) ?_
            refine den_ret ?_
            first | (exfalso; omega) | skip
            all_goals unfold lookStep
            all_goals repeat (first | rw [if_neg (by omega)] | rw [if_pos (by omega)] | rw [if_pos (by assumption)] | rw [if_neg (by assumption)] | rw [if_neg (ne_true_of_eq_false (by assumption))] | rw [if_pos (Or.inl (by assumption))] | rw [if_pos (Or.inr (by assumption))] | rw [if_neg (fun y => Or.elim y (fun z => z (by assumption)) (fun z => Bool.false_ne_true (z.symm.trans (by assumption))))])
            all_goals simp only [nrm, X.den, Env.put, Env.pre, reduceIte, Nat.reduceLT, Nat.reduceSub, Nat.reduceAdd, Mem.cds, Frm.cds, endFrame, lca, CD.row, List.headD_cons, eH, app_key, Bool.false_eq_true, Bool.true_eq_false]
            all_goals first | (have e14 : f.slot = -1 := (by omega); simp only [e14]; done) | (have e15 : f.n = 1000000 := (by omega); simp only [e15]; done)
        · simp only [nrm, X.den, Env.put, Env.pre, reduceIte, Nat.reduceLT, Nat.reduceSub, Nat.reduceAdd, cell_s1, cell_s2, cell_s3, cell_s4, cell_s5, cell_int, a1, a2, len_keys, Mem.cds, lca, Bool.not_eq_true', Bool.not_eq_false'] at h4
          refine den_ite (fun h5 => ?_) (fun h5 => ?_)
          · simp only [nrm, X.den, Env.put, Env.pre, reduceIte, Nat.reduceLT, Nat.reduceSub, Nat.reduceAdd, cell_s1, cell_s2, cell_s3, cell_s4, cell_s5, cell_int, a1, a2, len_keys, Mem.cds, lca, Bool.not_eq_true', Bool.not_eq_false'] at h5
            refine den_ite (fun h6 => ?_) (fun h6 => ?_)
            · simp only [nrm, X.den, Env.put, Env.pre, reduceIte, Nat.reduceLT, Nat.reduceSub, Nat.reduceAdd, cell_s1, cell_s2, cell_s3, cell_s4, cell_s5, cell_int, a1, a2, len_keys, Mem.cds, lca, Bool.not_eq_true', Bool.not_eq_false'] at h6
              refine den_ret ?_
              first | (exfalso; omega) | skip
              all_goals unfold lookStep
              all_goals repeat (first | rw [if_neg (by omega)] | rw [if_pos (by omega)] | rw [if_pos (by assumption)] | rw [if_neg (by assumption)] | rw [if_neg (ne_true_of_eq_false (by assumption))] | rw [if_pos (Or.inl (by assumption))] | rw [if_pos (Or.inr (by assumption))] | rw [if_neg (fun y => Or.elim y (fun z => z (by assumption)) (fun z => Bool.false_ne_true (z.symm.trans (by assumption))))])
              all_goals simp only [nrm, X.den, Env.put, Env.pre, reduceIte, Nat.reduceLT, Nat.reduceSub, Nat.reduceAdd, Mem.cds, Frm.cds, endFrame, lca, CD.row, List.headD_cons, eH, app_key, Bool.false_eq_true, Bool.true_eq_false]
              all_goals first | (have e14 : f.slot = -1 := (by omega); simp only [e14]; done) | (have e15 : f.n = 1000000 := (by omega); simp only [e15]; done)
            · simp only [nrm, X.den, Env.put, Env.pre, reduceIte, Nat.reduceLT, Nat.reduceSub, Nat.reduceAdd, cell_s1, cell_s2, cell_s3, cell_s4, cell_s5, cell_int, a1, a2, len_keys, Mem.cds, lca, Bool.not_eq_true', Bool.not_eq_false'] at h6
              refine den_calle d167 (put m f.slot).cds rfl (by simp only [nrm, X.den, Env.put, Env.pre, reduceIte, Nat.reduceLT, Nat.reduceSub, Nat.reduceAdd]; exact pi167 hm (by omega) (by omega)) (by simp only [nrm, X.den, Env.put, Env.pre, reduceIte, Nat.reduceLT, Nat.reduceSub, Nat.reduceAdd, fs167]) ?_
              refine den_calle d44 (endFrame { f with slot := (-1) } 5).cds rfl trivial (by simp only [nrm, X.den, Env.put, Env.pre, reduceIte, Nat.reduceLT, Nat.reduceSub, Nat.reduceAdd, Frm.cds, lca]; exact fs44 { f with slot := (-1) } 5) ?_
              refine den_ret ?_
              first | (exfalso; omega) | skip
              all_goals unfold lookStep
              all_goals repeat (first | rw [if_neg (by omega)] | rw [if_pos (by omega)] | rw [if_pos (by assumption)] | rw [if_neg (by assumption)] | rw [if_neg (ne_true_of_eq_false (by assumption))] | rw [if_pos (Or.inl (by assumption))] | rw [if_pos (Or.inr (by assumption))] | rw [if_neg (fun y => Or.elim y (fun z => z (by assumption)) (fun z => Bool.false_ne_true (z.symm.trans (by assumption))))])
              all_goals simp only [nrm, X.den, Env.put, Env.pre, reduceIte, Nat.reduceLT, Nat.reduceSub, Nat.reduceAdd, Mem.cds, Frm.cds, endFrame, lca, CD.row, List.headD_cons, eH, app_key, Bool.false_eq_true, Bool.true_eq_false]
              all_goals first | (have e14 : f.slot = -1 := (by omega); simp only [e14]; done) | (have e15 : f.n = 1000000 := (by omega); simp only [e15]; done)
          · simp only [nrm, X.den, Env.put, Env.pre, reduceIte, Nat.reduceLT, Nat.reduceSub, Nat.reduceAdd, cell_s1, cell_s2, cell_s3, cell_s4, cell_s5, cell_int, a1, a2, len_keys, Mem.cds, lca, Bool.not_eq_true', Bool.not_eq_false'] at h5
            refine den_ite (fun h6 => ?_) (fun h6 => ?_)
            · simp only [nrm, X.den, Env.put, Env.pre, reduceIte, Nat.reduceLT, Nat.reduceSub, Nat.reduceAdd, cell_s1, cell_s2, cell_s3, cell_s4, cell_s5, cell_int, a1, a2, len_keys, Mem.cds, lca, Bool.not_eq_true', Bool.not_eq_false'] at h6
              refine den_ret ?_
              first | (exfalso; omega) | skip
              all_goals unfold lookStep
              all_goals repeat (first | rw [if_neg (by omega)] | rw [if_pos (by omega)] | rw [if_pos (by assumption)] | rw [if_neg (by assumption)] | rw [if_neg (ne_true_of_eq_false (by assumption))] | rw [if_pos (Or.inl (by assumption))] | rw [if_pos (Or.inr (by assumption))] | rw [if_neg (fun y => Or.elim y (fun z => z (by assumption)) (fun z => Bool.false_ne_true (z.symm.trans (by assumption))))])
              all_goals simp only [nrm, X.den, Env.put, Env.pre, reduceIte, Nat.reduceLT, Nat.reduceSub, Nat.reduceAdd, Mem.cds, Frm.cds, endFrame, lca, CD.row, List.headD_cons, eH, app_key, Bool.false_eq_true, Bool.true_eq_false]
              all_goals first | (have e14 : f.slot = -1 := (by omega); simp only [e14]; done) | (have e15 : f.n = 1000000 := (by omega); simp only [e15]; done)
            · simp only [nrm, X.den, Env.put, Env.pre, reduceIte, Nat.reduceLT, Nat.reduceSub, Nat.reduceAdd, cell_s1, cell_s2, cell_s3, cell_s4, cell_s5, cell_int, a1, a2, len_keys, Mem.cds, lca, Bool.not_eq_true', Bool.not_eq_false'] at h6
              refine den_ite (fun h7 => ?_) (fun h7 => ?_)
              · simp only [nrm, X.den, Env.put, Env.pre, reduceIte, Nat.reduceLT, Nat.reduceSub, Nat.reduceAdd, cell_s1, cell_s2, cell_s3, cell_s4, cell_s5, cell_int, a1, a2, len_keys, Mem.cds, lca, Bool.not_eq_true', Bool.not_eq_false'] at h7
                refine den_le (by simp only [nrm, X.den, Env.put, Env.pre, reduceIte, Nat.reduceLT, Nat.reduceSub, Nat.reduceAdd, len_slots, len_ints, len_keys, cell_s1, cell_s2, cell_s3, cell_s4, cell_s5, cell_int, a1, a2]; omega) ?_
                refine den_lt (by simp only [nrm, X.den, Env.put, Env.pre, reduceIte, Nat.reduceLT, Nat.reduceSub, Nat.reduceAdd, len_slots, len_ints, len_keys, cell_s1, cell_s2, cell_s3, cell_s4, cell_s5, cell_int, a1, a2]; omega) ?_
                refine den_ret ?_
                first | (exfalso; omega) | skip
                all_goals unfold lookStep
                all_goals repeat (first | rw [if_neg (by omega)] | rw [if_pos (by omega)] | rw [if_pos (by assumption)] | rw [if_neg (by assumption)] | rw [if_neg (ne_true_of_eq_false (by assumption))] | rw [if_pos (Or.inl (by assumption))] | rw [if_pos (Or.inr (by assumption))] | rw [if_neg (fun y => Or.elim y (fun z => z (by assumption)) (fun z => Bool.false_ne_true (z.symm.trans (by assumption))))])
                all_goals simp only [nrm, X.den, Env.put, Env.pre, reduceIte, Nat.reduceLT, Nat.reduceSub, Nat.reduceAdd, Mem.cds, Frm.cds, endFrame, lca, CD.row, List.headD_cons, eH, app_key, Bool.false_eq_true, Bool.true_eq_false]
                all_goals first | (have e14 : f.slot = -1 := (by omega); simp only [e14]; done) | (have e15 : f.n = 1000000 := (by omega); simp only [e15]; done)
              · simp only [nrm, X.den, Env.put, Env.pre, reduceIte, Nat.reduceLT, Nat.reduceSub, Nat.reduceAdd, cell_s1, cell_s2, cell_s3, cell_s4, cell_s5, cell_int, a1, a2, len_keys, Mem.cds, lca, Bool.not_eq_true', Bool.not_eq_false'] at h7
                refine den_ite (fun h8 => ?_) (fun h8 => ?_)
                · simp only [nrm, X.den, Env.put, Env.pre, reduceIte, Nat.reduceLT, Nat.reduceSub, Nat.reduceAdd, cell_s1, cell_s2, cell_s3, cell_s4, cell_s5, cell_int, a1, a2, len_keys, Mem.cds, lca, Bool.not_eq_true', Bool.not_eq_false'] at h8
                  refine den_fit (by simp only [nrm, X.den, Env.put, Env.pre, reduceIte, Nat.reduceLT, Nat.reduceSub, Nat.reduceAdd, len_slots, len_ints, len_keys, cell_s1, cell_s2, cell_s3, cell_s4, cell_s5, cell_int, a1, a2]; omega) ?_
                  refine den_ite (fun h9 => ?_) (fun h9 => ?_)
                  · simp only [nrm, X.den, Env.put, Env.pre, reduceIte, Nat.reduceLT, Nat.reduceSub, Nat.reduceAdd, cell_s1, cell_s2, cell_s3, cell_s4, cell_s5, cell_int, a1, a2, len_keys, Mem.cds, lca, Bool.not_eq_true', Bool.not_eq_false'] at h9
                    refine den_calle d44 (endFrame f 5).cds rfl trivial (by simp only [nrm, X.den, Env.put, Env.pre, reduceIte, Nat.reduceLT, Nat.reduceSub, Nat.reduceAdd, Frm.cds, lca]; exact fs44 f 5) ?_
                    refine den_ret ?_
                    first | (exfalso; omega) | skip
                    all_goals unfold lookStep
                    all_goals repeat (first | rw [if_neg (by omega)] | rw [if_pos (by omega)] | rw [if_pos (by assumption)] | rw [if_neg (by assumption)] | rw [if_neg (ne_true_of_eq_false (by assumption))] | rw [if_pos (Or.inl (by assumption))] | rw [if_pos (Or.inr (by assumption))] | rw [if_neg (fun y => Or.elim y (fun z => z (by assumption)) (fun z => Bool.false_ne_true (z.symm.trans (by assumption))))])
                    all_goals simp only [nrm, X.den, Env.put, Env.pre, reduceIte, Nat.reduceLT, Nat.reduceSub, Nat.reduceAdd, Mem.cds, Frm.cds, endFrame, lca, CD.row, List.headD_cons, eH, app_key, Bool.false_eq_true, Bool.true_eq_false]
                    all_goals first | (have e14 : f.slot = -1 := (by omega); simp only [e14]; done) | (have e15 : f.n = 1000000 := (by omega); simp only [e15]; done)
                  · simp only [nrm, X.den, Env.put, Env.pre, reduceIte, Nat.reduceLT, Nat.reduceSub, Nat.reduceAdd, cell_s1, cell_s2, cell_s3, cell_s4, cell_s5, cell_int, a1, a2, len_keys, Mem.cds, lca, Bool.not_eq_true', Bool.not_eq_false'] at h9
                    refine den_ite (fun h10 => ?_) (fun h10 => ?_)
                    · simp only [nrm, X.den, Env.put, Env.pre, reduceIte, Nat.reduceLT, Nat.reduceSub, Nat.reduceAdd, cell_s1, cell_s2, cell_s3, cell_s4, cell_s5, cell_int, a1, a2, len_keys, Mem.cds, lca, Bool.not_eq_true', Bool.not_eq_false'] at h10
                      refine den_ret ?_
                      first | (exfalso; omega) | skip
                      all_goals unfold lookStep
                      all_goals repeat (first | rw [if_neg (by omega)] | rw [if_pos (by omega)] | rw [if_pos (by assumption)] | rw [if_neg (by assumption)] | rw [if_neg (ne_true_of_eq_false (by assumption))] | rw [if_pos (Or.inl (by assumption))] | rw [if_pos (Or.inr (by assumption))] | rw [if_neg (fun y => Or.elim y (fun z => z (by assumption)) (fun z => Bool.false_ne_true (z.symm.trans (by assumption))))])
                      all_goals simp only [nrm, X.den, Env.put, Env.pre, reduceIte, Nat.reduceLT, Nat.reduceSub, Nat.reduceAdd, Mem.cds, Frm.cds, endFrame, lca, CD.row, List.headD_cons, eH, app_key, Bool.false_eq_true, Bool.true_eq_false]
                      all_goals first | (have e14 : f.slot = -1 := (by omega); simp only [e14]; done) | (have e15 : f.n = 1000000 := (by omega); simp only [e15]; done)
                    · simp only [nrm, X.den, Env.put, Env.pre, reduceIte, Nat.reduceLT, Nat.reduceSub, Nat.reduceAdd, cell_s1, cell_s2, cell_s3, cell_s4, cell_s5, cell_int, a1, a2, len_keys, Mem.cds, lca, Bool.not_eq_true', Bool.not_eq_false'] at h10
                      refine den_fit (by simp only [nrm, X.den, Env.put, Env.pre, reduceIte, Nat.reduceLT, Nat.reduceSub, Nat.reduceAdd, len_slots, len_ints, len_keys, cell_s1, cell_s2, cell_s3, cell_s4, cell_s5, cell_int, a1, a2]; omega) ?_
                      refine den_le (by simp only [nrm, X.den, Env.put, Env.pre, reduceIte, Nat.reduceLT, Nat.reduceSub, Nat.reduceAdd, len_slots, len_ints, len_keys, cell_s1, cell_s2, cell_s3, cell_s4, cell_s5, cell_int, a1, a2]; omega) ?_
                      refine den_lt (by simp only [nrm, X.den, Env.put, Env.pre, reduceIte, Nat.reduceLT, Nat.reduceSub, Nat.reduceAdd, len_slots, len_ints, len_keys, cell_s1, cell_s2, cell_s3, cell_s4, cell_s5, cell_int, a1, a2]; omega) ?_
                      refine den_ite (fun h11 => ?_) (fun h11 => ?_)
                      · simp only [nrm, X.den, Env.put, Env.pre, reduceIte, Nat.reduceLT, Nat.reduceSub, Nat.reduceAdd, cell_s1, cell_s2, cell_s3, cell_s4, cell_s5, cell_int, a1, a2, len_keys, Mem.cds, lca, Bool.not_eq_true', Bool.not_eq_false'] at h11
                        replace h11 := key_t h11
                        refine den_ret ?_
                        first | (exfalso; omega) | skip
                        all_goals unfold lookStep
                        all_goals repeat (first | rw [if_neg (by omega)] | rw [if_pos (by omega)] | rw [if_pos (by assumption)] | rw [if_neg (by assumption)] | rw [if_neg (ne_true_of_eq_false (by assumption))] | rw [if_pos (Or.inl (by assumption))] | rw [if_pos (Or.inr (by assumption))] | rw [if_neg (fun y => Or.elim y (fun z => z (by assumption)) (fun z => Bool.false_ne_true (z.symm.trans (by assumption))))])
                        all_goals simp only [nrm, X.den, Env.put, Env.pre, reduceIte, Nat.reduceLT, Nat.reduceSub, Nat.reduceAdd, Mem.cds, Frm.cds, endFrame, lca, CD.row, List.headD_cons, eH, app_key, Bool.false_eq_true, Bool.true_eq_false]
                        all_goals first | (have e14 : f.slot = -1 := (by omega); simp only [e14]; done) | (have e15 : f.n = 1000000 := (by omega); simp only [e15]; done)
                      · simp only [nrm, X.den, Env.put, Env.pre, reduceIte, Nat.reduceLT, Nat.reduceSub, Nat.reduceAdd, cell_s1, cell_s2, cell_s3, cell_s4, cell_s5, cell_int, a1, a2, len_keys, Mem.cds, lca, Bool.not_eq_true', Bool.not_eq_false'] at h11
                        replace h11 := key_f h11
                        refine den_ret ?_
                        first | (exfalso; omega) | skip
                        all_goals unfold lookStep
                        all_goals repeat (first | rw [if_neg (by omega)] | rw [if_pos (by omega)] | rw [if_pos (by assumption)] | rw [if_neg (by assumption)] | rw [if_neg (ne_true_of_eq_false (by assumption))] | rw [if_pos (Or.inl (by assumption))] | rw [if_pos (Or.inr (by assumption))] | rw [if_neg (fun y => Or.elim y (fun z => z (by assumption)) (fun z => Bool.false_ne_true (z.symm.trans (by assumption))))])
                        all_goals simp only [nrm, X.den, Env.put, Env.pre, reduceIte, Nat.reduceLT, Nat.reduceSub, Nat.reduceAdd, Mem.cds, Frm.cds, endFrame, lca, CD.row, List.headD_cons, eH, app_key, Bool.false_eq_true, Bool.true_eq_false]
                        all_goals first | (have e14 : f.slot = -1 := (by omega); simp only [e14]; done) | (have e15 : f.n = 1000000 := (by omega); simp only [e15]; done)
                · simp only [nrm, X.den, Env.put, Env.pre, reduceIte, Nat.reduceLT, Nat.reduceSub, Nat.reduceAdd, cell_s1, cell_s2, cell_s3, cell_s4, cell_s5, cell_int, a1, a2, len_keys, Mem.cds, lca, Bool.not_eq_true', Bool.not_eq_false'] at h8
                  refine den_ret ?_
                  first | (exfalso; omega) | skip
                  all_goals unfold lookStep
                  all_goals repeat (first | rw [if_neg (by omega)] | rw [if_pos (by omega)] | rw [if_pos (by assumption)] | rw [if_neg (by assumption)] | rw [if_neg (ne_true_of_eq_false (by assumption))] | rw [if_pos (Or.inl (by assumption))] | rw [if_pos (Or.inr (by assumption))] | rw [if_neg (fun y => Or.elim y (fun z => z (by assumption)) (fun z => Bool.false_ne_true (z.symm.trans (by assumption))))])
                  all_goals simp only [nrm, X.den, Env.put, Env.pre, reduceIte, Nat.reduceLT, Nat.reduceSub, Nat.reduceAdd, Mem.cds, Frm.cds, endFrame, lca, CD.row, List.headD_cons, eH, app_key, Bool.false_eq_true, Bool.true_eq_false]
                  all_goals first | (have e14 : f.slot = -1 := (by omega); simp only [e14]; done) | (have e15 : f.n = 1000000 := (by omega); simp only [e15]; done)
end Go.Proofs.Ytpmamacjepcdmaa
