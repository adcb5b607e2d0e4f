import Derived.Test.YthebembnlmddoaaAK
import Derived.Test.YthebembnlmddoaaAL
namespace Go.Proofs.Ythebembnlmddoaa
open Go.RowKit
set_option maxHeartbeats 16000000
set_option maxRecDepth 100000
set_option linter.unusedSimpArgs false
set_option linter.unusedVariables false

theorem eq29 (d : Nat) (a0 a1 b0 b1 : Int) (w : World) : (Op.equalIn (d + 2) 29 (.agg #[.int .i64 a0, .int .i64 a1]) (.agg #[.int .i64 b0, .int .i64 b1])).run Try.prog w = .ok (a0 == b0 && a1 == b1) w := by
  have hag : ∀ w, (isAgg 3).run Try.prog w = .ok false w := by
    intro w
    unfold isAgg
    rw [Sem.run_bind, run_underlying Try.underlying3 w]
    rfl
  rw [run_equalIn_struct (P := Try.prog) w (d + 1) 29 _ _ Try.underlying29 (by kernel_rfl)]
  have hf : (Try.prog.fieldsOf 29).toList.map (fun f => (f.name, f.type, f.offset)) = [("First", 3, 0), ("Second", 3, 1)] := by kernel_rfl
  generalize (Try.prog.fieldsOf 29).toList = fs at hf ⊢
  have hl : fs.length = 2 := by have := congrArg List.length hf; simpa using this
  match fs, hl with
  | [f0, f1], _ =>
    simp at hf
    obtain ⟨⟨n0, t0, o0⟩, ⟨n1, t1, o1⟩⟩ := hf
    simp only [Op.eqFields, n0, n1, t0, t1, o0, o1]
    simp [part, hag, run_equalIn_int _ _ 3 .i64 .i64 _ _ Try.underlying3]
    by_cases e0 : a0 = b0 <;> by_cases e1 : a1 = b1 <;> simp [e0, e1]
theorem run_eq29 (x y : Nat × Nat) (w : World) : (binOp .eql 29 (.agg #[.int .i64 (x.1 : Int), .int .i64 (x.2 : Int)]) (.agg #[.int .i64 (y.1 : Int), .int .i64 (y.2 : Int)])).run Try.prog w = .ok (.bool (decide (x = y))) w := by
  rw [run_eql_struct, eq29 9998]
  simp only [Result.andThen_ok]
  congr 2
  obtain ⟨a, b⟩ := x
  obtain ⟨c, d⟩ := y
  rw [Bool.eq_iff_iff]
  simp only [Bool.and_eq_true, beq_iff_eq, decide_eq_true_eq, Prod.mk.injEq]
  omega
/-- slices.Index of races -/
theorem indexR_calls (xs : List (Nat × Nat)) (y : Nat × Nat) (A : Option Addr) (c : Nat) (w : World) (hx : Rd encRC 2 w A xs) :
    Calls Try.prog 52 #[.slice A xs.length c, .agg #[.int .i64 (y.1 : Int), .int .i64 (y.2 : Int)]] w fun e w' => e = .returned (.int .i64 (idxF (fun x => decide (y = x)) xs)) ∧ Below w.heap.size w w' := by
  have hl := hx.small
  obtain ⟨W1, hW1⟩ : ∃ W1, w.alloc (.cells #[.int .i64 (y.1 : Int), .int .i64 (y.2 : Int)] 29) = W1 := ⟨_, rfl⟩
  have hb1 : Below w.heap.size w W1 := by rw [← hW1]; exact (Below.refl _ w).alloc (Nat.le_refl _) _
  have hbx : W1.heap[w.heap.size]? = some (.cells #[.int .i64 (y.1 : Int), .int .i64 (y.2 : Int)] 29 (0, 0)) := by rw [← hW1]; exact Go.heap_alloc_new w _
  have HX := Lib.hid (And.intro hx (And.intro hb1 hbx))
  have HW := Lib.hid hW1
  clear hx hb1 hbx hW1
  obtain ⟨bx, hbx⟩ : ∃ bx, w.heap.size = bx := ⟨_, rfl⟩
  have HB := Lib.hid hbx
  rw [hbx] at HX
  clear hbx
  go_enter Try.func52, Try.ntmps52
  go_upto_region 1 with fail
  rw [HW.out, HB.out]
  go_wp2_with fail
  go_loopg [4, 5, 8, 9, 10, 11, 12, 13, 14, 15, 16, 17, 18] xs.length (fun gk v4 v5 v8 v9 v10 v11 v12 v13 v14 v15 v16 v17 v18 wr => ∃ k : Nat, k + gk = xs.length ∧ v8 = .int .i64 (k : Int) ∧ v4 = .int .i64 0 ∧ (∀ j (h : j < k) (h' : j < xs.length), decide (y = xs[j]) = false) ∧ Below bx w wr ∧ wr.heap[bx]? = some (.cells #[.int .i64 (y.1 : Int), .int .i64 (y.2 : Int)] 29 (0, 0)))
  case atStart => exact ⟨0, by omega, rfl, rfl, fun j hj => by omega, HX.out.2⟩
  case round =>
    obtain ⟨k, hk, rfl, rfl, hall, hbl, hbx⟩ := hrel
    by_cases hlt : k < xs.length
    · have hd : decide (k < xs.length) = true := decide_eq_true hlt
      obtain ⟨a, rfl, hca⟩ := (HX.out.1.below (by rw [HB.out]; exact hbl)).cell k hlt
      have c0 := hca 0 _ rfl
      have c1 := hca 1 _ rfl
      rw [Nat.add_zero] at c0
      rw [add_field _ _ _ (by decide)] at c1
      have y0 := cell_of_row _ bx 0 _ _ _ hbx
      have y1 := cell_of_row _ bx 1 _ _ _ hbx
      simp at y0 y1
      have heq := fun w => run_eq29 y xs[k] w
      have HL := Lib.hid (And.intro hall (And.intro hbl hbx))
      clear hall hbl hbx hca
      by_cases he : y = xs[k]
      · have HE := Lib.hid (decide_eq_true he)
        rw [decide_eq_true he] at heq
        clear he
        generalize hx : xs[k] = x at *
        have HXX := Lib.hid hx
        clear hx
        go_upto_region 4 with fail
        go_quiet (fail)
        go_wp2_with fail
        go_ret
        exact ⟨ret_int (idxF_at _ xs k hlt (by rw [HXX.out]; exact HE.out) (fun j h => HL.out.1 j h (by omega))).symm, by rw [HB.out]; exact drewN_below HL.out.2.1 _⟩
      · have HE := Lib.hid (decide_eq_false he)
        rw [decide_eq_false he] at heq
        clear he
        generalize hx : xs[k] = x at *
        have HXX := Lib.hid hx
        clear hx
        go_upto_region 4 with fail
        go_quiet (fail)
        go_wp2_with fail
        go_roundg (gk - 1)
        case measure => omega
        case rel => exact ⟨k + 1, by omega, by go_num, rfl, fun j hj hj' => by
          by_cases e : j = k
          · subst e; rw [HXX.out]; exact HE.out
          · exact HL.out.1 j (by omega) hj', drewN_below HL.out.2.1 _, HL.out.2.2⟩
    · have hd : decide (k < xs.length) = false := decide_eq_false hlt
      have HL := Lib.hid (And.intro hall hbl)
      clear hall hbl hbx
      go_wp2_with fail
      go_ret
      exact ⟨ret_int (idxF_none _ xs (fun j h => HL.out.1 j (by omega) h)).symm, by rw [HB.out]; exact HL.out.2⟩
theorem containsR_calls (xs : List (Nat × Nat)) (y : Nat × Nat) (A : Option Addr) (c : Nat) (w : World) (hx : Rd encRC 2 w A xs) :
    Calls Try.prog 30 #[.slice A xs.length c, .agg #[.int .i64 (y.1 : Int), .int .i64 (y.2 : Int)]] w fun e w' => e = .returned (.bool (xs.any (fun x => decide (y = x)))) ∧ Below w.heap.size w w' := by
  obtain ⟨W1, hW1⟩ : ∃ W1, w.alloc (.cells #[.int .i64 (y.1 : Int), .int .i64 (y.2 : Int)] 29) = W1 := ⟨_, rfl⟩
  have hb1 : Below w.heap.size w W1 := by rw [← hW1]; exact (Below.refl _ w).alloc (Nat.le_refl _) _
  have hbx : W1.heap[w.heap.size]? = some (.cells #[.int .i64 (y.1 : Int), .int .i64 (y.2 : Int)] 29 (0, 0)) := by rw [← hW1]; exact Go.heap_alloc_new w _
  have y0 := cell_of_row _ w.heap.size 0 _ _ _ hbx
  have y1 := cell_of_row _ w.heap.size 1 _ _ _ hbx
  simp at y0 y1
  have h1 := indexR_calls xs y A c W1 (hx.below hb1)
  have H1 := Lib.hid h1
  have HA := Lib.hid (idxF_any (fun x => decide (y = x)) xs)
  have HB := Lib.hid hb1
  have HW := Lib.hid hW1
  clear h1 hx hb1 hbx hW1
  go_enter Try.func30, Try.ntmps30
  go_upto_region 1 with fail
  rw [HW.out]
  go_wp2_with fail
  (with_reducible refine (H1.out).mono ?_); rintro e w2 ⟨rfl, hb2⟩
  generalize idxF (fun x => decide (y = x)) xs = ix at *
  have ha := HA.out
  have HB2 := Lib.hid (HB.out.trans (hb2.mono HB.out.size))
  clear HA H1 hb2
  go_wp2_with fail
  go_ret
  exact ⟨rfl, HB2.out⟩
end Go.Proofs.Ythebembnlmddoaa
