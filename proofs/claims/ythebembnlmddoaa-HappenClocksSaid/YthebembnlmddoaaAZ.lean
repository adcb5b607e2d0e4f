import Derived.Test.YthebembnlmddoaaAY
import Derived.Test.YthebembnlmddoaaAM
namespace Go.Proofs.Ythebembnlmddoaa
open Go.RowKit
set_option maxHeartbeats 8000000
set_option maxRecDepth 100000
set_option linter.unusedSimpArgs false
set_option linter.unusedVariables false

theorem run_neq37 (e f : Ev) (w : World) : (binOp .neq 37 (.agg #[.int .i64 e.p, .int .i64 e.q, .int .i64 e.r]) (.agg #[.int .i64 f.p, .int .i64 f.q, .int .i64 f.r])).run Try.prog w = .ok (.bool (!spB e f)) w := by
  rw [run_neq_struct, eq37 9998]
  simp only [Result.andThen_ok]
  congr 2
  unfold spB
  by_cases e1 : e.p = f.p <;> by_cases e2 : e.q = f.q <;> by_cases e3 : e.r = f.r <;> simp [e1, e2, e3]
theorem conflictR_calls (x y : Ev) (w : World) : Calls Try.prog 25 #[x.acc, y.acc] w fun e w' => e = .returned (.bool (cfB x y)) ∧ Below w.heap.size w w' := by
  obtain ⟨W2, hW2⟩ : ∃ W2, (w.alloc (.cells x.accs 39)).alloc (.cells y.accs 39) = W2 := ⟨_, rfl⟩
  have hb2 : Below w.heap.size w W2 := by rw [← hW2]; exact ((Below.refl _ w).alloc (Nat.le_refl _) _).alloc (by simp) _
  have hx2 : W2.heap[w.heap.size]? = some (.cells x.accs 39 (0, 0)) := by
    rw [← hW2, Below.heap_alloc _ _ _ (by simp)]; exact Go.heap_alloc_new w _
  have hy2 : W2.heap[w.heap.size + 1]? = some (.cells y.accs 39 (0, 0)) := by
    rw [← hW2]
    have := Go.heap_alloc_new (w.alloc (.cells x.accs 39)) (.cells y.accs 39)
    simpa using this
  obtain ⟨bx, hbx⟩ : ∃ bx, w.heap.size = bx := ⟨_, rfl⟩
  have HBX := Lib.hid hbx
  have HW := Lib.hid hW2
  have HB := Lib.hid hb2
  rw [hbx] at hx2 hy2
  clear hbx hW2 hb2
  have p0 : W2.cell? ⟨bx, 0, none⟩ = some (.int .i64 x.t) := by rw [cell_of_row _ _ _ _ _ _ hx2]; rfl
  have p1 : W2.cell? ⟨bx, 1, none⟩ = some (.int .i64 x.p) := by rw [cell_of_row _ _ _ _ _ _ hx2]; rfl
  have p2 : W2.cell? ⟨bx, 2, none⟩ = some (.int .i64 x.q) := by rw [cell_of_row _ _ _ _ _ _ hx2]; rfl
  have p3 : W2.cell? ⟨bx, 3, none⟩ = some (.int .i64 x.r) := by rw [cell_of_row _ _ _ _ _ _ hx2]; rfl
  have p4 : W2.cell? ⟨bx, 4, none⟩ = some (.int .i64 x.m) := by rw [cell_of_row _ _ _ _ _ _ hx2]; rfl
  have q0 : W2.cell? ⟨bx + 1, 0, none⟩ = some (.int .i64 y.t) := by rw [cell_of_row _ _ _ _ _ _ hy2]; rfl
  have q1 : W2.cell? ⟨bx + 1, 1, none⟩ = some (.int .i64 y.p) := by rw [cell_of_row _ _ _ _ _ _ hy2]; rfl
  have q2 : W2.cell? ⟨bx + 1, 2, none⟩ = some (.int .i64 y.q) := by rw [cell_of_row _ _ _ _ _ _ hy2]; rfl
  have q3 : W2.cell? ⟨bx + 1, 3, none⟩ = some (.int .i64 y.r) := by rw [cell_of_row _ _ _ _ _ _ hy2]; rfl
  have q4 : W2.cell? ⟨bx + 1, 4, none⟩ = some (.int .i64 y.m) := by rw [cell_of_row _ _ _ _ _ _ hy2]; rfl
  have heq := fun w => run_neq37 x y w
  clear hx2 hy2
  go_enter Try.func25, Try.ntmps25
  go_upto_region 1 with fail
  rw [HW.out, HBX.out]
  cases hsp : spB x y with
  | false =>
    rw [hsp] at heq
    have hr : cfB x y = false := by
      unfold cfB plB
      rw [hsp]
      simp []
    have HV := Lib.hid hr
    clear hr hsp 
    go_wp2_with fail
    go_ret
    exact ⟨ret_bool HV.out.symm, HB.out⟩
  | true =>
    rw [hsp] at heq
    by_cases Pt : x.t = y.t
    · have hr : cfB x y = false := by
        unfold cfB plB
        rw [hsp]
        simp [Pt]
      have HV := Lib.hid hr
      have gt : (x.t == y.t) = true := by simpa using Pt
      clear hr hsp Pt
      go_wp2_with fail
      go_ret
      exact ⟨ret_bool HV.out.symm, HB.out⟩
    · by_cases Pa1 : x.m = 1
      · by_cases Pb1 : y.m = 1
        · have hr : cfB x y = false := by
            unfold cfB plB
            rw [hsp]
            simp [Pt, Pa1, Pb1]
          have HV := Lib.hid hr
          have gt : (x.t == y.t) = false := by simpa using Pt
          have ga1 : (x.m == 1) = true := by simpa using Pa1
          have gb1 : (y.m == 1) = true := by simpa using Pb1
          clear hr hsp Pt Pa1 Pb1
          go_wp2_with fail
          go_ret
          exact ⟨ret_bool HV.out.symm, HB.out⟩
        · have hr : cfB x y = true := by
            unfold cfB plB
            rw [hsp]
            simp [Pt, Pa1, Pb1]
          have HV := Lib.hid hr
          have gt : (x.t == y.t) = false := by simpa using Pt
          have ga1 : (x.m == 1) = true := by simpa using Pa1
          have gb1 : (y.m == 1) = false := by simpa using Pb1
          clear hr hsp Pt Pa1 Pb1
          go_wp2_with fail
          go_ret
          exact ⟨ret_bool HV.out.symm, HB.out⟩
      · by_cases Pa2 : x.m = 2
        · have hr : cfB x y = true := by
            unfold cfB plB
            rw [hsp]
            simp [Pt, Pa1, Pa2]
          have HV := Lib.hid hr
          have gt : (x.t == y.t) = false := by simpa using Pt
          have ga1 : (x.m == 1) = false := by simpa using Pa1
          have ga2 : (x.m == 2) = true := by simpa using Pa2
          clear hr hsp Pt Pa1 Pa2
          go_wp2_with fail
          go_ret
          exact ⟨ret_bool HV.out.symm, HB.out⟩
        · by_cases Pb1 : y.m = 1
          · have hr : cfB x y = true := by
              unfold cfB plB
              rw [hsp]
              simp [Pt, Pa1, Pa2, Pb1]
            have HV := Lib.hid hr
            have gt : (x.t == y.t) = false := by simpa using Pt
            have ga1 : (x.m == 1) = false := by simpa using Pa1
            have ga2 : (x.m == 2) = false := by simpa using Pa2
            have gb1 : (y.m == 1) = true := by simpa using Pb1
            clear hr hsp Pt Pa1 Pa2 Pb1
            go_wp2_with fail
            go_ret
            exact ⟨ret_bool HV.out.symm, HB.out⟩
          · by_cases Pb2 : y.m = 2
            · have hr : cfB x y = true := by
                unfold cfB plB
                rw [hsp]
                simp [Pt, Pa1, Pa2, Pb1, Pb2]
              have HV := Lib.hid hr
              have gt : (x.t == y.t) = false := by simpa using Pt
              have ga1 : (x.m == 1) = false := by simpa using Pa1
              have ga2 : (x.m == 2) = false := by simpa using Pa2
              have gb1 : (y.m == 1) = false := by simpa using Pb1
              have gb2 : (y.m == 2) = true := by simpa using Pb2
              clear hr hsp Pt Pa1 Pa2 Pb1 Pb2
              go_wp2_with fail
              go_ret
              exact ⟨ret_bool HV.out.symm, HB.out⟩
            · have hr : cfB x y = false := by
                unfold cfB plB
                rw [hsp]
                simp [Pt, Pa1, Pa2, Pb1, Pb2]
              have HV := Lib.hid hr
              have gt : (x.t == y.t) = false := by simpa using Pt
              have ga1 : (x.m == 1) = false := by simpa using Pa1
              have ga2 : (x.m == 2) = false := by simpa using Pa2
              have gb1 : (y.m == 1) = false := by simpa using Pb1
              have gb2 : (y.m == 2) = false := by simpa using Pb2
              clear hr hsp Pt Pa1 Pa2 Pb1 Pb2
              go_wp2_with fail
              go_ret
              exact ⟨ret_bool HV.out.symm, HB.out⟩
end Go.Proofs.Ythebembnlmddoaa
