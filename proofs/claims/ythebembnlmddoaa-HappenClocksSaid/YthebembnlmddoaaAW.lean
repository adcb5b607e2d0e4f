import Derived.Test.YthebembnlmddoaaAV
namespace Go.Proofs.Ythebembnlmddoaa
open Go.RowKit
set_option maxHeartbeats 8000000
set_option maxRecDepth 100000
set_option linter.unusedSimpArgs false
set_option linter.unusedVariables false

def dirR (x y : Ev) : Bool := decide (x.t = y.t) || (decide (x.k = 2) && decide (x.o = y.t)) || (decide (y.k = 3) && decide (y.o = x.t)) || (decide (x.k = 2) && decide (y.k = 3) && decide (x.o = y.o)) || (decide (x.k = 1) && decide (y.k = 1) && spB x y && sgB x && sgB y)
theorem ev_box {W : World} {b : Nat} {e : Ev} {t : TypeId} (h : W.heap[b]? = some (.cells e.cells t (0, 0))) : ∀ j v, (encE e)[j]? = some v → W.cell? ((⟨b, 0, none⟩ : Addr).add j) = some v := fun j v hv => by
  rw [add_at, cell_of_row _ _ _ _ _ _ h]
  simpa using hv
theorem direct_calls (x y : Ev) (w : World) : Calls Try.prog 57 #[x.val, y.val] w fun e w' => e = .returned (.bool (dirR x y)) ∧ Below w.heap.size w w' := by
  obtain ⟨W2, hW2⟩ : ∃ W2, (w.alloc (.cells x.cells 93)).alloc (.cells y.cells 93) = W2 := ⟨_, rfl⟩
  have hb2 : Below w.heap.size w W2 := by rw [← hW2]; exact ((Below.refl _ w).alloc (Nat.le_refl _) _).alloc (by simp) _
  have hx2 : W2.heap[w.heap.size]? = some (.cells x.cells 93 (0, 0)) := by
    rw [← hW2, Below.heap_alloc _ _ _ (by simp)]; exact Go.heap_alloc_new w _
  have hy2 : W2.heap[w.heap.size + 1]? = some (.cells y.cells 93 (0, 0)) := by
    rw [← hW2]
    have := Go.heap_alloc_new (w.alloc (.cells x.cells 93)) (.cells y.cells 93)
    simpa using this
  obtain ⟨bx, hbx⟩ : ∃ bx, w.heap.size = bx := ⟨_, rfl⟩
  have HBX := Lib.hid hbx
  rw [hbx] at hx2 hy2
  clear hbx
  obtain ⟨p0, p1, p2, p3, p4, p5, p6, p7, p8, p9, p10⟩ := ev_eleven (ev_box hx2)
  obtain ⟨q0, q1, q2, q3, q4, q5, q6, q7, q8, q9, q10⟩ := ev_eleven (ev_box hy2)
  have HW := Lib.hid hW2
  have HB := Lib.hid (And.intro hb2 (And.intro hx2 hy2))
  have heq := fun w => run_eq37 x y w
  have heq3 : ∀ w, (binOp .eql 37 (.agg #[.int .i64 x.p, .int .i64 x.q, .int .i64 x.r]) (.agg #[.int .i64 y.p, .int .i64 y.q, .int .i64 y.r])).run Try.prog w = .ok (.bool (spB x y)) w := fun w => run_eq37 x y w
  clear heq hW2 hb2 hx2 hy2
  simp only [Nat.zero_add] at p1 p2 p3 p4 p5 p6 p7 p8 p9 p10 q1 q2 q3 q4 q5 q6 q7 q8 q9 q10
  go_enter Try.func57, Try.ntmps57
  go_upto_region 1 with fail
  rw [HW.out]
  rw [HBX.out]
  by_cases Pc1 : x.t = y.t
  · have hr : dirR x y = true := by
      unfold dirR
      simp [Pc1]
    have HV := Lib.hid hr
    have gc1 : (x.t == y.t) = true := by simpa using Pc1
    clear hr Pc1
    go_wp2_with fail
    go_ret
    exact ⟨ret_bool HV.out.symm, HB.out.1⟩
  · by_cases Pc2 : x.k = 2
    · by_cases Pc3 : x.o = y.t
      · have hr : dirR x y = true := by
          unfold dirR
          simp [Pc1, Pc2, Pc3]
        have HV := Lib.hid hr
        have gc1 : (x.t == y.t) = false := by simpa using Pc1
        have gc2 : (x.k == 2) = true := by simpa using Pc2
        have gc3 : (x.o == y.t) = true := by simpa using Pc3
        clear hr Pc1 Pc2 Pc3
        go_wp2_with fail
        go_ret
        exact ⟨ret_bool HV.out.symm, HB.out.1⟩
      · have Pc7 : ¬ x.k = 1 := by omega
        by_cases Pc4 : y.k = 3
        · by_cases Pc5 : y.o = x.t
          · have hr : dirR x y = true := by
              unfold dirR
              simp [Pc1, Pc2, Pc3, Pc7, Pc4, Pc5]
            have HV := Lib.hid hr
            have gc1 : (x.t == y.t) = false := by simpa using Pc1
            have gc2 : (x.k == 2) = true := by simpa using Pc2
            have gc3 : (x.o == y.t) = false := by simpa using Pc3
            have gc7 : (x.k == 1) = false := by simpa using Pc7
            have gc4 : (y.k == 3) = true := by simpa using Pc4
            have gc5 : (y.o == x.t) = true := by simpa using Pc5
            clear hr Pc1 Pc2 Pc3 Pc7 Pc4 Pc5
            go_wp2_with fail
            go_ret
            exact ⟨ret_bool HV.out.symm, HB.out.1⟩
          · by_cases Pc6 : x.o = y.o
            · have hr : dirR x y = true := by
                unfold dirR
                simp [Pc1, Pc2, Pc3, Pc7, Pc4, Pc5, Pc6]
              have HV := Lib.hid hr
              have gc1 : (x.t == y.t) = false := by simpa using Pc1
              have gc2 : (x.k == 2) = true := by simpa using Pc2
              have gc3 : (x.o == y.t) = false := by simpa using Pc3
              have gc7 : (x.k == 1) = false := by simpa using Pc7
              have gc4 : (y.k == 3) = true := by simpa using Pc4
              have gc5 : (y.o == x.t) = false := by simpa using Pc5
              have gc6 : (x.o == y.o) = true := by simpa using Pc6
              clear hr Pc1 Pc2 Pc3 Pc7 Pc4 Pc5 Pc6
              go_wp2_with fail
              go_ret
              exact ⟨ret_bool HV.out.symm, HB.out.1⟩
            · have hr : dirR x y = false := by
                unfold dirR
                simp [Pc1, Pc2, Pc3, Pc7, Pc4, Pc5, Pc6]
              have HV := Lib.hid hr
              have gc1 : (x.t == y.t) = false := by simpa using Pc1
              have gc2 : (x.k == 2) = true := by simpa using Pc2
              have gc3 : (x.o == y.t) = false := by simpa using Pc3
              have gc7 : (x.k == 1) = false := by simpa using Pc7
              have gc4 : (y.k == 3) = true := by simpa using Pc4
              have gc5 : (y.o == x.t) = false := by simpa using Pc5
              have gc6 : (x.o == y.o) = false := by simpa using Pc6
              clear hr Pc1 Pc2 Pc3 Pc7 Pc4 Pc5 Pc6
              go_wp2_with fail
              go_ret
              exact ⟨ret_bool HV.out.symm, HB.out.1⟩
        · have hr : dirR x y = false := by
            unfold dirR
            simp [Pc1, Pc2, Pc3, Pc7, Pc4]
          have HV := Lib.hid hr
          have gc1 : (x.t == y.t) = false := by simpa using Pc1
          have gc2 : (x.k == 2) = true := by simpa using Pc2
          have gc3 : (x.o == y.t) = false := by simpa using Pc3
          have gc7 : (x.k == 1) = false := by simpa using Pc7
          have gc4 : (y.k == 3) = false := by simpa using Pc4
          clear hr Pc1 Pc2 Pc3 Pc7 Pc4
          go_wp2_with fail
          go_ret
          exact ⟨ret_bool HV.out.symm, HB.out.1⟩
    · by_cases Pc4 : y.k = 3
      · by_cases Pc5 : y.o = x.t
        · have hr : dirR x y = true := by
            unfold dirR
            simp [Pc1, Pc2, Pc4, Pc5]
          have HV := Lib.hid hr
          have gc1 : (x.t == y.t) = false := by simpa using Pc1
          have gc2 : (x.k == 2) = false := by simpa using Pc2
          have gc4 : (y.k == 3) = true := by simpa using Pc4
          have gc5 : (y.o == x.t) = true := by simpa using Pc5
          clear hr Pc1 Pc2 Pc4 Pc5
          go_wp2_with fail
          go_ret
          exact ⟨ret_bool HV.out.symm, HB.out.1⟩
        · by_cases Pc7 : x.k = 1
          · have Pc8 : ¬ y.k = 1 := by omega
            have hr : dirR x y = false := by
              unfold dirR
              simp [Pc1, Pc2, Pc4, Pc5, Pc7, Pc8]
            have HV := Lib.hid hr
            have gc1 : (x.t == y.t) = false := by simpa using Pc1
            have gc2 : (x.k == 2) = false := by simpa using Pc2
            have gc4 : (y.k == 3) = true := by simpa using Pc4
            have gc5 : (y.o == x.t) = false := by simpa using Pc5
            have gc7 : (x.k == 1) = true := by simpa using Pc7
            have gc8 : (y.k == 1) = false := by simpa using Pc8
            clear hr Pc1 Pc2 Pc4 Pc5 Pc7 Pc8
            go_wp2_with fail
            go_ret
            exact ⟨ret_bool HV.out.symm, HB.out.1⟩
          · have hr : dirR x y = false := by
              unfold dirR
              simp [Pc1, Pc2, Pc4, Pc5, Pc7]
            have HV := Lib.hid hr
            have gc1 : (x.t == y.t) = false := by simpa using Pc1
            have gc2 : (x.k == 2) = false := by simpa using Pc2
            have gc4 : (y.k == 3) = true := by simpa using Pc4
            have gc5 : (y.o == x.t) = false := by simpa using Pc5
            have gc7 : (x.k == 1) = false := by simpa using Pc7
            clear hr Pc1 Pc2 Pc4 Pc5 Pc7
            go_wp2_with fail
            go_ret
            exact ⟨ret_bool HV.out.symm, HB.out.1⟩
      · by_cases Pc7 : x.k = 1
        · by_cases Pc8 : y.k = 1
          · have gc1 : (x.t == y.t) = false := by simpa using Pc1
            have gc2 : (x.k == 2) = false := by simpa using Pc2
            have gc4 : (y.k == 3) = false := by simpa using Pc4
            have gc7 : (x.k == 1) = true := by simpa using Pc7
            have gc8 : (y.k == 1) = true := by simpa using Pc8
            have hd : dirR x y = (spB x y && sgB x && sgB y) := by
              unfold dirR
              simp [Pc1, Pc2, Pc4, Pc7, Pc8]
            clear Pc1 Pc2 Pc4 Pc7 Pc8
            cases hsp : spB x y with
            | false =>
              rw [hsp] at heq3 hd
              have HV := Lib.hid hd
              clear hsp hd
              go_wp2_with fail
              go_ret
              exact ⟨ret_bool HV.out.symm, HB.out.1⟩
            | true =>
              rw [hsp] at heq3 hd
              clear hsp
              have hs := strong_calls x W2
              have HS := Lib.hid hs
              clear hs
              cases hsx : sgB x with
              | false =>
                rw [hsx] at HS hd
                have HV := Lib.hid hd
                clear hsx hd
                go_wp2_with ((with_reducible refine (HS.out).mono ?_); rintro e w5 ⟨rfl, hb5⟩; have HB5 := Lib.hid hb5; clear hb5)
                go_ret
                exact ⟨ret_bool HV.out.symm, HB.out.1.trans (HB5.out.mono HB.out.1.size)⟩
              | true =>
                rw [hsx] at HS hd
                have HV := Lib.hid hd
                clear hsx hd
                go_wp2_with fail
                (with_reducible refine (HS.out).mono ?_); rintro e w5 ⟨rfl, hb5⟩
                have hy5 := (hb5.block _ (Array.getElem?_eq_some_iff.1 HB.out.2.2).1).trans HB.out.2.2
                obtain ⟨q0, q1, q2, q3, q4, q5, q6, q7, q8, q9, q10⟩ := ev_eleven (ev_box hy5)
                simp only [Nat.zero_add] at q1 q2 q3 q4 q5 q6 q7 q8 q9 q10
                have hs2 := strong_calls y w5
                have HS2 := Lib.hid hs2
                have HB5 := Lib.hid hb5
                clear hb5 hy5 hs2 p0 p1 p2 p3 p4 p5 p6 p7 p8 p9 p10
                go_wp2_with ((with_reducible refine (HS2.out).mono ?_); rintro e w6 ⟨rfl, hb6⟩; have HB6 := Lib.hid hb6; clear hb6)
                go_ret
                have h1 := HB.out.1.trans (HB5.out.mono HB.out.1.size)
                exact ⟨ret_bool (by rw [HV.out]; rfl), h1.trans (HB6.out.mono h1.size)⟩
          · have hr : dirR x y = false := by
              unfold dirR
              simp [Pc1, Pc2, Pc4, Pc7, Pc8]
            have HV := Lib.hid hr
            have gc1 : (x.t == y.t) = false := by simpa using Pc1
            have gc2 : (x.k == 2) = false := by simpa using Pc2
            have gc4 : (y.k == 3) = false := by simpa using Pc4
            have gc7 : (x.k == 1) = true := by simpa using Pc7
            have gc8 : (y.k == 1) = false := by simpa using Pc8
            clear hr Pc1 Pc2 Pc4 Pc7 Pc8
            go_wp2_with fail
            go_ret
            exact ⟨ret_bool HV.out.symm, HB.out.1⟩
        · have hr : dirR x y = false := by
            unfold dirR
            simp [Pc1, Pc2, Pc4, Pc7]
          have HV := Lib.hid hr
          have gc1 : (x.t == y.t) = false := by simpa using Pc1
          have gc2 : (x.k == 2) = false := by simpa using Pc2
          have gc4 : (y.k == 3) = false := by simpa using Pc4
          have gc7 : (x.k == 1) = false := by simpa using Pc7
          clear hr Pc1 Pc2 Pc4 Pc7
          go_wp2_with fail
          go_ret
          exact ⟨ret_bool HV.out.symm, HB.out.1⟩
theorem dirR_eq (x y : Ev) (hx : fmB x = true) (hy : fmB y = true) : dirR x y = dirE x y := by
  have ho : ∀ z : Ev, fmB z = true → ordB z = (decide (z.k = 1) && sgB z) := fun z hz => by
    unfold ordB sgB
    by_cases hk : z.k = 1
    · unfold fmB at hz
      by_cases h0 : z.t < 0
      · rw [if_pos h0] at hz; cases hz
      · rw [if_neg h0, if_pos hk] at hz
        simp only [Bool.and_eq_true, decide_eq_true_eq] at hz
        rw [decide_eq_true hk, Bool.true_and, Bool.true_and, Bool.eq_iff_iff]
        simp only [decide_eq_true_eq, Bool.or_eq_true]
        omega
    · simp [hk]
  unfold dirR dirE
  rw [ho x hx, ho y hy]
  congr 1
  cases decide (x.k = 1) <;> cases decide (y.k = 1) <;> cases spB x y <;> cases sgB x <;> cases sgB y <;> rfl
end Go.Proofs.Ythebembnlmddoaa
