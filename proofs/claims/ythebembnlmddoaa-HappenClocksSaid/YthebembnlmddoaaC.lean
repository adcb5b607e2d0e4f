import Derived.Test.YthebembnlmddoaaB
import Derived.Outline
namespace Go.Proofs.Ythebembnlmddoaa
open Go.RowKit
set_option maxHeartbeats 4000000
set_option maxRecDepth 100000
set_option linter.unusedSimpArgs false
set_option linter.unusedVariables false

theorem formed_calls (e : Ev) (w : World) : Calls Try.prog 45 #[e.val] w fun x w' => x = .returned (.bool (fmB e)) ∧ Below w.heap.size w w' := by
  have hb : Below w.heap.size w (w.alloc (.cells e.cells 42)) := (Below.refl _ w).alloc (Nat.le_refl _) _
  have HB := Lib.hid hb
  clear hb
  by_cases h1 : e.t < 0
  · have hr : fmB e = false := by simp [fmB, h1]
    rw [hr]
    clear hr
    go_enter Try.func45, Try.ntmps45
    go_wp2_with fail
    go_ret
    exact ⟨rfl, HB.out⟩
  · by_cases h2 : e.k = 1
    · by_cases h3 : 1 ≤ e.m
      · by_cases h4 : e.m ≤ 4
        · by_cases h5 : e.o = 0
          · have hr : fmB e = true := by simp [fmB, h1, h2, h3, h4, h5]
            rw [hr]
            clear hr
            go_enter Try.func45, Try.ntmps45
            go_wp2_with fail
            go_ret
            exact ⟨rfl, HB.out⟩
          · have hr : fmB e = false := by simp [fmB, h1, h2, h3, h4, h5]
            have h6 : (e.o == 0) = false := by simpa using h5
            rw [hr]
            clear hr
            go_enter Try.func45, Try.ntmps45
            go_wp2_with fail
            go_ret
            exact ⟨rfl, HB.out⟩
        · have hr : fmB e = false := by simp [fmB, h1, h2, h3, h4]
          rw [hr]
          clear hr
          go_enter Try.func45, Try.ntmps45
          go_wp2_with fail
          go_ret
          exact ⟨rfl, HB.out⟩
      · have hr : fmB e = false := by simp [fmB, h1, h2, h3]
        rw [hr]
        clear hr
        go_enter Try.func45, Try.ntmps45
        go_wp2_with fail
        go_ret
        exact ⟨rfl, HB.out⟩
    · by_cases h3 : e.k = 2 ∨ e.k = 3
      · have hk : (e.k == 1) = false := by simpa using h2
        cases hp : plnB e with
        | true =>
          by_cases h4 : 0 ≤ e.o
          · by_cases h5 : e.o = e.t
            · have hr : fmB e = false := by simp [fmB, h1, h2, h3, h4, h5]
              have h6 : (e.o != e.t) = false := by simpa using h5
              rw [hr]
              have HP := Lib.hid (And.intro hr h5)
              clear hr h5
              rcases h3 with h3 | h3
              · go_enter Try.func45, Try.ntmps45
                go_wp2_with (refine wpList_pln rfl _ _ _ e rfl rfl rfl ?_)
                go_ret
                exact ⟨rfl, HB.out⟩
              · go_enter Try.func45, Try.ntmps45
                go_wp2_with (refine wpList_pln rfl _ _ _ e rfl rfl rfl ?_)
                go_ret
                exact ⟨rfl, HB.out⟩
            · have hr : fmB e = true := by simp [fmB, h1, h2, h3, h4, h5, hp]
              have h6 : (e.o != e.t) = true := by simpa using h5
              rw [hr]
              clear hr
              rcases h3 with h3 | h3
              · go_enter Try.func45, Try.ntmps45
                go_wp2_with (refine wpList_pln rfl _ _ _ e rfl rfl rfl ?_)
                go_ret
                exact ⟨rfl, HB.out⟩
              · go_enter Try.func45, Try.ntmps45
                go_wp2_with (refine wpList_pln rfl _ _ _ e rfl rfl rfl ?_)
                go_ret
                exact ⟨rfl, HB.out⟩
          · have hr : fmB e = false := by simp [fmB, h1, h2, h3, h4]
            rw [hr]
            clear hr
            rcases h3 with h3 | h3
            · go_enter Try.func45, Try.ntmps45
              go_wp2_with (refine wpList_pln rfl _ _ _ e rfl rfl rfl ?_)
              go_ret
              exact ⟨rfl, HB.out⟩
            · go_enter Try.func45, Try.ntmps45
              go_wp2_with (refine wpList_pln rfl _ _ _ e rfl rfl rfl ?_)
              go_ret
              exact ⟨rfl, HB.out⟩
        | false =>
          have hr : fmB e = false := by simp [fmB, h1, h2, h3, hp]
          rw [hr]
          clear hr
          rcases h3 with h3 | h3
          · go_enter Try.func45, Try.ntmps45
            go_wp2_with (refine wpList_pln rfl _ _ _ e rfl rfl rfl ?_)
            go_ret
            exact ⟨rfl, HB.out⟩
          · go_enter Try.func45, Try.ntmps45
            go_wp2_with (refine wpList_pln rfl _ _ _ e rfl rfl rfl ?_)
            go_ret
            exact ⟨rfl, HB.out⟩
      · have hr : fmB e = false := by simp [fmB, h1, h2, h3]
        have h4 : (e.k == 1) = false := by simpa using h2
        have h5 : (e.k == 2) = false := by simpa using (fun h => h3 (Or.inl h))
        have h6 : (e.k == 3) = false := by simpa using (fun h => h3 (Or.inr h))
        rw [hr]
        clear hr
        go_enter Try.func45, Try.ntmps45
        go_wp2_with fail
        go_ret
        exact ⟨rfl, HB.out⟩
end Go.Proofs.Ythebembnlmddoaa
