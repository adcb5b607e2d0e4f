import Derived.Test.YthpcipfloofbcaaO
import Derived.Test.YthpcipfloofbcaaP
import Derived.Deep.DeepCutAuto
namespace Go.Proofs.Ythpcipfloofbcaa
open Go.RowKit
set_option maxHeartbeats 2000000
set_option maxRecDepth 100000
set_option linter.unusedSimpArgs false
set_option linter.unusedVariables false

abbrev aw1 : St := ⟨[⟨true, 0, 0⟩], [], 0, 0, 0, -1, -1, 0, false⟩
abbrev aw2 : St := ⟨[⟨false, 0, 0⟩], [], 0, 0, 0, 0, 0, 1, false⟩
abbrev aw3 : St := ⟨[⟨false, 0, 0⟩], [], 0, 0, 0, 0, 0, 2, true⟩
theorem aw_new : newF 1 = (aw1, 0) := by kernel_rfl
theorem aw_play : playF aw1 [⟨2, 0, 0⟩, ⟨4, 0, 0⟩] = (aw2, 2, 0) := by kernel_rfl
theorem aw_step : stepF aw2 ⟨4, 0, 0⟩ = (aw3, 0) := by kernel_rfl

theorem rd_row {α : Type} {enc : α → List Value} {sz : Nat} {w : World} {b : Nat} {C : Array Value} {t : TypeId} {xs : List α} (h : w.heap[b]? = some (.cells C t (0, 0))) (hC : C.toList = xs.flatMap enc) (hl : xs.length ≤ 9223372036854775807) (hs : ∀ x, (enc x).length = sz := by intro x; rfl) : Rd enc sz w (some ⟨b, 0, none⟩) xs :=
  ⟨hl, fun k hk => ⟨_, rfl, fun j v hv => by
    have hj := (List.getElem?_eq_some_iff.1 hv).1
    have hf := flat_get hs xs k hk j v hv
    rw [← hC] at hf
    have ha : (⟨b, 0, none⟩ : Addr).add (k * sz + j) = ⟨b, k * sz + j, none⟩ := by unfold Addr.add; split <;> simp_all
    rw [ha, cell_of_row _ b _ _ _ _ h]
    simpa using hf⟩⟩

theorem awake_calls (w : World) : Calls Try.prog 12 #[] w fun e w' => e = .returned (.bool true) ∧ Below w.heap.size w w' := by
  have h1 := new_calls 1 w
  rw [aw_new] at h1
  have H1 := Lib.hid h1
  clear h1
  go_enter Try.func12, Try.ntmps12
  go_wp2_with fail
  (with_reducible refine (H1.out).mono ?_); rintro e w1 ⟨A, c, B, d, rfl, hrd, hb, hfA, hfB⟩
  have HA := Lib.hid (And.intro hrd hb)
  clear hrd hb hfA hfB
  go_upto_region 2 with fail
  obtain ⟨W1, hW1⟩ : ∃ W1, w1.alloc (.cells #[.slice A 1 c, .slice B 0 d, .int .i64 0, .int .i64 0, .int .i64 0, .int .i64 (-1), .int .i64 (-1), .int .i64 0, .bool false] 27) = W1 := ⟨_, rfl⟩
  have hb1 : Below w1.heap.size w1 W1 := by rw [← hW1]; exact (Below.refl _ _).alloc (Nat.le_refl _) _
  have hr1 : W1.heap[w1.heap.size]? = some (.cells #[.slice A 1 c, .slice B 0 d, .int .i64 0, .int .i64 0, .int .i64 0, .int .i64 (-1), .int .i64 (-1), .int .i64 0, .bool false] 27 (0, 0)) := by rw [← hW1]; exact heap_alloc_new w1 _
  obtain ⟨W2, hW2⟩ : ∃ W2, W1.alloc (.cells #[.int .i64 2, .int .i64 0, .int .i64 0, .int .i64 4, .int .i64 0, .int .i64 0] 34) = W2 := ⟨_, rfl⟩
  have hb2 : Below W1.heap.size W1 W2 := by rw [← hW2]; exact (Below.refl _ _).alloc (Nat.le_refl _) _
  have hr2 : W2.heap[W1.heap.size]? = some (.cells #[.int .i64 2, .int .i64 0, .int .i64 0, .int .i64 4, .int .i64 0, .int .i64 0] 34 (0, 0)) := by rw [← hW2]; exact heap_alloc_new W1 _
  have hs2 : W1.heap.size < W2.heap.size := (Array.getElem?_eq_some_iff.1 hr2).1
  have hp := play_calls aw1 A c B d [⟨2, 0, 0⟩, ⟨4, 0, 0⟩] (some ⟨W1.heap.size, 0, none⟩) 2 W2 ((HA.out.1.below hb1).below hb2) (rd_row (enc := encV) (sz := 3) (xs := [⟨2, 0, 0⟩, ⟨4, 0, 0⟩]) hr2 rfl (by simp)) (fun a ha => by cases ha; exact hs2)
  rw [aw_play] at hp
  have HP := Lib.hid hp
  have HW := Lib.hid (And.intro hW1 (And.intro hW2 (And.intro (hb1.mono HA.out.2.size) (And.intro (hb2.mono (Nat.le_trans HA.out.2.size hb1.size)) (And.intro hr1 (Array.getElem?_eq_some_iff.1 hr1).1)))))
  have hz := fun j => cell_of_row _ w1.heap.size j _ _ _ hr1
  have z0 := hz 0
  have z1 := hz 1
  have z2 := hz 2
  have z3 := hz 3
  have z4 := hz 4
  have z5 := hz 5
  have z6 := hz 6
  have z7 := hz 7
  have z8 := hz 8
  simp at z0 z1 z2 z3 z4 z5 z6 z7 z8
  clear hz hW1 hW2 hb1 hb2 hr1 hr2 hs2 hp
  rw [HW.out.1]
  go_upto_region 4 with fail
  go_wp2_with fail
  rw [HW.out.2.1]
  refine (HP.out).mono ?_
  rintro e w3 ⟨A2, c2, B2, d2, rfl, hrd3, hb3, hfA, hfB⟩
  have hlt2 : w1.heap.size < W2.heap.size := by
    have h1 := HW.out.2.2.2.2.2
    have h2 := (HW.out.2.1 ▸ World.size_alloc _ _ : W2.heap.size = W1.heap.size + 1)
    omega
  have hrow3 : w3.heap[w1.heap.size]? = some (.cells #[.slice A 1 c, .slice B 0 d, .int .i64 0, .int .i64 0, .int .i64 0, .int .i64 (-1), .int .i64 (-1), .int .i64 0, .bool false] 27 (0, 0)) := by
    refine (hb3.block _ hlt2).trans ?_
    rw [← HW.out.2.1]
    exact (Below.heap_alloc _ _ _ HW.out.2.2.2.2.2).trans HW.out.2.2.2.2.1
  have q0 := filled (s0 := aw1) (M0 := .slice A 1 c) (F0 := .slice B 0 d) (.slice A2 1 c2) (.slice B2 0 d2) (.int .i64 0) (.int .i64 0) (.int .i64 0) (.int .i64 0) (.int .i64 0) (.int .i64 1) (.bool false) hrow3
  have q1 := fill_kx w.heap.size w1.heap.size HA.out.2.size w3 (.slice A2 1 c2) (.slice B2 0 d2) (.int .i64 0) (.int .i64 0) (.int .i64 0) (.int .i64 0) (.int .i64 0) (.int .i64 1) (.bool false)
  obtain ⟨W4, hW4⟩ : ∃ W4, (((((((((w3.setCell ⟨w1.heap.size, 0, none⟩ (.slice A2 1 c2)).setCell ⟨w1.heap.size, 1, none⟩ (.slice B2 0 d2)).setCell ⟨w1.heap.size, 2, none⟩ (.int .i64 0)).setCell ⟨w1.heap.size, 3, none⟩ (.int .i64 0)).setCell ⟨w1.heap.size, 4, none⟩ (.int .i64 0)).setCell ⟨w1.heap.size, 5, none⟩ (.int .i64 0)).setCell ⟨w1.heap.size, 6, none⟩ (.int .i64 0)).setCell ⟨w1.heap.size, 7, none⟩ (.int .i64 1)).setCell ⟨w1.heap.size, 8, none⟩ (.bool false)) = W4 := ⟨_, rfl⟩
  rw [hW4] at q0 q1
  have hrd4 : RdS W4 A2 B2 aw2 := hrd3.kx q1.1 (fun a ha e => by have := hfA a ha; omega) (fun a ha e => by have := hfB a ha; omega)
  have hlo4 : Below w.heap.size w W4 := ((((HA.out.2).trans HW.out.2.2.1).trans HW.out.2.2.2.1).trans (hb3.mono (by have := HA.out.2.size; omega))).trans ⟨q1.1.os, q1.1.tape, q1.1.output, q1.1.size, q1.1.low⟩
  have hst := step_calls aw2 A2 c2 B2 d2 ⟨4, 0, 0⟩ W4 hrd4
  rw [aw_step] at hst
  have H4 := Lib.hid (And.intro hW4 (And.intro q0 (And.intro hlo4 hst)))
  clear z0 z1 z2 z3 z4 z5 z6 z7 z8
  have hz := fun j => cell_of_row _ w1.heap.size j _ _ _ hrow3
  have z0 := hz 0
  have z1 := hz 1
  have z2 := hz 2
  have z3 := hz 3
  have z4 := hz 4
  have z5 := hz 5
  have z6 := hz 6
  have z7 := hz 7
  have z8 := hz 8
  simp at z0 z1 z2 z3 z4 z5 z6 z7 z8
  clear hz
  have fz0 := frozen_of_row _ w1.heap.size 0 _ _ hrow3
  have fz1 := frozen_of_row _ w1.heap.size 1 _ _ hrow3
  have fz2 := frozen_of_row _ w1.heap.size 2 _ _ hrow3
  have fz3 := frozen_of_row _ w1.heap.size 3 _ _ hrow3
  have fz4 := frozen_of_row _ w1.heap.size 4 _ _ hrow3
  have fz5 := frozen_of_row _ w1.heap.size 5 _ _ hrow3
  have fz6 := frozen_of_row _ w1.heap.size 6 _ _ hrow3
  have fz7 := frozen_of_row _ w1.heap.size 7 _ _ hrow3
  have fz8 := frozen_of_row _ w1.heap.size 8 _ _ hrow3
  have hy := fun j => cell_of_row _ w1.heap.size j _ _ _ q0
  have y0 := hy 0
  have y1 := hy 1
  have y2 := hy 2
  have y3 := hy 3
  have y4 := hy 4
  have y5 := hy 5
  have y6 := hy 6
  have y7 := hy 7
  have y8 := hy 8
  simp at y0 y1 y2 y3 y4 y5 y6 y7 y8
  clear hy
  clear hrow3 q0 q1 hW4 hrd4 hlo4 hst hrd3 hb3 hfA hfB hlt2
  go_upto_region 5 with fail
  rw [H4.out.1]
  clear z0 fz0 z1 fz1 z2 fz2 z3 fz3 z4 fz4 z5 fz5 z6 fz6 z7 fz7 z8 fz8
  go_upto_region 7 with fail
  go_wp2_with fail
  refine (H4.out.2.2.2).mono ?_
  rintro e w5 ⟨A3, c3, B3, d3, rfl, hrd5, hb5, hfA, hfB⟩
  have hrow5 : w5.heap[w1.heap.size]? = some (.cells #[.slice A2 1 c2, .slice B2 0 d2, .int .i64 0, .int .i64 0, .int .i64 0, .int .i64 0, .int .i64 0, .int .i64 1, .bool false] 27 (0, 0)) := (hb5.block _ (Array.getElem?_eq_some_iff.1 H4.out.2.1).1).trans H4.out.2.1
  have q0 := filled (s0 := aw2) (M0 := .slice A2 1 c2) (F0 := .slice B2 0 d2) (.slice A3 1 c3) (.slice B3 0 d3) (.int .i64 0) (.int .i64 0) (.int .i64 0) (.int .i64 0) (.int .i64 0) (.int .i64 2) (.bool true) hrow5
  have q1 := fill_kx w.heap.size w1.heap.size HA.out.2.size w5 (.slice A3 1 c3) (.slice B3 0 d3) (.int .i64 0) (.int .i64 0) (.int .i64 0) (.int .i64 0) (.int .i64 0) (.int .i64 2) (.bool true)
  obtain ⟨W6, hW6⟩ : ∃ W6, (((((((((w5.setCell ⟨w1.heap.size, 0, none⟩ (.slice A3 1 c3)).setCell ⟨w1.heap.size, 1, none⟩ (.slice B3 0 d3)).setCell ⟨w1.heap.size, 2, none⟩ (.int .i64 0)).setCell ⟨w1.heap.size, 3, none⟩ (.int .i64 0)).setCell ⟨w1.heap.size, 4, none⟩ (.int .i64 0)).setCell ⟨w1.heap.size, 5, none⟩ (.int .i64 0)).setCell ⟨w1.heap.size, 6, none⟩ (.int .i64 0)).setCell ⟨w1.heap.size, 7, none⟩ (.int .i64 2)).setCell ⟨w1.heap.size, 8, none⟩ (.bool true)) = W6 := ⟨_, rfl⟩
  rw [hW6] at q0 q1
  have hlo6 : Below w.heap.size w W6 := (H4.out.2.2.1.trans (hb5.mono H4.out.2.2.1.size)).trans ⟨q1.1.os, q1.1.tape, q1.1.output, q1.1.size, q1.1.low⟩
  have H6 := Lib.hid (And.intro hW6 hlo6)
  clear y0 y1 y2 y3 y4 y5 y6 y7 y8
  have hz := fun j => cell_of_row _ w1.heap.size j _ _ _ hrow5
  have z0 := hz 0
  have z1 := hz 1
  have z2 := hz 2
  have z3 := hz 3
  have z4 := hz 4
  have z5 := hz 5
  have z6 := hz 6
  have z7 := hz 7
  have z8 := hz 8
  simp at z0 z1 z2 z3 z4 z5 z6 z7 z8
  clear hz
  have fz0 := frozen_of_row _ w1.heap.size 0 _ _ hrow5
  have fz1 := frozen_of_row _ w1.heap.size 1 _ _ hrow5
  have fz2 := frozen_of_row _ w1.heap.size 2 _ _ hrow5
  have fz3 := frozen_of_row _ w1.heap.size 3 _ _ hrow5
  have fz4 := frozen_of_row _ w1.heap.size 4 _ _ hrow5
  have fz5 := frozen_of_row _ w1.heap.size 5 _ _ hrow5
  have fz6 := frozen_of_row _ w1.heap.size 6 _ _ hrow5
  have fz7 := frozen_of_row _ w1.heap.size 7 _ _ hrow5
  have fz8 := frozen_of_row _ w1.heap.size 8 _ _ hrow5
  have hy := fun j => cell_of_row _ w1.heap.size j _ _ _ q0
  have y0 := hy 0
  have y1 := hy 1
  have y2 := hy 2
  have y3 := hy 3
  have y4 := hy 4
  have y5 := hy 5
  have y6 := hy 6
  have y7 := hy 7
  have y8 := hy 8
  simp at y0 y1 y2 y3 y4 y5 y6 y7 y8
  clear hy
  clear hrow5 q0 q1 hW6 hlo6 hrd5 hb5 hfA hfB
  go_upto_region 8 with fail
  rw [H6.out.1]
  clear z0 fz0 z1 fz1 z2 fz2 z3 fz3 z4 fz4 z5 fz5 z6 fz6 z7 fz7 z8 fz8
  go_wp2_with fail
  refine bodyPost_ret (by simp [results, Try.results12, go_sem]; try rfl) rfl ?_
  exact ⟨rfl, H6.out.2⟩
end Go.Proofs.Ythpcipfloofbcaa
