import Derived.Test.YthpcipfloofbcaaJ
import Derived.BigRegion
import Derived.Deep.DeepCutAuto
namespace Go.Proofs.Ythpcipfloofbcaa
open Go.RowKit
set_option maxHeartbeats 1000000
set_option maxRecDepth 100000
set_option linter.unusedSimpArgs false
set_option linter.unusedVariables false

/-- a slice lies at or beyond n -/
def Fresh (n : Nat) (A : Option Addr) : Prop := ∀ a, A = some a → n ≤ a.block
theorem Fresh.none (n : Nat) : Fresh n none := fun _ h => by cases h
/-- a state and a code are handed back -/
def SPost (w : World) (r : St × Int) (e : Ending) (w' : World) : Prop := ∃ A c B d, e = .returned (.tuple #[r.1.v A c B d, .int .i64 r.2]) ∧ RdS w' A B r.1 ∧ Below w.heap.size w w' ∧ Fresh w.heap.size A ∧ Fresh w.heap.size B
theorem RdS.zero (w : World) : RdS w none none St.zero := ⟨Rd.nil _ _ _ _, Rd.nil _ _ _ _⟩
def newS (n : Nat) : St := ⟨(List.replicate n ⟨false, 0, 0⟩).set 0 ⟨true, 0, 0⟩, [], 0, 0, 0, -1, -1, 0, false⟩
def newF (n : Int) : St × Int := if 1 ≤ n ∧ n ≤ 10 then (newS n.toNat, 0) else (St.zero, 4)

theorem new_bad (n : Int) (hn : ¬ (1 ≤ n ∧ n ≤ 10)) (w : World) : Calls Try.prog 8 #[.int .i64 n] w (SPost w (newF n)) := by
  have hr : newF n = (St.zero, 4) := if_neg hn
  rw [hr]
  clear hr
  by_cases h1 : n < 1
  · have h1b := decide_eq_true h1
    have h1h := Lib.hid h1
    clear h1 hn
    go_enter Try.func8, Try.ntmps8
    go_wp2_with fail
    refine bodyPost_ret (by simp [results, Try.results8, go_sem]; try rfl) rfl ?_
    exact ⟨none, 0, none, 0, rfl, RdS.zero _, (Below.refl _ _).alloc (Nat.le_refl _) _, Fresh.none _, Fresh.none _⟩
  · have h1b := decide_eq_false h1
    have h2b : decide (10 < n) = true := decide_eq_true (by omega)
    have h1h := Lib.hid h1
    clear h1 hn
    go_enter Try.func8, Try.ntmps8
    go_wp2_with fail
    refine bodyPost_ret (by simp [results, Try.results8, go_sem]; try rfl) rfl ?_
    exact ⟨none, 0, none, 0, rfl, RdS.zero _, (Below.refl _ _).alloc (Nat.le_refl _) _, Fresh.none _, Fresh.none _⟩

theorem flat_rep {α : Type} (enc : α → List Value) (x : α) (n : Nat) : (List.replicate n x).flatMap enc = (List.replicate n (enc x)).flatten := by
  induction n with
  | zero => rfl
  | succ k ih => simp [List.replicate_succ, ih]

theorem madeCells_mul (z : Array Value) (n : Nat) (hz : 0 < z.size) : (madeCells z (n * z.size)).toList = (List.replicate n z.toList).flatten := by
  induction n with
  | zero => simp [madeCells]
  | succ k ih =>
    have h1 : (List.replicate (k + 1) z.toList).flatten = (List.replicate k z.toList).flatten ++ z.toList := by
      rw [List.replicate_succ', List.flatten_append]; simp
    rw [h1, ← ih]
    simp only [madeCells, Array.toList_map, Array.toList_range]
    rw [Nat.succ_mul, List.range_add, List.map_append, List.map_map]
    congr 1
    apply List.ext_getElem
    · simp
    · intro i hi1 hi2
      have hi : i < z.size := by simpa using hi1
      simp only [List.getElem_map, List.getElem_range, Function.comp]
      rw [show (k * z.size + i) % z.size = i by rw [Nat.add_comm, Nat.mul_comm, Nat.add_mul_mod_self_left]; exact Nat.mod_eq_of_lt hi]
      simp [hi]

theorem made63 (n : Nat) : (madeCells (Value.agg #[.bool false, .int .i64 0, .int .i64 0]).cells (n * 3)).toList = (List.replicate n (⟨false, 0, 0⟩ : Mem)).flatMap encM := by
  have := madeCells_mul #[.bool false, .int .i64 0, .int .i64 0] n (by simp)
  rw [flat_rep]
  simpa [Value.cells] using this

theorem made_heap {w W : World} {v : Value} {t : TypeId} {n : Value} (h : (Instr.makeSlice t n n).run Try.prog w = .ok v W) (hg : w.grownBy W none) : w.heap.size ≤ W.heap.size := hg.size

theorem filled {w : World} {bo : Nat} {s0 : St} {M0 F0 : Value} (a0 a1 a2 a3 a4 a5 a6 a7 a8 : Value) (h : w.heap[bo]? = some (.cells (cellsS s0 M0 F0) 27 (0, 0))) :
    (((((((((w.setCell ⟨bo, 0, none⟩ a0).setCell ⟨bo, 1, none⟩ a1).setCell ⟨bo, 2, none⟩ a2).setCell ⟨bo, 3, none⟩ a3).setCell ⟨bo, 4, none⟩ a4).setCell ⟨bo, 5, none⟩ a5).setCell ⟨bo, 6, none⟩ a6).setCell ⟨bo, 7, none⟩ a7).setCell ⟨bo, 8, none⟩ a8).heap[bo]? = some (.cells #[a0, a1, a2, a3, a4, a5, a6, a7, a8] 27 (0, 0)) := by
  have h0 := heap_setCell_same _ bo 0 _ _ a0 h
  have h1 := heap_setCell_same _ bo 1 _ _ a1 h0
  have h2 := heap_setCell_same _ bo 2 _ _ a2 h1
  have h3 := heap_setCell_same _ bo 3 _ _ a3 h2
  have h4 := heap_setCell_same _ bo 4 _ _ a4 h3
  have h5 := heap_setCell_same _ bo 5 _ _ a5 h4
  have h6 := heap_setCell_same _ bo 6 _ _ a6 h5
  have h7 := heap_setCell_same _ bo 7 _ _ a7 h6
  have h8 := heap_setCell_same _ bo 8 _ _ a8 h7
  simpa [cellsS] using h8
theorem filled_other {w : World} {bo : Nat} (a0 a1 a2 a3 a4 a5 a6 a7 a8 : Value) (i : Nat) (hi : i ≠ bo) : (((((((((w.setCell ⟨bo, 0, none⟩ a0).setCell ⟨bo, 1, none⟩ a1).setCell ⟨bo, 2, none⟩ a2).setCell ⟨bo, 3, none⟩ a3).setCell ⟨bo, 4, none⟩ a4).setCell ⟨bo, 5, none⟩ a5).setCell ⟨bo, 6, none⟩ a6).setCell ⟨bo, 7, none⟩ a7).setCell ⟨bo, 8, none⟩ a8).heap[i]? = w.heap[i]? := by
  rw [heap_setCell_other _ ⟨bo, 8, none⟩ i _ hi, heap_setCell_other _ ⟨bo, 7, none⟩ i _ hi, heap_setCell_other _ ⟨bo, 6, none⟩ i _ hi, heap_setCell_other _ ⟨bo, 5, none⟩ i _ hi, heap_setCell_other _ ⟨bo, 4, none⟩ i _ hi, heap_setCell_other _ ⟨bo, 3, none⟩ i _ hi, heap_setCell_other _ ⟨bo, 2, none⟩ i _ hi, heap_setCell_other _ ⟨bo, 1, none⟩ i _ hi, heap_setCell_other _ ⟨bo, 0, none⟩ i _ hi]
theorem filled_below (B : Nat) (w : World) (bo : Nat) (hB : B ≤ bo) (a0 a1 a2 a3 a4 a5 a6 a7 a8 : Value) : Below B w (((((((((w.setCell ⟨bo, 0, none⟩ a0).setCell ⟨bo, 1, none⟩ a1).setCell ⟨bo, 2, none⟩ a2).setCell ⟨bo, 3, none⟩ a3).setCell ⟨bo, 4, none⟩ a4).setCell ⟨bo, 5, none⟩ a5).setCell ⟨bo, 6, none⟩ a6).setCell ⟨bo, 7, none⟩ a7).setCell ⟨bo, 8, none⟩ a8) ∧ (((((((((w.setCell ⟨bo, 0, none⟩ a0).setCell ⟨bo, 1, none⟩ a1).setCell ⟨bo, 2, none⟩ a2).setCell ⟨bo, 3, none⟩ a3).setCell ⟨bo, 4, none⟩ a4).setCell ⟨bo, 5, none⟩ a5).setCell ⟨bo, 6, none⟩ a6).setCell ⟨bo, 7, none⟩ a7).setCell ⟨bo, 8, none⟩ a8).heap.size = w.heap.size := by
  refine ⟨?_, ?_⟩
  · exact (((((((((Below.refl B w).setCell (p := ⟨bo, 0, none⟩) hB _).setCell (p := ⟨bo, 1, none⟩) hB _).setCell (p := ⟨bo, 2, none⟩) hB _).setCell (p := ⟨bo, 3, none⟩) hB _).setCell (p := ⟨bo, 4, none⟩) hB _).setCell (p := ⟨bo, 5, none⟩) hB _).setCell (p := ⟨bo, 6, none⟩) hB _).setCell (p := ⟨bo, 7, none⟩) hB _).setCell (p := ⟨bo, 8, none⟩) hB _
  · simp only [size_setCell']

theorem Rd.keep {α : Type} {enc : α → List Value} {sz : Nat} {w Y : World} {A : Option Addr} {xs : List α} (h : Rd enc sz w A xs) (hA : ∀ a, A = some a → Y.heap[a.block]? = w.heap[a.block]?) : Rd enc sz Y A xs :=
  ⟨h.small, fun k hk => by
    obtain ⟨a, ha, hc⟩ := h.cell k hk
    exact ⟨a, ha, fun j v hv => (World.cell?_of_block (by rw [show (a.add (k * sz + j)).block = a.block by unfold Addr.add; split <;> rfl]; exact hA a ha)).trans (hc j v hv)⟩⟩

theorem new_ok (N : Nat) (h1 : 1 ≤ N) (h2 : N ≤ 10) (w : World) : Calls Try.prog 8 #[.int .i64 N] w (SPost w (newS N, 0)) := by
  obtain ⟨i, hi, hz0, hz1, hz2⟩ := info_parts info63
  obtain ⟨W, hmk, hown, hg⟩ := run_makeSlice_full (P := Try.prog) (w := w.alloc (.cells zeroS 27)) w.heap.size 22 63 i _ 3 Try.underlying22 hi hz0 hz1 .i64 .i64 N (by omega) (by rw [hz2]; omega) (by simp [maxLen]; omega) (by simp)
  rw [made63] at hown
  have ho : Own encM 3 63 W w.heap.size (.slice (some ⟨w.heap.size + 1, 0, none⟩) N N) (List.replicate N (⟨false, 0, 0⟩ : Mem)) := by
    unfold Own
    rw [List.length_replicate]
    simpa using hown
  clear hown
  simp only [World.size_alloc] at hmk
  have h1b : decide ((N : Int) < 1) = false := decide_eq_false (by omega)
  have h2b : decide (10 < (N : Int)) = false := decide_eq_false (by omega)
  have hb0 : W.heap[w.heap.size]? = some (.cells zeroS 27 (0, 0)) := (hg.block _ (by simp) (by simp)).trans (heap_alloc_new w _)
  have hb1 : Below w.heap.size w W := ((Below.refl w.heap.size w).alloc (Nat.le_refl _) (.cells zeroS 27)).grown hg (by simp) (fun k hk => by cases hk)
  have hlt : w.heap.size + 1 < W.heap.size := (ho.blk _ rfl).2.1
  have hw1 : W.heap.size < (W.alloc (.cells #[.slice (some ⟨w.heap.size + 1, 0, none⟩) N N, .slice none 0 0, .int .i64 0, .int .i64 0, .int .i64 0, .int .i64 (-1), .int .i64 (-1), .int .i64 0, .bool false] 27)).heap.size := by simp
  have x1 : (W.alloc (.cells #[.slice (some ⟨w.heap.size + 1, 0, none⟩) N N, .slice none 0 0, .int .i64 0, .int .i64 0, .int .i64 0, .int .i64 (-1), .int .i64 (-1), .int .i64 0, .bool false] 27)).heap[W.heap.size]? = some (.cells #[.slice (some ⟨w.heap.size + 1, 0, none⟩) N N, .slice none 0 0, .int .i64 0, .int .i64 0, .int .i64 0, .int .i64 (-1), .int .i64 (-1), .int .i64 0, .bool false] 27 (0, 0)) := heap_alloc_new W _
  have x2 : (W.alloc (.cells #[.slice (some ⟨w.heap.size + 1, 0, none⟩) N N, .slice none 0 0, .int .i64 0, .int .i64 0, .int .i64 0, .int .i64 (-1), .int .i64 (-1), .int .i64 0, .bool false] 27)).heap[w.heap.size]? = some (.cells zeroS 27 (0, 0)) := (Below.heap_alloc _ _ _ (by omega)).trans hb0
  have x3 : Own encM 3 63 (W.alloc (.cells #[.slice (some ⟨w.heap.size + 1, 0, none⟩) N N, .slice none 0 0, .int .i64 0, .int .i64 0, .int .i64 0, .int .i64 (-1), .int .i64 (-1), .int .i64 0, .bool false] 27)) w.heap.size (.slice (some ⟨w.heap.size + 1, 0, none⟩) N N) (List.replicate N (⟨false, 0, 0⟩ : Mem)) := ho.grown (row := none) (World.grownBy_alloc W _ none) (.inr (by simp [Value.ownBlock]))
  have x4 : Below w.heap.size w (W.alloc (.cells #[.slice (some ⟨w.heap.size + 1, 0, none⟩) N N, .slice none 0 0, .int .i64 0, .int .i64 0, .int .i64 0, .int .i64 (-1), .int .i64 (-1), .int .i64 0, .bool false] 27)) := hb1.alloc (by omega) _
  obtain ⟨X, hX⟩ : ∃ X, W.alloc (.cells #[.slice (some ⟨w.heap.size + 1, 0, none⟩) N N, .slice none 0 0, .int .i64 0, .int .i64 0, .int .i64 0, .int .i64 (-1), .int .i64 (-1), .int .i64 0, .bool false] 27) = X := ⟨_, rfl⟩
  rw [hX] at x1 x2 x3 x4
  obtain ⟨o1, o2⟩ := x3.set lenM (by simp) 0 (by simp; omega) 0 (by omega) (.bool true) ⟨true, 0, 0⟩ (by simp)
  simp only [Nat.zero_mul, Nat.add_zero] at o1 o2
  obtain ⟨c0, c1⟩ := x3.cell lenM (by simp) 0 (by simp; omega) 0 (.bool false) (by simp)
  simp only [Nat.zero_mul, Nat.add_zero] at c0 c1
  have c2 := cell_of_row _ W.heap.size 0 _ _ _ x1
  simp at c2
  have y1 : (X.setCell ⟨w.heap.size + 1, 0, none⟩ (.bool true)).heap[W.heap.size]? = some (.cells #[.slice (some ⟨w.heap.size + 1, 0, none⟩) N N, .slice none 0 0, .int .i64 0, .int .i64 0, .int .i64 0, .int .i64 (-1), .int .i64 (-1), .int .i64 0, .bool false] 27 (0, 0)) := (o2.block _ (Array.getElem?_eq_some_iff.1 x1).1 (by simp; omega)).trans x1
  have y2 : (X.setCell ⟨w.heap.size + 1, 0, none⟩ (.bool true)).heap[w.heap.size]? = some (.cells (cellsS St.zero (.slice none 0 0) (.slice none 0 0)) 27 (0, 0)) := (o2.block _ (Array.getElem?_eq_some_iff.1 x2).1 (by simp)).trans x2
  have y3 : Below w.heap.size w (X.setCell ⟨w.heap.size + 1, 0, none⟩ (.bool true)) := x4.setCell (by simp) _
  obtain ⟨Y, hY⟩ : ∃ Y, X.setCell ⟨w.heap.size + 1, 0, none⟩ (.bool true) = Y := ⟨_, rfl⟩
  rw [hY] at y1 y2 y3 o1 o2
  have q0 := filled (.slice (some ⟨w.heap.size + 1, 0, none⟩) N N) (.slice none 0 0) (.int .i64 0) (.int .i64 0) (.int .i64 0) (.int .i64 (-1)) (.int .i64 (-1)) (.int .i64 0) (.bool false) y2
  have q1 := filled_other (w := Y) (bo := w.heap.size) (.slice (some ⟨w.heap.size + 1, 0, none⟩) N N) (.slice none 0 0) (.int .i64 0) (.int .i64 0) (.int .i64 0) (.int .i64 (-1)) (.int .i64 (-1)) (.int .i64 0) (.bool false)
  have q2 := filled_below w.heap.size Y w.heap.size (Nat.le_refl _) (.slice (some ⟨w.heap.size + 1, 0, none⟩) N N) (.slice none 0 0) (.int .i64 0) (.int .i64 0) (.int .i64 0) (.int .i64 (-1)) (.int .i64 (-1)) (.int .i64 0) (.bool false)
  obtain ⟨Z, hZ⟩ : ∃ Z, (((((((((Y.setCell ⟨w.heap.size, 0, none⟩ (.slice (some ⟨w.heap.size + 1, 0, none⟩) N N)).setCell ⟨w.heap.size, 1, none⟩ (.slice none 0 0)).setCell ⟨w.heap.size, 2, none⟩ (.int .i64 0)).setCell ⟨w.heap.size, 3, none⟩ (.int .i64 0)).setCell ⟨w.heap.size, 4, none⟩ (.int .i64 0)).setCell ⟨w.heap.size, 5, none⟩ (.int .i64 (-1))).setCell ⟨w.heap.size, 6, none⟩ (.int .i64 (-1))).setCell ⟨w.heap.size, 7, none⟩ (.int .i64 0)).setCell ⟨w.heap.size, 8, none⟩ (.bool false)) = Z := ⟨_, rfl⟩
  rw [hZ] at q0 q1 q2
  have HX := Lib.hid hX
  have HY := Lib.hid hY
  have HZ := Lib.hid (And.intro hZ (And.intro q0 (And.intro q1 (And.intro q2 (And.intro o1 y3)))))
  have hcY := fun j => cell_of_row _ W.heap.size j _ _ _ y1
  have d0 := hcY 0
  have d1 := hcY 1
  have d2 := hcY 2
  have d3 := hcY 3
  have d4 := hcY 4
  have d5 := hcY 5
  have d6 := hcY 6
  have d7 := hcY 7
  have d8 := hcY 8
  simp at d0 d1 d2 d3 d4 d5 d6 d7 d8
  have hcz := fun j => cell_of_row _ w.heap.size j _ _ _ y2
  have z0 := hcz 0
  have z1 := hcz 1
  have z2 := hcz 2
  have z3 := hcz 3
  have z4 := hcz 4
  have z5 := hcz 5
  have z6 := hcz 6
  have z7 := hcz 7
  have z8 := hcz 8
  simp [cellsS, St.zero] at z0 z1 z2 z3 z4 z5 z6 z7 z8
  have fz0 := frozen_of_row _ w.heap.size 0 _ _ y2
  have fz1 := frozen_of_row _ w.heap.size 1 _ _ y2
  have fz2 := frozen_of_row _ w.heap.size 2 _ _ y2
  have fz3 := frozen_of_row _ w.heap.size 3 _ _ y2
  have fz4 := frozen_of_row _ w.heap.size 4 _ _ y2
  have fz5 := frozen_of_row _ w.heap.size 5 _ _ y2
  have fz6 := frozen_of_row _ w.heap.size 6 _ _ y2
  have fz7 := frozen_of_row _ w.heap.size 7 _ _ y2
  have fz8 := frozen_of_row _ w.heap.size 8 _ _ y2
  have hN0 : (0 : Int) < (N : Int) := by omega
  have hN1 : 0 < N := h1
  have HN := Lib.hid (And.intro h1 h2)
  clear ho hg h1 h2 hb0 hb1 hlt hX hY hZ q0 q1 q2 o1 o2 x1 x2 x3 x4 y1 y2 y3 hcY hcz hw1
  go_enter Try.func8, Try.ntmps8
  go_upto_region 4 with fail
  rw [HX.out]
  go_upto_region 5 with fail
  rw [HY.out]
  go_wp2_with fail
  rw [HZ.out.1]
  have e0 := fun j => cell_of_row _ w.heap.size j _ _ _ HZ.out.2.1
  have e1 := e0 0
  have e2 := e0 1
  have e3 := e0 2
  have e4 := e0 3
  have e5 := e0 4
  have e6 := e0 5
  have e7 := e0 6
  have e8 := e0 7
  have e9 := e0 8
  simp at e1 e2 e3 e4 e5 e6 e7 e8 e9
  refine bodyPost_ret (by simp [results, Try.results8, go_sem, e1, e2, e3, e4, e5, e6, e7, e8, e9]; try rfl) rfl ?_
  refine ⟨some ⟨w.heap.size + 1, 0, none⟩, N, none, 0, ?_, ?_, ?_, fun a ha => by cases ha; simp, Fresh.none _⟩
  · simp [newS, St.v]
  · have hg := (HZ.out.2.2.2.2.1.rd lenM)
    obtain ⟨A, c, hv, hr⟩ := hg
    simp only [Value.slice.injEq] at hv
    obtain ⟨rfl, _, _⟩ := hv
    exact ⟨hr.keep (fun a ha => by cases ha; exact HZ.out.2.2.1 _ (by simp)), Rd.nil _ _ _ _⟩
  · exact HZ.out.2.2.2.2.2.trans HZ.out.2.2.2.1.1

theorem new_calls (n : Int) (w : World) : Calls Try.prog 8 #[.int .i64 n] w (SPost w (newF n)) := by
  by_cases hn : 1 ≤ n ∧ n ≤ 10
  · have hr : newF n = (newS n.toNat, 0) := if_pos hn
    rw [hr]
    have := new_ok n.toNat (by omega) (by omega) w
    rwa [show ((n.toNat : Nat) : Int) = n by omega] at this
  · exact new_bad n hn w
end Go.Proofs.Ythpcipfloofbcaa
