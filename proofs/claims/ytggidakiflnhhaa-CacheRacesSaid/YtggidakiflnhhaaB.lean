import Derived.Test.YtggidakiflnhhaaA
import Derived.Laws.StructEq
import Derived.Outline
namespace Go.Proofs.Ytggidakiflnhhaa
open Go.RowKit
set_option maxHeartbeats 4000000
set_option maxRecDepth 100000
set_option linter.unusedSimpArgs false
set_option linter.unusedVariables false

/-- a configuration: Locales, Words, Lines, Ahead -/
structure Cf where
  L : Int
  W : Int
  N : Int
  H : Int
abbrev Cf.cells (c : Cf) : Array Value := #[.int .i64 c.L, .int .i64 c.W, .int .i64 c.N, .int .i64 c.H]
abbrev Cf.val (c : Cf) : Value := .agg c.cells
/-- an operation: Locale, Kind, Place, Value -/
structure Op where
  a : Int
  k : Int
  p : Int
  v : Int
abbrev encP (o : Op) : List Value := [.int .i64 o.a, .int .i64 o.k, .int .i64 o.p, .int .i64 o.v]
abbrev Op.cells (o : Op) : Array Value := #[.int .i64 o.a, .int .i64 o.k, .int .i64 o.p, .int .i64 o.v]
abbrev Op.val (o : Op) : Value := .agg o.cells
theorem lenP (o : Op) : (encP o).length = 4 := rfl
theorem oneP (o : Op) : ∀ u ∈ encP o, u.oneCell' = true := fun u hu => by
  simp at hu; rcases hu with rfl | rfl | rfl | rfl <;> rfl
/-- is a configuration right -/
def cfOk (c : Cf) : Prop := 1 ≤ c.L ∧ c.L ≤ 8 ∧ 4 ≤ c.W ∧ c.W ≤ 256 ∧ c.W % 4 = 0 ∧ 1 ≤ c.N ∧ c.N ≤ 16 ∧ 0 ≤ c.H ∧ c.H ≤ 8
instance (c : Cf) : Decidable (cfOk c) := by unfold cfOk; infer_instance
def cfE (c : Cf) : Int := if cfOk c then 0 else 4
/-- is an operation right -/
def opOk (c : Cf) (o : Op) : Prop := 0 ≤ o.a ∧ o.a < c.L ∧ 1 ≤ o.k ∧ o.k ≤ 4 ∧ (o.k = 2 ∨ o.v = 0) ∧ ((o.k ≤ 2 ∧ 0 ≤ o.p ∧ o.p < c.W) ∨ (3 ≤ o.k ∧ o.p = 0))
instance (c : Cf) (o : Op) : Decidable (opOk c o) := by unfold opOk; infer_instance
/-- is an operation one on data -/
def dtB (o : Op) : Bool := decide (o.k = 1 ∨ o.k = 2)
/-- the error of a configuration and a trace -/
def chkF (c : Cf) (l : List Op) : Int := if ¬ cfOk c then 4 else if 2000 < l.length then 5 else if ∀ o ∈ l, opOk c o then 0 else 1
theorem ret_dec {p : Prop} [Decidable p] {b : Bool} (h : b = true ↔ p) : Ending.returned (.bool b) = .returned (.bool (decide p)) := by
  rw [show b = decide p from (Bool.eq_iff_iff.2 (by simp [h]))]
theorem right26_calls (c : Cf) (w : World) : Calls Try.prog 26 #[c.val] w fun x w' => x = .returned (.int .i64 (cfE c)) ∧ Below w.heap.size w w' := by
  have hb : Below w.heap.size w (w.alloc (.cells c.cells 25)) := (Below.refl _ w).alloc (Nat.le_refl _) _
  have HB := Lib.hid hb
  clear hb
  go_enter Try.func26, Try.ntmps26
  go_wp2_with fail
  all_goals go_ret
  all_goals (first | (exfalso; omega) | (refine ⟨ret_int ?_, HB.out⟩; unfold cfE; first | rw [if_pos (by unfold cfOk; omega)] | rw [if_neg (by unfold cfOk; omega)]))
theorem right32_calls (c : Cf) (w : World) : Calls Try.prog 32 #[c.val] w fun x w' => x = .returned (.int .i64 (cfE c)) ∧ Below w.heap.size w w' := by
  have hb : Below w.heap.size w (w.alloc (.cells c.cells 23)) := (Below.refl _ w).alloc (Nat.le_refl _) _
  have HB := Lib.hid hb
  clear hb
  go_enter Try.func32, Try.ntmps32
  go_wp2_with fail
  all_goals go_ret
  all_goals (first | (exfalso; omega) | (refine ⟨ret_int ?_, HB.out⟩; unfold cfE; first | rw [if_pos (by unfold cfOk; omega)] | rw [if_neg (by unfold cfOk; omega)]))
theorem access_calls (a k p v : Int) (w : World) : Calls Try.prog 44 #[.agg #[.int .i64 a, .int .i64 k, .int .i64 p, .int .i64 v]] w fun x w' => x = .returned (.bool (decide (k = 1 ∨ k = 2))) ∧ Below w.heap.size w w' := by
  have hb : ∀ cs, Below w.heap.size w (w.alloc (.cells cs 38)) := fun cs => (Below.refl _ w).alloc (Nat.le_refl _) _
  have HB := Lib.hid hb
  clear hb
  go_enter Try.func44, Try.ntmps44
  go_wp2_with fail
  all_goals go_ret
  all_goals (first | (exfalso; omega) | exact ⟨rfl, HB.out _⟩ | (refine ⟨ret_dec ?_, HB.out _⟩; simp; done) | (refine ⟨ret_dec ?_, HB.out _⟩; simp; omega))
theorem opRight_calls (c : Cf) (o : Op) (w : World) : Calls Try.prog 29 #[o.val, c.val] w fun x w' => x = .returned (.bool (decide (opOk c o))) ∧ Below w.heap.size w w' := by
  have hb : Below w.heap.size w ((w.alloc (.cells o.cells 38)).alloc (.cells c.cells 25)) := ((Below.refl _ w).alloc (Nat.le_refl _) _).alloc (by simp) _
  have HB := Lib.hid hb
  have h1 : ((w.alloc (.cells o.cells 38)).alloc (.cells c.cells 25)).heap[w.heap.size]? = some (.cells o.cells 38 (0, 0)) := heap_alloc2_old w _ _
  have h2 : ((w.alloc (.cells o.cells 38)).alloc (.cells c.cells 25)).heap[w.heap.size + 1]? = some (.cells c.cells 25 (0, 0)) := heap_alloc2_new w _ _
  have c1 : ((w.alloc (.cells o.cells 38)).alloc (.cells c.cells 25)).cell? ⟨w.heap.size, 2, none⟩ = some (.int .i64 o.p) := by rw [cell_of_row _ _ _ _ _ _ h1]; rfl
  have c2 : ((w.alloc (.cells o.cells 38)).alloc (.cells c.cells 25)).cell? ⟨w.heap.size + 1, 1, none⟩ = some (.int .i64 c.W) := by rw [cell_of_row _ _ _ _ _ _ h2]; rfl
  have HC := Lib.hid (And.intro c1 c2)
  have ha := fun a k p v w => access_calls a k p v w
  have HA := Lib.hid ha
  clear hb ha h1 h2 c1 c2
  go_enter Try.func29, Try.ntmps29
  go_wp2_with ((with_reducible refine (HA.out _ _ _ _ _).mono ?_); rintro e w5 ⟨rfl, hb5⟩; have x1 := (hb5.cell (World.block_lt_of_cell? _ _ HC.out.1)).trans HC.out.1; have x2 := (hb5.cell (World.block_lt_of_cell? _ _ HC.out.2)).trans HC.out.2; have HB5 := Lib.hid (HB.out.trans (hb5.mono HB.out.size)); clear hb5)
  all_goals go_ret
  all_goals (try simp only [bne_iff_ne, ne_eq, bne_eq_false_iff_eq] at *)
  all_goals (first | (exfalso; omega) | exact ⟨rfl, HB.out⟩ | exact ⟨rfl, HB5.out⟩ | (refine ⟨ret_dec ?_, HB.out⟩; unfold opOk; simp; done) | (refine ⟨ret_dec ?_, HB.out⟩; unfold opOk; simp; omega) | (refine ⟨ret_dec ?_, HB5.out⟩; unfold opOk; simp; done) | (refine ⟨ret_dec ?_, HB5.out⟩; unfold opOk; simp; omega))
end Go.Proofs.Ytggidakiflnhhaa
