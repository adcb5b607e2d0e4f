import Derived.Test.YthebembnlmddoaaM
namespace Go.Proofs.Ythebembnlmddoaa
open Go.RowKit
set_option maxHeartbeats 1000000
set_option linter.unusedSimpArgs false
set_option linter.unusedVariables false

/-! ### races, plainly -/
def ev0 : Ev := ⟨0, 0, 0, 0, 0, 0, 0, 0, 0, 0, 0⟩
def evA (l : List Ev) (i : Nat) : Ev := (l[i]?).getD ev0
theorem evA_eq (l : List Ev) (i : Nat) (h : i < l.length) : evA l i = l[i] := by simp [evA, List.getElem?_eq_getElem h]
def raB (l : List Ev) (i j : Nat) : Bool := decide ((evA l i).k = 1) && decide ((evA l j).k = 1) && cfB (evA l i) (evA l j) && !bfB l i j
/-- the races of an event with those ahead of it, up to an index -/
def wU (l : List Ev) (j i : Nat) : List (Nat × Nat) := ((List.range i).filter (fun i => raB l i j)).map (fun i => (i, j))
def rU (l : List Ev) (j : Nat) : List (Nat × Nat) := (List.range j).flatMap (fun j => wU l j j)
def racesF (l : List Ev) : List (Nat × Nat) := rU l l.length
theorem wU_zero (l : List Ev) (j : Nat) : wU l j 0 = [] := rfl
theorem wU_succ (l : List Ev) (j i : Nat) : wU l j (i + 1) = wU l j i ++ (if raB l i j = true then [(i, j)] else []) := by
  unfold wU
  rw [List.range_succ, List.filter_append, List.map_append]
  by_cases h : raB l i j = true <;> simp [h]
theorem rU_succ (l : List Ev) (j : Nat) : rU l (j + 1) = rU l j ++ wU l j j := by
  unfold rU
  rw [List.range_succ, List.flatMap_append]
  simp
theorem wU_pre (l : List Ev) (j i k : Nat) (h : i ≤ k) : wU l j i <+: wU l j k := by
  induction k with
  | zero =>
    obtain rfl : i = 0 := by omega
    exact List.prefix_refl _
  | succ k ih =>
    by_cases e : i = k + 1
    · subst e; exact List.prefix_refl _
    · rw [wU_succ]
      exact (ih (by omega)).trans (List.prefix_append _ _)
theorem rU_pre (l : List Ev) (j k : Nat) (h : j ≤ k) : rU l j <+: rU l k := by
  induction k with
  | zero =>
    obtain rfl : j = 0 := by omega
    exact List.prefix_refl _
  | succ k ih =>
    by_cases e : j = k + 1
    · subst e; exact List.prefix_refl _
    · rw [rU_succ]
      exact (ih (by omega)).trans (List.prefix_append _ _)
theorem part_pre (l : List Ev) (j i : Nat) (hj : j < l.length) (hi : i ≤ j) : rU l j ++ wU l j i <+: racesF l := by
  have h1 : rU l j ++ wU l j i <+: rU l (j + 1) := by
    rw [rU_succ]
    exact (List.prefix_append_right_inj _).2 (wU_pre l j i j hi)
  exact h1.trans (rU_pre l (j + 1) l.length (by omega))
theorem racesF_mem (l : List Ev) (i j : Nat) : (i, j) ∈ racesF l ↔ i < j ∧ j < l.length ∧ raB l i j = true := by
  unfold racesF rU wU
  simp only [List.mem_flatMap, List.mem_range, List.mem_map, List.mem_filter, Prod.mk.injEq]
  constructor
  · rintro ⟨j', hj, i', ⟨hi, hr⟩, rfl, rfl⟩
    exact ⟨hi, hj, hr⟩
  · rintro ⟨h1, h2, h3⟩
    exact ⟨j, h2, i, ⟨h1, h3⟩, rfl, rfl⟩
/-- the cells of an event, each by itself -/
theorem ev_eleven {w : World} {p : Addr} {e : Ev} (h : ∀ j v, (encE e)[j]? = some v → w.cell? (p.add j) = some v) :
    w.cell? p = some (.int .i64 e.k) ∧ w.cell? ⟨p.block, p.off + 1, none⟩ = some (.int .i64 e.t) ∧ w.cell? ⟨p.block, p.off + 2, none⟩ = some (.int .i64 e.p) ∧ w.cell? ⟨p.block, p.off + 3, none⟩ = some (.int .i64 e.q) ∧
    w.cell? ⟨p.block, p.off + 4, none⟩ = some (.int .i64 e.r) ∧ w.cell? ⟨p.block, p.off + 5, none⟩ = some (.int .i64 e.m) ∧ w.cell? ⟨p.block, p.off + 6, none⟩ = some (.int .i64 e.f) ∧ w.cell? ⟨p.block, p.off + 7, none⟩ = some (.int .i64 e.a) ∧
    w.cell? ⟨p.block, p.off + 8, none⟩ = some (.int .i64 e.o) ∧ w.cell? ⟨p.block, p.off + 9, none⟩ = some (.int .i64 e.x) ∧ w.cell? ⟨p.block, p.off + 10, none⟩ = some (.int .i64 e.y) := by
  have ha : ∀ j, j ≠ 0 → p.add j = ⟨p.block, p.off + j, none⟩ := fun j hj => by unfold Addr.add; rw [if_neg hj]
  refine ⟨by have := h 0 _ rfl; simpa [Addr.add] using this, ?_⟩
  refine ⟨?_, ?_, ?_, ?_, ?_, ?_, ?_, ?_, ?_, ?_⟩
  · rw [← ha 1 (by omega)]; exact h 1 _ rfl
  · rw [← ha 2 (by omega)]; exact h 2 _ rfl
  · rw [← ha 3 (by omega)]; exact h 3 _ rfl
  · rw [← ha 4 (by omega)]; exact h 4 _ rfl
  · rw [← ha 5 (by omega)]; exact h 5 _ rfl
  · rw [← ha 6 (by omega)]; exact h 6 _ rfl
  · rw [← ha 7 (by omega)]; exact h 7 _ rfl
  · rw [← ha 8 (by omega)]; exact h 8 _ rfl
  · rw [← ha 9 (by omega)]; exact h 9 _ rfl
  · rw [← ha 10 (by omega)]; exact h 10 _ rfl
end Go.Proofs.Ythebembnlmddoaa
