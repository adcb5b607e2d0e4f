import Derived.Test.YthpcipfloofbcaaU
import Derived.WalkKit
import Derived.ProofKit
import Derived.OpenShut
import Derived.Deep.Slices
import Derived.Carry
namespace Go.Proofs.Ythpcipfloofbcaa
open Go.ChangeShapes Go.WideShapes Go.ChangeAt Go.RowKit
set_option maxRecDepth 100000
set_option linter.unusedVariables false

theorem choose_all {α : Type} {n : Nat} {p : Nat → α → Prop} (h : ∀ i, i < n → ∃ y, p i y) : ∃ ys : List α, ys.length = n ∧ ∀ i (hi : i < ys.length), p i ys[i] := by
  induction n with
  | zero => exact ⟨[], rfl, fun i hi => by simp at hi⟩
  | succ n ih =>
    obtain ⟨ys, hl, hy⟩ := ih (fun i hi => h i (by omega))
    obtain ⟨y, hp⟩ := h n (by omega)
    refine ⟨ys ++ [y], by simp [hl], fun i hi => ?_⟩
    by_cases e : i < ys.length
    · rw [List.getElem_append_left e]; exact hy i e
    · have : i = n := by simp at hi; omega
      subst this
      rw [List.getElem_append_right (by omega)]
      simpa [hl] using hp

/-- a slice whose elements read by a law of their own -/
theorem open_rows {α : Type} (enc' : α → List Value) (good : α → Prop) {sz : Nat} {H : Type} {enc : TypeId × Value → H} {P : Program} {w : World} {base : Nat} {spare : Nat → Bool} {held : Bool} {t e : TypeId} {fuel : Nat} {A0 : Option Addr} {n0 c0 : Nat} {x : DataW H × List MemPlace}
    (ht : P.underlying t = some (.slice e)) (hc : P.cellsOf e = sz) (h : DataW.trod enc P w base spare held fuel t [.slice A0 n0 c0] = some x)
    (hel : ∀ n cs' y, cs'.length = sz → DataW.trod enc P w base spare held n e cs' = some y → ∃ y : α, enc' y = cs' ∧ good y) :
    ∃ xs : List α, xs.length = n0 ∧ Rd enc' sz w A0 xs ∧ (∀ y ∈ xs, good y) := by
  rcases Go.Deep.open_slice ht h with ⟨hcs, _⟩ | ⟨a, len, cap, m, n, D, Pl, hcs, hb, hl, hm, hmm, _, hx⟩
  · simp only [List.cons.injEq, Value.slice.injEq, and_true] at hcs
    obtain ⟨rfl, rfl, rfl⟩ := hcs
    exact ⟨[], rfl, Rd.nil _ _ _ _, fun y hy => by simp at hy⟩
  · simp only [List.cons.injEq, Value.slice.injEq, and_true] at hcs
    obtain ⟨rfl, rfl, rfl⟩ := hcs
    have hlm : n0 ≤ m := by rw [hmm]; split <;> omega
    obtain ⟨ys, hys, hy⟩ := choose_all (n := n0) (p := fun i (y : α) => good y ∧ ∀ j v, (enc' y)[j]? = some v → w.cell? (a.add (i * sz + j)) = some v) (fun i hi => by
      obtain ⟨cs', h1, h2⟩ := hx i (by omega)
      rw [hc] at h1
      obtain ⟨_, hlen, hcell⟩ := World.cells?_some h1
      obtain ⟨y, rfl, hg⟩ := hel n cs' _ hlen h2
      refine ⟨y, hg, fun j v hv => ?_⟩
      have hj : j < sz := by rw [← hlen]; exact (List.getElem?_eq_some_iff.1 hv).1
      have := hcell j hj
      rw [Go.Deep.add_add] at this
      rw [this]; exact hv)
    refine ⟨ys, hys, ⟨by simp only [maxLen] at hm; omega, fun k hk => ⟨a, rfl, (hy k hk).2⟩⟩, fun y hm => ?_⟩
    obtain ⟨i, hi, rfl⟩ := List.mem_iff_getElem.1 hm
    exact (hy i hi).1

def Mov.wf (m : Mov) : Prop := (Lit.int .i64 m.k).wf = true ∧ (Lit.int .i64 m.a).wf = true ∧ (Lit.int .i64 m.b).wf = true
theorem cells55 : Try.prog.cellsOf 55 = 3 := by kernel_rfl
theorem cells3 : Try.prog.cellsOf 3 = 1 := by kernel_rfl
theorem el55 {H : Type} {enc : TypeId × Value → H} {w : World} {base : Nat} {spare : Nat → Bool} {held : Bool} (n : Nat) (cs' : List Value) (y : DataW H × List MemPlace) (hl : cs'.length = 3) (h : DataW.trod enc Try.prog w base spare held n 55 cs' = some y) : ∃ m : Mov, encV m = cs' ∧ m.wf := by
  obtain ⟨xs, k, rfl, _, _, hxl, hf⟩ := DataW.trod_struct Try.underlying55 h
  match cs', hl with
  | [v0, v1, v2], _ =>
    have g0 := hf 0 _ rfl
    have g1 := hf 1 _ rfl
    have g2 := hf 2 _ rfl
    simp [cells3] at g0 g1 g2
    match xs, hxl with
    | [y0, y1, y2], _ =>
      simp at g0 g1 g2
      obtain ⟨a0, e0, _, w0⟩ := DataW.trod_int Try.underlying3 g0
      obtain ⟨a1, e1, _, w1⟩ := DataW.trod_int Try.underlying3 g1
      obtain ⟨a2, e2, _, w2⟩ := DataW.trod_int Try.underlying3 g2
      simp at e0 e1 e2
      subst e0 e1 e2
      exact ⟨⟨a0, a1, a2⟩, rfl, w0, w1, w2⟩
end Go.Proofs.Ythpcipfloofbcaa
