import Derived.Test.YthpcipfloofbcaaX
import Derived.Test.YthpcipfloofbcaaF
import Derived.Lib.SmallJoins
namespace Go.Proofs.Ythpcipfloofbcaa
open Go.ChangeShapes Go.WideShapes Go.ChangeAt Go.RowKit
set_option maxRecDepth 100000
set_option linter.unusedVariables false

theorem cells44 : Try.prog.cellsOf 44 = 9 := by kernel_rfl
theorem cells79 : Try.prog.cellsOf 79 = 3 := by kernel_rfl
theorem cells42 : Try.prog.cellsOf 42 = 3 := by kernel_rfl
theorem cells41 : Try.prog.cellsOf 41 = 1 := by kernel_rfl
theorem cells23 : Try.prog.cellsOf 23 = 1 := by kernel_rfl
theorem cells4 : Try.prog.cellsOf 4 = 1 := by kernel_rfl

section
variable {H : Type} {enc : TypeId × Value → H} {w : World} {base : Nat} {spare : Nat → Bool} {held : Bool}

theorem el79 (n : Nat) (cs' : List Value) (y : DataW H × List MemPlace) (hl : cs'.length = 3) (h : DataW.trod enc Try.prog w base spare held n 79 cs' = some y) : ∃ m : Mem, encM m = cs' ∧ True := by
  obtain ⟨xs, k, rfl, _, _, hxl, hf⟩ := DataW.trod_struct Try.underlying79 h
  match cs', hl with
  | [v0, v1, v2], _ =>
    have g0 := hf 0 _ rfl
    have g1 := hf 1 _ rfl
    have g2 := hf 2 _ rfl
    simp [cells3, cells4] at g0 g1 g2
    match xs, hxl with
    | [y0, y1, y2], _ =>
      simp at g0 g1 g2
      obtain ⟨a0, e0, _⟩ := DataW.trod_bool Try.underlying4 g0
      obtain ⟨a1, e1, _, w1⟩ := DataW.trod_int Try.underlying3 g1
      obtain ⟨a2, e2, _, w2⟩ := DataW.trod_int Try.underlying3 g2
      simp at e0 e1 e2
      subst e0 e1 e2
      exact ⟨⟨a0, a1, a2⟩, rfl, trivial⟩
theorem el3 (n : Nat) (cs' : List Value) (y : DataW H × List MemPlace) (hl : cs'.length = 1) (h : DataW.trod enc Try.prog w base spare held n 3 cs' = some y) : ∃ m : Int, encI m = cs' ∧ True := by
  obtain ⟨a, rfl, _, _⟩ := DataW.trod_int Try.underlying3 h
  exact ⟨a, rfl, trivial⟩
theorem slice_shape {t e : TypeId} {n : Nat} {c : Value} {y : DataW H × List MemPlace} (ht : Try.prog.underlying t = some (.slice e)) (h : DataW.trod enc Try.prog w base spare held n t [c] = some y) : ∃ A k m, c = .slice A k m := by
  rcases Go.Deep.open_slice ht h with ⟨hcs, _⟩ | ⟨a, len, cap, m, n, D, Pl, hcs, _⟩
  · simp at hcs; exact ⟨_, _, _, hcs⟩
  · simp at hcs; exact ⟨_, _, _, hcs⟩

/-- a state of the reference, as an argument by value -/
theorem open_state {rc : Go.Reach} {b0 : Nat} {v : Value} {d : DataW H} {p : List MemPlace} (hv : Value.okWide Try.prog w rc b0 44 v) (h : DataW.Trod enc Try.prog w base spare held 44 v d p) :
    ∃ (s : St) (A : Option Addr) (c : Nat) (B : Option Addr) (k : Nat), v = s.v A c B k ∧ RdS w A B s := by
  obtain ⟨cs, rfl, hsz⟩ := okWide_struct Try.underlying44 hv
  rw [cells44] at hsz
  obtain ⟨fuel, hf⟩ := h
  obtain ⟨xs, n, rfl, _, _, hxl, hfl⟩ := DataW.trod_struct Try.underlying44 hf
  match cs, hsz with
  | ⟨[c0, c1, c2, c3, c4, c5, c6, c7, c8]⟩, _ =>
    have g0 := hfl 0 _ rfl
    have g1 := hfl 1 _ rfl
    have g2 := hfl 2 _ rfl
    have g3 := hfl 3 _ rfl
    have g4 := hfl 4 _ rfl
    have g5 := hfl 5 _ rfl
    have g6 := hfl 6 _ rfl
    simp [cells3, cells4, cells41, cells23, cells42, Value.cells] at g0 g1 g2 g3 g4 g5 g6
    match xs, hxl with
    | [y0, y1, y2, y3, y4, y5, y6], _ =>
      simp at g0 g1 g2 g3 g4 g5 g6
      obtain ⟨A, n0, k0, rfl⟩ := slice_shape Try.underlying41 g0
      obtain ⟨B, n1, k1, rfl⟩ := slice_shape Try.underlying23 g1
      obtain ⟨ms, rfl, hM, _⟩ := open_rows encM (fun _ => True) Try.underlying41 cells79 g0 el79
      obtain ⟨fl, rfl, hF, _⟩ := open_rows encI (fun _ => True) Try.underlying23 cells3 g1 el3
      obtain ⟨zs, q, rfl, _, _, hzl, hw⟩ := DataW.trod_struct Try.underlying42 g2
      have u0 := hw 0 _ rfl
      have u1 := hw 1 _ rfl
      have u2 := hw 2 _ rfl
      simp [cells3] at u0 u1 u2
      match zs, hzl with
      | [x0, x1, x2], _ =>
        simp at u0 u1 u2
        obtain ⟨a2, e2, _, _⟩ := DataW.trod_int Try.underlying3 u0
        obtain ⟨a3, e3, _, _⟩ := DataW.trod_int Try.underlying3 u1
        obtain ⟨a4, e4, _, _⟩ := DataW.trod_int Try.underlying3 u2
        obtain ⟨a5, e5, _, _⟩ := DataW.trod_int Try.underlying3 g3
        obtain ⟨a6, e6, _, _⟩ := DataW.trod_int Try.underlying3 g4
        obtain ⟨a7, e7, _, _⟩ := DataW.trod_int Try.underlying3 g5
        obtain ⟨a8, e8, _⟩ := DataW.trod_bool Try.underlying4 g6
        simp at e2 e3 e4 e5 e6 e7 e8
        subst e2 e3 e4 e5 e6 e7 e8
        exact ⟨⟨ms, fl, a2, a3, a4, a5, a6, a7, a8⟩, A, k0, B, k1, rfl, hM, hF⟩
end
end Go.Proofs.Ythpcipfloofbcaa
