import Derived.Test.YthccnaemocdcbaaA
namespace Go.Proofs.Ythccnaemocdcbaa
open Go.RowKit Ieee
set_option maxHeartbeats 1000000
set_option maxRecDepth 100000
set_option linter.unusedSimpArgs false
set_option linter.unusedVariables false

theorem kOk (k : FloatKind) : Ok k.format := by cases k; exact ok_single; exact ok_double

/-- a whole complex number -/
abbrev G := Int × Int
def gmul (z u : G) : G := (z.1 * u.1 - z.2 * u.2, z.1 * u.2 + z.2 * u.1)
/-- the parts are at most M -/
def gb (M : Nat) (z : G) : Prop := z.1.natAbs ≤ M ∧ z.2.natAbs ≤ M
abbrev can (k : FloatKind) (x : Int) : Nat := k.nearest x
theorem can_fc (k : FloatKind) (x : Int) : Fc k.format (can k x) x := Fc.ofInt x
abbrev encG (k : FloatKind) (z : G) : List Value := [.complex k (can k z.1) (can k z.2)]
/-- the value v is the number z; a zero part may have either sign -/
def Cx (k : FloatKind) (v : Value) (z : G) : Prop := ∃ r i, v = .complex k r i ∧ Fc k.format r z.1 ∧ Fc k.format i z.2
theorem Cx.can (k : FloatKind) (z : G) : Cx k (.complex k (can k z.1) (can k z.2)) z := ⟨_, _, rfl, can_fc k _, can_fc k _⟩

theorem run_cadd {k : FloatKind} {v1 v2 : Value} {z1 z2 : G} {M N : Nat} (h1 : Cx k v1 z1) (h2 : Cx k v2 z2) (b1 : gb M z1) (b2 : gb N z2) (hb : M + N < 2 ^ 24) (t : TypeId) :
    ∃ v, Cx k v (z1.1 + z2.1, z1.2 + z2.2) ∧ ∀ w, (binOp .add t v1 v2).run Try.prog w = .ok v w := by
  obtain ⟨r1, i1, rfl, hr1, hi1⟩ := h1
  obtain ⟨r2, i2, rfl, hr2, hi2⟩ := h2
  obtain ⟨b11, b12⟩ := b1
  obtain ⟨b21, b22⟩ := b2
  obtain ⟨r, e1, f1⟩ := Fc.add (kOk k) hr1 hr2 (by unfold small; omega) (by unfold small; omega) (by unfold small; omega)
  obtain ⟨i, e2, f2⟩ := Fc.add (kOk k) hi1 hi2 (by unfold small; omega) (by unfold small; omega) (by unfold small; omega)
  refine ⟨.complex k r i, ⟨r, i, rfl, f1, f2⟩, fun w => ?_⟩
  simp [binOp, Op.complexOp, Op.Complex.arith, Op.floatArith, e1, e2]

theorem conv_up {k g : FloatKind} {b : Nat} {x : Int} (h : Fc k.format b x) (hx : small x) : ∃ b', Fc g.format b' x ∧ ∀ w, (Op.Complex.conv k b g).run Try.prog w = .ok b' w := by
  by_cases e : k = g
  · subst e
    exact ⟨b, h, fun w => by simp [Op.Complex.conv]⟩
  · obtain ⟨s, m, pl, h1, h2, h3⟩ := Fc.conv (kOk k) (kOk g) h hx
    refine ⟨_, h2, fun w => ?_⟩
    have h1' : k.decode b = .number s m pl := h1
    have h3' : (g.decode (g.encode (.number s m pl))).isInfinity = false := h3
    simp [Op.Complex.conv, Conv.floatToFloat, e, h1', h3']
    rfl

theorem abs_mul_le {x y : Int} {M N : Nat} (hx : x.natAbs ≤ M) (hy : y.natAbs ≤ N) : (x * y).natAbs ≤ M * N := by
  rw [Int.natAbs_mul]; exact Nat.mul_le_mul hx hy

theorem run_cmul {k : FloatKind} {v1 v2 : Value} {z1 z2 : G} {M N : Nat} (h1 : Cx k v1 z1) (h2 : Cx k v2 z2) (b1 : gb M z1) (b2 : gb N z2) (hM : M < 2 ^ 24) (hN : N < 2 ^ 24) (hb : 2 * (M * N) < 2 ^ 24) (t : TypeId) :
    ∃ v, Cx k v (gmul z1 z2) ∧ ∀ w, (binOp .mul t v1 v2).run Try.prog w = .ok v w := by
  obtain ⟨r1, i1, rfl, hr1, hi1⟩ := h1
  obtain ⟨r2, i2, rfl, hr2, hi2⟩ := h2
  obtain ⟨b11, b12⟩ := b1
  obtain ⟨b21, b22⟩ := b2
  have s11 : small z1.1 := by unfold small; omega
  have s12 : small z1.2 := by unfold small; omega
  have s21 : small z2.1 := by unfold small; omega
  have s22 : small z2.2 := by unfold small; omega
  have p1 := abs_mul_le b11 b21
  have p2 := abs_mul_le b12 b22
  have p3 := abs_mul_le b11 b22
  have p4 := abs_mul_le b12 b21
  obtain ⟨a, fa, ea⟩ := conv_up (g := .f64) hr1 s11
  obtain ⟨b, fb, eb⟩ := conv_up (g := .f64) hi1 s12
  obtain ⟨c, fc, ec⟩ := conv_up (g := .f64) hr2 s21
  obtain ⟨d, fd, ed⟩ := conv_up (g := .f64) hi2 s22
  obtain ⟨x1, ex1, fx1⟩ := Fc.mul ok_double fa fc s11 s21 (by unfold small; omega)
  obtain ⟨x2, ex2, fx2⟩ := Fc.mul ok_double fb fd s12 s22 (by unfold small; omega)
  obtain ⟨x3, ex3, fx3⟩ := Fc.mul ok_double fa fd s11 s22 (by unfold small; omega)
  obtain ⟨x4, ex4, fx4⟩ := Fc.mul ok_double fb fc s12 s21 (by unfold small; omega)
  obtain ⟨y1, ey1, fy1⟩ := Fc.sub ok_double fx1 fx2 (by unfold small; omega) (by unfold small; omega) (by unfold small; omega)
  obtain ⟨y2, ey2, fy2⟩ := Fc.add ok_double fx3 fx4 (by unfold small; omega) (by unfold small; omega) (by unfold small; omega)
  obtain ⟨r, fr, er⟩ := conv_up (k := .f64) (g := k) fy1 (by unfold small; omega)
  obtain ⟨i, fi, ei⟩ := conv_up (k := .f64) (g := k) fy2 (by unfold small; omega)
  refine ⟨.complex k r i, ⟨r, i, rfl, fr, fi⟩, fun w => ?_⟩
  have q1 : FloatKind.f64.format.mul a c = some x1 := ex1
  have q2 : FloatKind.f64.format.mul b d = some x2 := ex2
  have q3 : FloatKind.f64.format.mul a d = some x3 := ex3
  have q4 : FloatKind.f64.format.mul b c = some x4 := ex4
  have q5 : FloatKind.f64.format.sub x1 x2 = some y1 := ey1
  have q6 : FloatKind.f64.format.add x3 x4 = some y2 := ey2
  simp [binOp, Op.complexOp, Op.Complex.product, Op.Complex.mul, Op.Complex.add, Op.Complex.sub, Op.Complex.arith, Op.floatArith, ea, eb, ec, ed, er, ei, q1, q2, q3, q4, q5, q6]
end Go.Proofs.Ythccnaemocdcbaa
