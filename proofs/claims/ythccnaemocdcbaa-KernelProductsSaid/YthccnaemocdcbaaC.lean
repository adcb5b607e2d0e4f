import Derived.Test.YthccnaemocdcbaaB
import Derived.Laws.Externs
namespace Go.Proofs.Ythccnaemocdcbaa
open Go.RowKit Ieee
set_option maxHeartbeats 1000000
set_option maxRecDepth 100000
set_option linter.unusedSimpArgs false
set_option linter.unusedVariables false

theorem cmp_eq (x y : Int) : (compare x y = .eq ↔ x = y) ∧ (compare x y = .lt ↔ x < y) ∧ (compare x y = .gt ↔ y < x) := by
  simp only [compare, compareOfLessAndEq]
  by_cases h2 : x < y
  · rw [if_pos h2]; simp; omega
  · rw [if_neg h2]
    by_cases h1 : x = y
    · rw [if_pos h1]; simp; omega
    · rw [if_neg h1]; simp; omega
theorem ord_ge {k : FloatKind} {a b : Nat} {x y : Int} (ha : Fc k.format a x) (hb : Fc k.format b y) (hx : small x) (hy : small y) : (k.format.order a b == some Ordering.gt || k.format.order a b == some Ordering.eq) = decide (y ≤ x) := by
  rw [Fc.order (kOk k) ha hb hx hy]
  obtain ⟨h1, h2, h3⟩ := cmp_eq x y
  rw [Bool.eq_iff_iff]; simp; rw [h3]; omega
theorem ord_le {k : FloatKind} {a b : Nat} {x y : Int} (ha : Fc k.format a x) (hb : Fc k.format b y) (hx : small x) (hy : small y) : (k.format.order a b == some Ordering.lt || k.format.order a b == some Ordering.eq) = decide (x ≤ y) := by
  rw [Fc.order (kOk k) ha hb hx hy]
  obtain ⟨h1, h2, h3⟩ := cmp_eq x y
  rw [Bool.eq_iff_iff]; simp; rw [h2]; omega
theorem ord_eq {k : FloatKind} {a b : Nat} {x y : Int} (ha : Fc k.format a x) (hb : Fc k.format b y) (hx : small x) (hy : small y) : (k.format.order a b == some Ordering.eq) = decide (x = y) := by
  rw [Fc.order (kOk k) ha hb hx hy]
  obtain ⟨h1, h2, h3⟩ := cmp_eq x y
  rw [Bool.eq_iff_iff]; simp

theorem f67_find : ∃ fn, Try.prog.funcs[67]? = some fn ∧ (fn.name == "runtime.NumGoroutine") = false ∧ fn.body.isNone = true ∧ Extern.findNext fn = none ∧ Extern.find fn = some (Extern.MathFloor.toIntegral "math.archTrunc" .zero) := by
  refine ⟨_, rfl, by kernel_rfl, by kernel_rfl, by kernel_rfl, ?_⟩
  rfl
theorem f67 {b : Nat} {x : Int} (h : Fc FloatKind.f64.format b x) (hx : small x) : ∃ b', Fc FloatKind.f64.format b' x ∧ ∀ w, (callFunc 67 #[.float .f64 b]).run Try.prog w = .ok (.value (.float .f64 b')) w := by
  obtain ⟨fn, h1, h2, h3, h4, h5⟩ := f67_find
  obtain ⟨s, k, hr, hs⟩ := h.read ok_double hx
  have hm := Fc.mk ok_double hx s 0 hs
  refine ⟨_, hm, fun w => ?_⟩
  rw [run_callFunc_extern h1 h2 h3 h4 h5]
  have hr' : FloatKind.f64.decode b = .number s (x.natAbs * 2 ^ k) (-(k : Int)) := hr
  have e1 : (-(k : Int)).toNat = 0 := by omega
  have e2 : (- -(k : Int)).toNat = k := by omega
  have e3 : (Datum.number s (x.natAbs * 2 ^ k) (-(k : Int))).integral .zero = .number s (x.natAbs * 2 ^ 0) (-((0 : Nat) : Int)) := by
    simp only [Datum.integral, e1, e2, Nat.shiftLeft_zero, cut_zero]; simp
  show (Sem.run Try.prog (match FloatKind.f64.decode b with
    | .nan s t =>
      if FloatKind.f64.format.quiet t = t then pure (Value.float .f64 b) else do
      let kept ← choose (.extern "math.Floor,Ceil,Trunc,RoundToEven.signallingNaN kept" 2)
      pure (Value.float .f64 (if kept == 1 then b else FloatKind.f64.encode (.nan s (FloatKind.f64.format.quiet t))))
    | d => pure (Value.float .f64 (FloatKind.f64.encode (d.integral .zero)))) w).andThen (fun v w' => Result.ok (Next.value v) w') = _
  rw [hr']
  simp only [e3]
  rfl

theorem trunc_calls {b : Nat} {x : Int} (h : Fc FloatKind.f64.format b x) (hx : small x) (w : World) :
    Calls Try.prog 56 #[.float .f64 b] w fun e w' => (∃ b', e = .returned (.float .f64 b') ∧ Fc FloatKind.f64.format b' x) ∧ w = w' := by
  obtain ⟨b', hb', hrun⟩ := f67 h hx
  have HB := Lib.hid hb'
  clear hb' h hx
  go_enter Try.func56, Try.ntmps56
  go_wp2
  go_ret
  exact ⟨⟨_, rfl, HB.out⟩, rfl⟩

theorem whole_calls {b c : Nat} {x most : Int} (h : Fc FloatKind.f64.format b x) (hc : Fc FloatKind.f64.format c most) (hn : Fc FloatKind.f64.format (Op.negFloat .f64 c) (-most)) (hx : x.natAbs ≤ most.toNat) (hm : small most) (h0 : 0 ≤ most) (w : World) :
    Calls Try.prog 31 #[.float .f64 b, .float .f64 c] w fun e w' => e = .returned (.bool true) ∧ w = w' := by
  have hs : small x := by unfold small at *; omega
  have hsn : small (-most) := by unfold small at *; omega
  have hge := ord_ge h hn hs hsn
  rw [decide_eq_true (by omega)] at hge
  have hle := ord_le h hc hs hm
  rw [decide_eq_true (by omega)] at hle
  have htr := trunc_calls h hs w
  have heq := fun (b' : Nat) (hb' : Fc FloatKind.f64.format b' x) => (ord_eq h hb' hs hs).trans (decide_eq_true rfl)
  have hng : ∀ w : World, (Op.unary .neg (.float .f64 c)).run Try.prog w = .ok (.float .f64 (Op.negFloat .f64 c)) w := fun _ => rfl
  have HT := Lib.hid htr
  have HE := Lib.hid heq
  clear htr heq h hc hn hx hm h0 hs hsn
  go_enter Try.func31, Try.ntmps31
  go_wp2_with fail
  (with_reducible refine (HT.out).mono ?_); rintro e w' ⟨⟨b', rfl, hb'⟩, rfl⟩
  have he := HE.out b' hb'
  clear hb'
  go_wp2_with fail
  go_ret
  exact ⟨rfl, rfl⟩
end Go.Proofs.Ythccnaemocdcbaa
