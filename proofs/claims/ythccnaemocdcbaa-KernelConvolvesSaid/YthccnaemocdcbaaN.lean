import Derived.Test.YthccnaemocdcbaaM
import Derived.Deep.RegionHeld3
namespace Go.Proofs.Ythccnaemocdcbaa
open Go.RowKit Ieee
set_option maxHeartbeats 4000000
set_option maxRecDepth 100000
set_option linter.unusedSimpArgs false
set_option linter.unusedVariables false

theorem f59_find : ∃ fn, Try.prog.funcs[59]? = some fn ∧ (fn.name == "runtime.NumGoroutine") = false ∧ fn.body.isNone = true ∧ Extern.findNext fn = none ∧ Extern.find fn = some Extern.MathFloatBits.float64bits := by
  refine ⟨_, rfl, by kernel_rfl, by kernel_rfl, by kernel_rfl, ?_⟩
  rfl
theorem f59 (b : Nat) (w : World) : (callFunc 59 #[.float .f64 b]).run Try.prog w = .ok (.value (.int .u64 b)) w := by
  obtain ⟨fn, h1, h2, h3, h4, h5⟩ := f59_find
  rw [run_callFunc_extern h1 h2 h3 h4 h5]
  rfl
theorem bits_calls (b : Nat) (w : World) : Calls Try.prog 34 #[.float .f64 b, .float .f64 b] w fun e w' => e = .returned (.bool true) ∧ w = w' := by
  have h := fun w => f59 b w
  go_enter Try.func34, Try.ntmps34
  go_wp2_with fail
  go_ret
  exact ⟨rfl, rfl⟩

theorem same_calls (zs : List G) (A A' : Option Addr) (c c' : Nat) (w : World) (h : Rd (encG .f64) 1 w A zs) (h' : Rd (encG .f64) 1 w A' zs) :
    Calls Try.prog 13 #[.slice A zs.length c, .slice A' zs.length c'] w fun e w' => e = .returned (.bool true) ∧ Below w.heap.size w w' := by
  have hl := h.small
  have HR := Lib.hid (And.intro h h')
  have hbc := fun b (w : World) => bits_calls b w
  have HB := Lib.hid hbc
  clear h h' hbc
  generalize hn : zs.length = n at *
  have HN := Lib.hid hn
  clear hn
  go_enter Try.func13, Try.ntmps13
  go_wp2_with fail
  go_loopg [5, 11, 12, 13, 14, 15, 16, 17, 18, 19, 20, 21, 22, 23, 24, 25, 26, 27, 28, 29, 30, 31, 32, 33, 34, 35, 36, 37, 38, 39, 40, 41, 42] n (fun gk v5 v11 v12 v13 v14 v15 v16 v17 v18 v19 v20 v21 v22 v23 v24 v25 v26 v27 v28 v29 v30 v31 v32 v33 v34 v35 v36 v37 v38 v39 v40 v41 v42 wx => ∃ j : Nat, j + gk = n ∧ v5 = .int .i64 (j : Int) ∧ Below w.heap.size w wx)
  case atStart => exact ⟨0, by omega, rfl, Below.refl _ _⟩
  case round =>
    obtain ⟨j, hj, rfl, hbx⟩ := hrel
    by_cases hjn : j < n
    · have hb1 : decide (j < n) = true := decide_eq_true hjn
      have hjz : j < zs.length := by rw [HN.out]; exact hjn
      obtain ⟨a, rfl, q1⟩ := (HR.out.1.below hbx).g j hjz
      obtain ⟨a', rfl, q2⟩ := (HR.out.2.below hbx).g j hjz
      generalize can .f64 zs[j].1 = r at q1 q2
      generalize can .f64 zs[j].2 = im at q1 q2
      have hd : Below w.heap.size w wr.drew := hbx.drew
      have HD := Lib.hid hd
      have HQ := Lib.hid (And.intro (show wr.drew.cell? (a.add j) = some (.complex .f64 r im) from q1) (show wr.drew.cell? (a'.add j) = some (.complex .f64 r im) from q2))
      clear hbx hd
      go_upto_region 6 with fail
      go_region_held3 (fun w' => w'.cell? (a.add j) = some (.complex .f64 r im) ∧ w'.cell? (a'.add j) = some (.complex .f64 r im)) (with_reducible exact HQ.out) (first | (go_at_call 34; (with_reducible refine (HB.out _ _).mono ?_); rintro e w5 ⟨rfl, rfl⟩))
      all_goals go_wp2_with fail
      all_goals (
        go_roundg (gk - 1)
        case measure => omega
        case rel => exact ⟨j + 1, by omega, by go_num, HD.out⟩)
    · have hb1 : decide (j < n) = false := decide_eq_false hjn
      have HBX := Lib.hid hbx
      clear hbx
      go_wp2_with fail
      go_ret
      exact ⟨rfl, HBX.out⟩

theorem toint_run {b : Nat} {x : Int} (h : Fc FloatKind.f64.format b x) (hx : small x) (w : World) : (convert 28 3 (.float .f64 b)).run Try.prog w = .ok (.int .i64 x) w := by
  refine run_convert_float_int w 28 3 .f64 .i64 b x (by kernel_rfl) Try.underlying3 ?_
  have e : (FloatKind.f64.decode b).toInt .zero = some x := Fc.toInt ok_double h hx
  unfold floatToIntVal
  rw [e]
  have : IntKind.i64.min ≤ x ∧ x ≤ IntKind.i64.max := by
    unfold small at hx
    constructor <;> simp [IntKind.min, IntKind.max, IntKind.signed, IntKind.bits] <;> omega
  exact if_pos this

theorem times_calls (x y : G) (M : Nat) (hx : gb M x) (hy : gb M y) (hM : M ≤ 2000) (w : World) :
    Calls Try.prog 14 #[.complex .f64 (can .f64 x.1) (can .f64 x.2), .complex .f64 (can .f64 y.1) (can .f64 y.2)] w fun e w' => e = .returned (.complex .f64 (can .f64 (gmul x y).1) (can .f64 (gmul x y).2)) ∧ w = w' := by
  have r1 := toint_run (can_fc .f64 x.1) (by have := hx.1; unfold small; omega)
  have r2 := toint_run (can_fc .f64 x.2) (by have := hx.2; unfold small; omega)
  have r3 := toint_run (can_fc .f64 y.1) (by have := hy.1; unfold small; omega)
  have r4 := toint_run (can_fc .f64 y.2) (by have := hy.2; unfold small; omega)
  have hMM : M * M ≤ 2000 * 2000 := Nat.mul_le_mul hM hM
  have p1 := abs_mul_le hx.1 hy.1
  have p2 := abs_mul_le hx.2 hy.2
  have p3 := abs_mul_le hx.1 hy.2
  have p4 := abs_mul_le hx.2 hy.1
  have w1 : wrap64 (x.1 * y.1) = x.1 * y.1 := wrap64_in' _ (by omega)
  have w2 : wrap64 (x.2 * y.2) = x.2 * y.2 := wrap64_in' _ (by omega)
  have w3 : wrap64 (x.1 * y.2) = x.1 * y.2 := wrap64_in' _ (by omega)
  have w4 : wrap64 (x.2 * y.1) = x.2 * y.1 := wrap64_in' _ (by omega)
  have w5 : wrap64 (x.1 * y.1 - x.2 * y.2) = x.1 * y.1 - x.2 * y.2 := wrap64_in' _ (by omega)
  have w6 : wrap64 (x.1 * y.2 + x.2 * y.1) = x.1 * y.2 + x.2 * y.1 := wrap64_in' _ (by omega)
  have hg : gmul x y = (x.1 * y.1 - x.2 * y.2, x.1 * y.2 + x.2 * y.1) := rfl
  rw [hg]
  clear hMM p1 p2 p3 p4 hg hx hy hM
  generalize can .f64 x.1 = b1 at r1 ⊢
  generalize can .f64 x.2 = b2 at r2 ⊢
  generalize can .f64 y.1 = b3 at r3 ⊢
  generalize can .f64 y.2 = b4 at r4 ⊢
  generalize x.1 = x1 at *
  generalize x.2 = x2 at *
  generalize y.1 = y1 at *
  generalize y.2 = y2 at *
  go_enter Try.func14, Try.ntmps14
  go_wp2_with fail
  go_ret
  exact ⟨rfl, rfl⟩
end Go.Proofs.Ythccnaemocdcbaa
