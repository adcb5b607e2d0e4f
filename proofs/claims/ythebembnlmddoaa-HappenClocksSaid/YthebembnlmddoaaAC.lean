import Derived.Test.YthebembnlmddoaaAB
namespace Go.Proofs.Ythebembnlmddoaa
open Go.RowKit
set_option maxHeartbeats 4000000
set_option maxRecDepth 100000
set_option linter.unusedSimpArgs false
set_option linter.unusedVariables false

theorem eq40 (d : Nat) (a0 a1 b0 b1 : Int) (w : World) : (Op.equalIn (d + 2) 40 (.agg #[.int .i64 a0, .int .i64 a1]) (.agg #[.int .i64 b0, .int .i64 b1])).run Try.prog w = .ok (a0 == b0 && a1 == b1) w := by
  have hu : Try.prog.underlying 40 = some (.array 2 3) := Try.underlying40
  have hag : (isAgg 3).run Try.prog w = .ok false w := by
    unfold isAgg
    rw [Sem.run_bind, run_underlying Try.underlying3 w]
    rfl
  obtain ⟨i0, hi, hz0, hz1, hz2⟩ := info_parts info3
  have hr : List.range' 0 2 = [0, 1] := rfl
  have hs : Std.Legacy.Range.size [:2] = 2 := rfl
  simp only [Op.equalIn, Sem.run_bind, run_underlying hu, Result.andThen_ok, sizeOf, typeInfo, run_program, hi]
  simp [Std.Legacy.Range.forIn_eq_forIn_range', hs, hr, part, hag, hz1, Op.equalIn, run_underlying Try.underlying3]
  by_cases h0 : a0 = b0 <;> by_cases h1 : a1 = b1 <;> simp [h0, h1]
/-- are two events the same -/
def evB (a b : Ev) : Bool := a.k == b.k && ((a.t == b.t && ((a.p == b.p && (a.q == b.q && a.r == b.r)) && (a.m == b.m && (a.f == b.f && a.a == b.a)))) && (a.o == b.o && (a.x == b.x && a.y == b.y)))
theorem evB_self (a : Ev) : evB a a = true := by simp [evB]
theorem eq42 (d : Nat) (a b : Ev) (w : World) : (Op.equalIn (d + 4) 42 a.val b.val).run Try.prog w = .ok (evB a b) w := by
  have hag : ∀ w, (isAgg 3).run Try.prog w = .ok false w := by
    intro w
    unfold isAgg
    rw [Sem.run_bind, run_underlying Try.underlying3 w]
    rfl
  have hag2 : ∀ w, (isAgg 39).run Try.prog w = .ok true w := by
    intro w
    unfold isAgg
    rw [Sem.run_bind, run_underlying Try.underlying39 w]
    rfl
  have hag3 : ∀ w, (isAgg 40).run Try.prog w = .ok true w := by
    intro w
    unfold isAgg
    rw [Sem.run_bind, run_underlying Try.underlying40 w]
    rfl
  have hs39 : ∀ w, (sizeOf 39).run Try.prog w = .ok 7 w := fun w => by kernel_rfl
  have hs40 : ∀ w, (sizeOf 40).run Try.prog w = .ok 2 w := fun w => by kernel_rfl
  have h39 := fun w => eq39 d a b w
  have h40 := fun a0 a1 b0 b1 w => eq40 (d + 1) a0 a1 b0 b1 w
  rw [show d + 4 = (d + 3) + 1 by rfl, run_equalIn_struct (P := Try.prog) w (d + 3) 42 _ _ Try.underlying42 (by kernel_rfl)]
  have hf : (Try.prog.fieldsOf 42).toList.map (fun f => (f.name, f.type, f.offset)) = [("What", 3, 0), ("Access", 39, 1), ("Other", 3, 8), ("Where", 40, 9)] := by kernel_rfl
  generalize (Try.prog.fieldsOf 42).toList = fs at hf ⊢
  have hl : fs.length = 4 := by have := congrArg List.length hf; simpa using this
  match fs, hl with
  | [f0, f1, f2, f3], _ =>
    simp at hf
    obtain ⟨⟨n0, t0, o0⟩, ⟨n1, t1, o1⟩, ⟨n2, t2, o2⟩, ⟨n3, t3, o3⟩⟩ := hf
    simp only [Op.eqFields, n0, n1, n2, n3, t0, t1, t2, t3, o0, o1, o2, o3]
    simp [part, hag, hag2, hag3, hs39, hs40, h39, h40, run_equalIn_int _ _ 3 .i64 .i64 _ _ Try.underlying3]
    unfold evB
    by_cases e0 : a.k = b.k <;> simp [e0]
    by_cases e1 : a.t = b.t <;> simp [e1]
    by_cases e2 : a.p = b.p <;> simp [e2]
    by_cases e3 : a.q = b.q <;> simp [e3]
    by_cases e4 : a.r = b.r <;> simp [e4]
    by_cases e5 : a.m = b.m <;> simp [e5]
    by_cases e6 : a.f = b.f <;> simp [e6]
    by_cases e7 : a.a = b.a <;> simp [e7]
    by_cases e8 : a.o = b.o <;> simp [e8]
    by_cases e9 : a.x = b.x <;> simp [e9]
    by_cases e10 : a.y = b.y <;> simp [e10]
theorem run_neq42_self (e : Ev) (w : World) : (binOp .neq 42 (.agg e.cells) (.agg e.cells)).run Try.prog w = .ok (.bool false) w := by
  rw [run_neq_struct]
  have := eq42 9996 e e w
  simp only [evB_self] at this
  rw [this]
  rfl
/-- slices.Equal of the same events twice -/
theorem equalE_calls (l : List Ev) (A B : Option Addr) (c c' : Nat) (w : World) (hA : Rd encE 11 w A l) (hB : Rd encE 11 w B l) :
    Calls Try.prog 28 #[.slice A l.length c, .slice B l.length c'] w fun e w' => e = .returned (.bool true) ∧ Below w.heap.size w w' := by
  have hsm := hA.small
  have HR := Lib.hid (And.intro hA hB)
  clear hA hB
  go_enter Try.func28, Try.ntmps28
  go_wp2_with fail
  go_loopg [5, 13, 14, 15, 16, 17, 18, 19, 20, 21, 22, 23, 24, 25] l.length (fun gk v5 v13 v14 v15 v16 v17 v18 v19 v20 v21 v22 v23 v24 v25 wr => ∃ k : Nat, k + gk = l.length ∧ v13 = .int .i64 (k : Int) ∧ Below w.heap.size w wr)
  case atStart => exact ⟨0, by omega, rfl, Below.refl _ _⟩
  case round =>
    obtain ⟨k, hk, rfl, hbl⟩ := hrel
    by_cases hlt : k < l.length
    · have hd : decide (k < l.length) = true := decide_eq_true hlt
      have h1 := HR.out.1.below hbl
      have h2 := HR.out.2.below hbl
      obtain ⟨a, rfl, _⟩ := h1.cell k hlt
      obtain ⟨b, rfl, _⟩ := h2.cell k hlt
      obtain ⟨x0, x1, x2, x3, x4, x5, x6, x7, x8, x9, x10⟩ := ev_eleven (ev_cells h1 k hlt)
      obtain ⟨y0, y1, y2, y3, y4, y5, y6, y7, y8, y9, y10⟩ := ev_eleven (ev_cells h2 k hlt)
      generalize l[k] = e at *
      have hne := run_neq42_self e
      have HB := Lib.hid hbl
      clear hbl h1 h2
      go_upto_region 6 with fail
      go_quiet (fail)
      go_wp2_with fail
      go_roundg (gk - 1)
      case measure => omega
      case rel => exact ⟨k + 1, by omega, by go_num, drewN_below HB.out _⟩
    · have hd : decide (k < l.length) = false := decide_eq_false hlt
      have HB := Lib.hid hbl
      clear hbl
      go_wp2_with fail
      go_ret
      exact ⟨rfl, HB.out⟩
end Go.Proofs.Ythebembnlmddoaa
