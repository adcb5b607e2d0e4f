import Derived.Test.YthebembnlmddoaaL
namespace Go.Proofs.Ythebembnlmddoaa
open Go.RowKit
set_option maxHeartbeats 8000000
set_option maxRecDepth 100000
set_option linter.unusedSimpArgs false
set_option linter.unusedVariables false

/-- is an access a plain one -/
def plB (x : Ev) : Bool := decide (x.m = 1) || decide (x.m = 2)
abbrev Ev.accs (e : Ev) : Array Value := #[.int .i64 e.t, .int .i64 e.p, .int .i64 e.q, .int .i64 e.r, .int .i64 e.m, .int .i64 e.f, .int .i64 e.a]
theorem plain_calls (x : Ev) (w : World) : Calls Try.prog 48 #[x.acc] w fun e w' => e = .returned (.bool (plB x)) ∧ Below w.heap.size w w' := by
  have hb : Below w.heap.size w (w.alloc (.cells x.accs 39)) := (Below.refl _ w).alloc (Nat.le_refl _) _
  have HB := Lib.hid hb
  clear hb
  by_cases h1 : x.m = 1
  · have hr : plB x = true := by simp [plB, h1]
    rw [hr]
    clear hr
    go_enter Try.func48, Try.ntmps48
    go_wp2_with fail
    go_ret
    exact ⟨rfl, (Below.refl _ w).alloc (Nat.le_refl _) _⟩
  · have hk : (x.m == 1) = false := by simpa using h1
    by_cases h2 : x.m = 2
    · have hr : plB x = true := by simp [plB, h2]
      rw [hr]
      clear hr
      go_enter Try.func48, Try.ntmps48
      go_wp2_with fail
      go_ret
      exact ⟨rfl, (Below.refl _ w).alloc (Nat.le_refl _) _⟩
    · have hk2 : (x.m == 2) = false := by simpa using h2
      have hr : plB x = false := by simp [plB, h1, h2]
      rw [hr]
      clear hr
      go_enter Try.func48, Try.ntmps48
      go_wp2_with fail
      go_ret
      exact ⟨rfl, (Below.refl _ w).alloc (Nat.le_refl _) _⟩
/-- have two events the same place -/
def spB (a b : Ev) : Bool := decide (a.p = b.p) && decide (a.q = b.q) && decide (a.r = b.r)
/-- do two accesses conflict -/
def cfB (a b : Ev) : Bool := spB a b && !decide (a.t = b.t) && (!decide (a.m = 1) || !decide (b.m = 1)) && (plB a || plB b)
abbrev Ev.pl (e : Ev) : Value := .agg #[.int .i64 e.p, .int .i64 e.q, .int .i64 e.r]
theorem wpList_eq37 {ops : Array Oper} {rest : List Oper} {o : Oper} {a : Act} {w : World} {Q : Exit → Act → World → Prop} (hgd : o.guard = none) (x y : Operand) (d : TypeId) (e f : Ev)
    (ho : o.op = .binOp .eql 37 x y d) (hx : a.eval x = e.pl) (hy : a.eval y = f.pl)
    (h : wpList Try.prog ops Q rest (a.put o.dst (.bool (spB e f))) w) : wpList Try.prog ops Q (o :: rest) a w :=
  wpList_plain hgd fun K hK => by
    have hr : (binOp .eql 37 e.pl f.pl).run Try.prog w = .ok (.bool (spB e f)) w := by
      rw [run_eql_struct, eq37 9998]
      simp only [Result.andThen_ok]
      congr 2
      unfold spB
      by_cases e1 : e.p = f.p <;> by_cases e2 : e.q = f.q <;> by_cases e3 : e.r = f.r <;> simp [e1, e2, e3]
    unfold Oper.wp execOp
    simp only [ho, hx, hy, Sem.run_bind, run_eqGuard_agg (P := Try.prog) w .eql 37 x y _ _ (by kernel_rfl), Result.andThen_ok, hr, Sem.run_pure]
    exact hK _ _ h
theorem conflict_calls (a b : Ev) (w : World) : Calls Try.prog 24 #[a.acc, b.acc] w fun e w' => e = .returned (.bool (cfB a b)) ∧ Below w.heap.size w w' := by
  obtain ⟨W2, hW2⟩ : ∃ W2, (w.alloc (.cells a.accs 39)).alloc (.cells b.accs 39) = W2 := ⟨_, rfl⟩
  have hb : Below w.heap.size w W2 := by rw [← hW2]; exact ((Below.refl _ w).alloc (Nat.le_refl _) _).alloc (by simp) _
  have ga : W2.heap[w.heap.size]? = some (.cells a.accs 39 (0, 0)) := by rw [← hW2]; exact heap_alloc2_old w _ _
  have gb : W2.heap[w.heap.size + 1]? = some (.cells b.accs 39 (0, 0)) := by rw [← hW2]; exact heap_alloc2_new w _ _
  have hpa := fun w => plain_calls a w
  have hpb := fun w => plain_calls b w
  have HH := Lib.hid (And.intro hb (And.intro ga gb))
  have HPA := Lib.hid hpa
  have HPB := Lib.hid hpb
  have a0 : W2.cell? ⟨w.heap.size, 0, none⟩ = some (.int .i64 a.t) := by rw [cell_of_row _ _ _ _ _ _ ga]; rfl
  have a1 : W2.cell? ⟨w.heap.size, 1, none⟩ = some (.int .i64 a.p) := by rw [cell_of_row _ _ _ _ _ _ ga]; rfl
  have a2 : W2.cell? ⟨w.heap.size, 2, none⟩ = some (.int .i64 a.q) := by rw [cell_of_row _ _ _ _ _ _ ga]; rfl
  have a3 : W2.cell? ⟨w.heap.size, 3, none⟩ = some (.int .i64 a.r) := by rw [cell_of_row _ _ _ _ _ _ ga]; rfl
  have a4 : W2.cell? ⟨w.heap.size, 4, none⟩ = some (.int .i64 a.m) := by rw [cell_of_row _ _ _ _ _ _ ga]; rfl
  have b0 : W2.cell? ⟨w.heap.size + 1, 0, none⟩ = some (.int .i64 b.t) := by rw [cell_of_row _ _ _ _ _ _ gb]; rfl
  have b1 : W2.cell? ⟨w.heap.size + 1, 1, none⟩ = some (.int .i64 b.p) := by rw [cell_of_row _ _ _ _ _ _ gb]; rfl
  have b2 : W2.cell? ⟨w.heap.size + 1, 2, none⟩ = some (.int .i64 b.q) := by rw [cell_of_row _ _ _ _ _ _ gb]; rfl
  have b3 : W2.cell? ⟨w.heap.size + 1, 3, none⟩ = some (.int .i64 b.r) := by rw [cell_of_row _ _ _ _ _ _ gb]; rfl
  have b4 : W2.cell? ⟨w.heap.size + 1, 4, none⟩ = some (.int .i64 b.m) := by rw [cell_of_row _ _ _ _ _ _ gb]; rfl
  have a5 : W2.cell? ⟨w.heap.size, 5, none⟩ = some (.int .i64 a.f) := by rw [cell_of_row _ _ _ _ _ _ ga]; rfl
  have a6 : W2.cell? ⟨w.heap.size, 6, none⟩ = some (.int .i64 a.a) := by rw [cell_of_row _ _ _ _ _ _ ga]; rfl
  clear hb ga gb hpa hpb
  cases h1 : spB a b with
  | false =>
    have S1 := Lib.hid h1
    rw [show cfB a b = false by simp [cfB, h1]]
    go_enter Try.func24, Try.ntmps24
    go_upto_region 1 with fail
    try rw [hW2]
    clear hW2
    go_wp2_with (first | (refine wpList_eq37 rfl _ _ _ a b rfl rfl rfl ?_) | ((with_reducible refine (HPA.out _).mono ?_); rintro x w3 ⟨rfl, hb3⟩))
    go_ret
    exact ⟨rfl, HH.out.1⟩
  | true =>
    by_cases h2 : a.t = b.t
    · have k2 : (a.t != b.t) = false := by simpa using h2
      have hr : cfB a b = false := by simp [cfB, h2]
      have H2 := Lib.hid h2
      clear h2
      rw [hr]
      clear hr
      go_enter Try.func24, Try.ntmps24
      go_upto_region 1 with fail
      try rw [hW2]
      clear hW2
      go_wp2_with (first | (refine wpList_eq37 rfl _ _ _ a b rfl rfl rfl ?_) | ((with_reducible refine (HPA.out _).mono ?_); rintro x w3 ⟨rfl, hb3⟩))
      go_ret
      exact ⟨rfl, HH.out.1⟩
    · have k2 : (a.t != b.t) = true := by simpa using h2
      by_cases h3 : a.m = 1
      · have k3 : (a.m != 1) = false := by simpa using h3
        by_cases h4 : b.m = 1
        · have k4 : (b.m != 1) = false := by simpa using h4
          have hr : cfB a b = false := by simp [cfB, h3, h4]
          rw [hr]
          clear hr h3 h4
          go_enter Try.func24, Try.ntmps24
          go_upto_region 1 with fail
          try rw [hW2]
          clear hW2
          go_wp2_with (first | (refine wpList_eq37 rfl _ _ _ a b rfl rfl rfl ?_) | ((with_reducible refine (HPA.out _).mono ?_); rintro x w3 ⟨rfl, hb3⟩))
          go_ret
          exact ⟨rfl, HH.out.1⟩
        · have k4 : (b.m != 1) = true := by simpa using h4
          have hp : plB a = true := by simp [plB, h3]
          have hr : cfB a b = true := by simp [cfB, h1, h2, h3, h4, hp]
          rw [hr]
          simp only [hp] at HPA
          clear hr h3 h4 hp
          go_enter Try.func24, Try.ntmps24
          go_upto_region 1 with fail
          try rw [hW2]
          clear hW2
          go_wp2_with (first | (refine wpList_eq37 rfl _ _ _ a b rfl rfl rfl ?_) | ((with_reducible refine (HPA.out _).mono ?_); rintro x w3 ⟨rfl, hb3⟩))
          go_ret
          exact ⟨rfl, HH.out.1.trans (hb3.mono HH.out.1.size)⟩
      · have k3 : (a.m != 1) = true := by simpa using h3
        cases hp : plB a with
        | true =>
          have hr : cfB a b = true := by simp [cfB, h1, h2, h3, hp]
          rw [hr]
          simp only [hp] at HPA
          clear hr h3 hp
          go_enter Try.func24, Try.ntmps24
          go_upto_region 1 with fail
          try rw [hW2]
          clear hW2
          go_wp2_with (first | (refine wpList_eq37 rfl _ _ _ a b rfl rfl rfl ?_) | ((with_reducible refine (HPA.out _).mono ?_); rintro x w3 ⟨rfl, hb3⟩))
          go_ret
          exact ⟨rfl, HH.out.1.trans (hb3.mono HH.out.1.size)⟩
        | false =>
          have hr : cfB a b = plB b := by simp [cfB, h1, h2, h3, hp]
          rw [hr]
          simp only [hp] at HPA
          clear hr h3 hp
          go_enter Try.func24, Try.ntmps24
          go_upto_region 1 with fail
          try rw [hW2]
          clear hW2
          go_wp2_with (refine wpList_eq37 rfl _ _ _ a b rfl rfl rfl ?_)
          (with_reducible refine (HPA.out _).mono ?_); rintro x w3 ⟨rfl, hb3⟩
          have gb3 := (hb3.block _ ((Array.getElem?_eq_some_iff.1 HH.out.2.2).1)).trans HH.out.2.2
          clear a0 a1 a2 a3 a4 a5 a6 b0 b1 b2 b3 b4
          have b0 : w3.cell? ⟨w.heap.size + 1, 0, none⟩ = some (.int .i64 b.t) := by rw [cell_of_row _ _ _ _ _ _ gb3]; rfl
          have b1 : w3.cell? ⟨w.heap.size + 1, 1, none⟩ = some (.int .i64 b.p) := by rw [cell_of_row _ _ _ _ _ _ gb3]; rfl
          have b2 : w3.cell? ⟨w.heap.size + 1, 2, none⟩ = some (.int .i64 b.q) := by rw [cell_of_row _ _ _ _ _ _ gb3]; rfl
          have b3 : w3.cell? ⟨w.heap.size + 1, 3, none⟩ = some (.int .i64 b.r) := by rw [cell_of_row _ _ _ _ _ _ gb3]; rfl
          have b4 : w3.cell? ⟨w.heap.size + 1, 4, none⟩ = some (.int .i64 b.m) := by rw [cell_of_row _ _ _ _ _ _ gb3]; rfl
          have b5 : w3.cell? ⟨w.heap.size + 1, 5, none⟩ = some (.int .i64 b.f) := by rw [cell_of_row _ _ _ _ _ _ gb3]; rfl
          have b6 : w3.cell? ⟨w.heap.size + 1, 6, none⟩ = some (.int .i64 b.a) := by rw [cell_of_row _ _ _ _ _ _ gb3]; rfl
          have HB3 := Lib.hid hb3
          clear gb3 hb3
          go_wp2_with fail
          (with_reducible refine (HPB.out _).mono ?_); rintro x w4 ⟨rfl, hb4⟩
          go_wp2_with fail
          go_ret
          exact ⟨rfl, (HH.out.1.trans (HB3.out.mono HH.out.1.size)).trans (hb4.mono (HH.out.1.trans (HB3.out.mono HH.out.1.size)).size)⟩
end Go.Proofs.Ythebembnlmddoaa
