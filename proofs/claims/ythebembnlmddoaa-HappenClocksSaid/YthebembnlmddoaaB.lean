import Derived.Test.YthebembnlmddoaaA
import Derived.Laws.StructEq
namespace Go.Proofs.Ythebembnlmddoaa
open Go.RowKit
set_option maxHeartbeats 1000000
set_option maxRecDepth 100000
set_option linter.unusedSimpArgs false
set_option linter.unusedVariables false

/-- an event: What, Task, Place, Kind, From, At, Other, Where -/
structure Ev where
  k : Int
  t : Int
  p : Int
  q : Int
  r : Int
  m : Int
  f : Int
  a : Int
  o : Int
  x : Int
  y : Int
abbrev encE (e : Ev) : List Value := [.int .i64 e.k, .int .i64 e.t, .int .i64 e.p, .int .i64 e.q, .int .i64 e.r, .int .i64 e.m, .int .i64 e.f, .int .i64 e.a, .int .i64 e.o, .int .i64 e.x, .int .i64 e.y]
abbrev Ev.cells (e : Ev) : Array Value := #[.int .i64 e.k, .int .i64 e.t, .int .i64 e.p, .int .i64 e.q, .int .i64 e.r, .int .i64 e.m, .int .i64 e.f, .int .i64 e.a, .int .i64 e.o, .int .i64 e.x, .int .i64 e.y]
abbrev Ev.val (e : Ev) : Value := .agg e.cells
/-- its access -/
abbrev Ev.acc (e : Ev) : Value := .agg #[.int .i64 e.t, .int .i64 e.p, .int .i64 e.q, .int .i64 e.r, .int .i64 e.m, .int .i64 e.f, .int .i64 e.a]
structure Ev.ok (e : Ev) : Prop where
  t : okI e.t
  p : okI e.p
  q : okI e.q
  r : okI e.r
  o : okI e.o
theorem lenE (e : Ev) : (encE e).length = 11 := rfl
theorem oneE (e : Ev) : ∀ u ∈ encE e, u.oneCell' = true := fun u hu => by
  simp at hu; rcases hu with rfl | rfl | rfl | rfl | rfl | rfl | rfl | rfl | rfl | rfl | rfl <;> rfl

theorem eq37 (d : Nat) (a0 a1 a2 b0 b1 b2 : Int) (w : World) : (Op.equalIn (d + 2) 37 (.agg #[.int .i64 a0, .int .i64 a1, .int .i64 a2]) (.agg #[.int .i64 b0, .int .i64 b1, .int .i64 b2])).run Try.prog w = .ok (a0 == b0 && (a1 == b1 && a2 == b2)) w := by
  have hu : Try.prog.underlying 37 = some (.array 3 3) := Try.underlying37
  have hag : (isAgg 3).run Try.prog w = .ok false w := by
    unfold isAgg
    rw [Sem.run_bind, run_underlying Try.underlying3 w]
    rfl
  obtain ⟨i0, hi, hz0, hz1, hz2⟩ := info_parts info3
  have hr : List.range' 0 3 = [0, 1, 2] := rfl
  have hs : Std.Legacy.Range.size [:3] = 3 := rfl
  simp only [Op.equalIn, Sem.run_bind, run_underlying hu, Result.andThen_ok, sizeOf, typeInfo, run_program, hi]
  simp [Std.Legacy.Range.forIn_eq_forIn_range', hs, hr, part, hag, hz1, Op.equalIn, run_underlying Try.underlying3]
  by_cases h0 : a0 = b0 <;> by_cases h1 : a1 = b1 <;> by_cases h2 : a2 = b2 <;> simp [h0, h1, h2]
theorem eq39 (d : Nat) (a b : Ev) (w : World) : (Op.equalIn (d + 3) 39 a.acc b.acc).run Try.prog w = .ok (a.t == b.t && ((a.p == b.p && (a.q == b.q && a.r == b.r)) && (a.m == b.m && (a.f == b.f && a.a == b.a)))) w := by
  have hag : ∀ w, (isAgg 3).run Try.prog w = .ok false w := by
    intro w
    unfold isAgg
    rw [Sem.run_bind, run_underlying Try.underlying3 w]
    rfl
  have hag2 : ∀ w, (isAgg 37).run Try.prog w = .ok true w := by
    intro w
    unfold isAgg
    rw [Sem.run_bind, run_underlying Try.underlying37 w]
    rfl
  obtain ⟨i0, hi, hz0, hz1, hz2⟩ := info_parts info3
  have hs37 : ∀ w, (sizeOf 37).run Try.prog w = .ok 3 w := fun w => by kernel_rfl
  have h37 := fun a0 a1 a2 b0 b1 b2 w => eq37 d a0 a1 a2 b0 b1 b2 w
  rw [show d + 3 = (d + 2) + 1 by rfl, run_equalIn_struct (P := Try.prog) w (d + 2) 39 _ _ Try.underlying39 (by kernel_rfl)]
  have hf : (Try.prog.fieldsOf 39).toList.map (fun f => (f.name, f.type, f.offset)) = [("Task", 3, 0), ("Place", 37, 1), ("Kind", 3, 4), ("From", 3, 5), ("At", 3, 6)] := by kernel_rfl
  generalize (Try.prog.fieldsOf 39).toList = fs at hf ⊢
  have hl : fs.length = 5 := by have := congrArg List.length hf; simpa using this
  match fs, hl with
  | [f0, f1, f2, f3, f4], _ =>
    simp at hf
    obtain ⟨⟨n0, t0, o0⟩, ⟨n1, t1, o1⟩, ⟨n2, t2, o2⟩, ⟨n3, t3, o3⟩, ⟨n4, t4, o4⟩⟩ := hf
    simp only [Op.eqFields, n0, n1, n2, n3, n4, t0, t1, t2, t3, t4, o0, o1, o2, o3, o4]
    simp [part, hag, hag2, hs37, h37, run_equalIn_int _ _ 3 .i64 .i64 _ _ Try.underlying3]
    by_cases e0 : a.t = b.t <;> simp [e0]
    by_cases e1 : a.p = b.p <;> by_cases e2 : a.q = b.q <;> by_cases e3 : a.r = b.r <;> simp [e1, e2, e3]
    by_cases e4 : a.m = b.m <;> by_cases e5 : a.f = b.f <;> by_cases e6 : a.a = b.a <;> simp [e4, e5, e6]

/-- has the access of a fork or a join the task alone -/
def plnB (e : Ev) : Bool := decide (e.p = 0) && decide (e.q = 0) && decide (e.r = 0) && decide (e.m = 0) && decide (e.f = 0) && decide (e.a = 0)
theorem run_pln (e : Ev) (w : World) : (binOp .eql 39 e.acc (.agg #[.int .i64 e.t, .int .i64 0, .int .i64 0, .int .i64 0, .int .i64 0, .int .i64 0, .int .i64 0])).run Try.prog w = .ok (.bool (plnB e)) w := by
  rw [run_eql_struct]
  have := eq39 9997 e ⟨e.k, e.t, 0, 0, 0, 0, 0, 0, e.o, e.x, e.y⟩ w
  simp only [Ev.acc] at this ⊢
  rw [this]
  simp only [Result.andThen_ok, beq_self_eq_true, Bool.true_and]
  congr 2
  unfold plnB
  by_cases e1 : e.p = 0 <;> by_cases e2 : e.q = 0 <;> by_cases e3 : e.r = 0 <;> by_cases e4 : e.m = 0 <;> by_cases e5 : e.f = 0 <;> by_cases e6 : e.a = 0 <;> simp [e1, e2, e3, e4, e5, e6]
/-- is an event right by itself -/
def fmB (e : Ev) : Bool :=
  if e.t < 0 then false
  else if e.k = 1 then decide (1 ≤ e.m) && decide (e.m ≤ 4) && decide (e.o = 0)
  else if e.k = 2 ∨ e.k = 3 then plnB e && decide (0 ≤ e.o) && !decide (e.o = e.t)
  else false
theorem wpList_pln {ops : Array Oper} {rest : List Oper} {o : Oper} {a : Act} {w : World} {Q : Exit → Act → World → Prop} (hgd : o.guard = none) (x y : Operand) (d : TypeId) (e : Ev)
    (ho : o.op = .binOp .eql 39 x y d) (hx : a.eval x = e.acc) (hy : a.eval y = .agg #[.int .i64 e.t, .int .i64 0, .int .i64 0, .int .i64 0, .int .i64 0, .int .i64 0, .int .i64 0])
    (h : wpList Try.prog ops Q rest (a.put o.dst (.bool (plnB e))) w) : wpList Try.prog ops Q (o :: rest) a w :=
  wpList_plain hgd fun K hK => by
    unfold Oper.wp execOp
    simp only [ho, hx, hy, Sem.run_bind, run_eqGuard_agg (P := Try.prog) w .eql 39 x y _ _ (by kernel_rfl), Result.andThen_ok, run_pln e w, Sem.run_pure]
    exact hK _ _ h
end Go.Proofs.Ythebembnlmddoaa
