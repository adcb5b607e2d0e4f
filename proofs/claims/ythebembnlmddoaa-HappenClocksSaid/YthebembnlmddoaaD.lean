import Derived.Test.YthebembnlmddoaaC
namespace Go.Proofs.Ythebembnlmddoaa
open Go.RowKit
set_option maxHeartbeats 4000000
set_option maxRecDepth 100000
set_option linter.unusedSimpArgs false
set_option linter.unusedVariables false

/-! ### right traces -/
def fkB (ms : List Ev) (t : Int) : Bool := ms.any (fun e => decide (e.k = 2) && decide (e.o = t))
def bgB (ms : List Ev) (t : Int) : Bool := ms.any (fun e => decide (e.t = t))
def jnB (ms : List Ev) (t : Int) : Bool := ms.any (fun e => decide (e.k = 3) && decide (e.o = t))
theorem fkB_snoc (ms : List Ev) (e : Ev) (t : Int) : fkB (ms ++ [e]) t = (fkB ms t || (decide (e.k = 2) && decide (e.o = t))) := by simp [fkB, List.any_append]
theorem bgB_snoc (ms : List Ev) (e : Ev) (t : Int) : bgB (ms ++ [e]) t = (bgB ms t || decide (e.t = t)) := by simp [bgB, List.any_append]
theorem jnB_snoc (ms : List Ev) (e : Ev) (t : Int) : jnB (ms ++ [e]) t = (jnB ms t || (decide (e.k = 3) && decide (e.o = t))) := by simp [jnB, List.any_append]
/-- the event e is right behind ms -/
def okE (root : Int) (ms : List Ev) (e : Ev) : Bool :=
  fmB e && (ms.isEmpty || decide (e.t = root) || fkB ms e.t) && !jnB ms e.t &&
  (if e.k = 2 then !fkB ms e.o && !bgB ms e.o && !jnB ms e.o && !decide (e.o = root) else if e.k = 3 then fkB ms e.o else true)
def rootF (l : List Ev) : Int := match l with | [] => 0 | e :: _ => e.t
def okAt (l : List Ev) (i : Nat) : Bool := match l[i]? with | some e => okE (rootF l) (l.take i) e | none => true
theorem okAt_eq (l : List Ev) (i : Nat) (h : i < l.length) : okAt l i = okE (rootF l) (l.take i) l[i] := by simp [okAt, List.getElem?_eq_getElem h]
def rtB (l : List Ev) : Bool := (List.range l.length).all (fun i => okAt l i)
def chkF (l : List Ev) : Int := if 2000 < l.length then 5 else if rtB l = true then 0 else 230
theorem rtB_no (l : List Ev) (i : Nat) (h : i < l.length) (hb : okAt l i = false) : rtB l = false := by
  unfold rtB
  rw [Bool.eq_false_iff]
  intro h2
  rw [List.all_eq_true] at h2
  have := h2 i (by simpa using h)
  rw [hb] at this
  cases this
theorem rtB_yes (l : List Ev) (h : ∀ i, i < l.length → okAt l i = true) : rtB l = true := by
  unfold rtB
  rw [List.all_eq_true]
  intro i hi
  exact h i (by simpa using hi)

/-- what is known of a task: forked, begun, joined -/
structure B3 where
  f : Bool
  b : Bool
  j : Bool
def bv (s : B3) : Int := (if s.f then 1 else 0) + (if s.b then 2 else 0) + (if s.j then 4 else 0)
def stF (ms : List Ev) (t : Int) : B3 := ⟨fkB ms t, bgB ms t, jnB ms t⟩
theorem bv_bound (s : B3) : 0 ≤ bv s ∧ bv s ≤ 7 := by
  obtain ⟨a, b, c⟩ := s
  cases a <;> cases b <;> cases c <;> decide
theorem bv_zero (s : B3) : bv s = 0 ↔ (s.f = false ∧ s.b = false ∧ s.j = false) := by
  obtain ⟨a, b, c⟩ := s
  cases a <;> cases b <;> cases c <;> decide
theorem bits_and1 (s : B3) : bits .and .i64 (bv s) 1 = if s.f then 1 else 0 := by
  obtain ⟨a, b, c⟩ := s
  cases a <;> cases b <;> cases c <;> kernel_rfl
theorem bits_and4 (s : B3) : bits .and .i64 (bv s) 4 = if s.j then 4 else 0 := by
  obtain ⟨a, b, c⟩ := s
  cases a <;> cases b <;> cases c <;> kernel_rfl
theorem bits_or2 (s : B3) : bits .or .i64 (bv s) 2 = bv { s with b := true } := by
  obtain ⟨a, b, c⟩ := s
  cases a <;> cases b <;> cases c <;> kernel_rfl
theorem bits_or4 (s : B3) : bits .or .i64 (bv s) 4 = bv { s with j := true } := by
  obtain ⟨a, b, c⟩ := s
  cases a <;> cases b <;> cases c <;> kernel_rfl
/-- block b is the map of what is known of tasks -/
def StM (w : World) (b n : Nat) (F : Int → B3) : Prop := ∃ f cnt, MapV 3 kI okI w b n f cnt ∧ ∀ t, okI t → (f t).getD (.int .i64 0) = .int .i64 (bv (F t))
theorem zero3 (w : World) : (zeroValue 3).run Try.prog w = .ok (.int .i64 0) w := by kernel_rfl
theorem StM.look {w : World} {b n : Nat} {F : Int → B3} (h : StM w b n F) (t : Int) (ht : okI t) : (Instr.lookup 68 (.map (some b)) (.int .i64 t) false).run Try.prog w = .ok (.int .i64 (bv (F t))) w := by
  obtain ⟨f, cnt, h1, h2⟩ := h
  rw [h1.look keyedI Try.underlying68 zero3 t ht (keyI t ht), h2 t ht]
theorem StM.put {w : World} {b n : Nat} {F : Int → B3} (h : StM w b n F) (hn : n < 1000000) (t : Int) (ht : okI t) (s : B3) :
    ∃ w', (Instr.mapUpdate 68 (.map (some b)) (.int .i64 t) (.int .i64 (bv s))).run Try.prog w = .ok () w' ∧ StM w' b (n + 1) (fun u => if u = t then s else F u) ∧ w.grownBy w' (some b) := by
  obtain ⟨f, cnt, h1, h2⟩ := h
  obtain ⟨w', r1, r2, r3⟩ := h1.put kI_inj keyedI Try.underlying68 (by unfold maxLen; omega) t ht (keyI t ht) (.int .i64 (bv s))
  refine ⟨w', r1, ⟨_, _, r2, fun u hu => ?_⟩, r3⟩
  by_cases e : u = t
  · simp [e]
  · simp only [if_neg e]
    exact h2 u hu
theorem StM.rest {w w' : World} {b n : Nat} {F : Int → B3} (h : StM w b n F) (hb : Below w.heap.size w w') : StM w' b n F := by
  obtain ⟨f, cnt, h1, h2⟩ := h
  exact ⟨f, cnt, h1.rest hb, h2⟩
theorem StM.congr {w : World} {b n : Nat} {F G : Int → B3} (h : StM w b n F) (e : ∀ t, F t = G t) : StM w b n G := by
  have : F = G := funext e
  exact this ▸ h
theorem StM.mono {w : World} {b n n' : Nat} {F : Int → B3} (h : StM w b n F) (hn : n ≤ n') : StM w b n' F := by
  obtain ⟨f, cnt, h1, h2⟩ := h
  exact ⟨f, cnt, h1.mono hn, h2⟩
theorem StM.lt {w : World} {b n : Nat} {F : Int → B3} (h : StM w b n F) : b < w.heap.size := by
  obtain ⟨f, cnt, h1, h2⟩ := h
  exact h1.lt
theorem StM.made (w : World) : StM (w.alloc (.map #[] 0)) w.heap.size 0 (stF []) := ⟨_, _, MapV.made _ _ _ w, fun t _ => rfl⟩

/-! ### a step of what is known -/
theorem st_act (ms : List Ev) (e : Ev) (h2 : ¬ e.k = 2) (h3 : ¬ e.k = 3) (t : Int) : (if t = e.t then { stF ms e.t with b := true } else stF ms t) = stF (ms ++ [e]) t := by
  unfold stF
  rw [fkB_snoc, bgB_snoc, jnB_snoc]
  by_cases ht : t = e.t
  · subst ht; simp [h2, h3]
  · simp [h2, h3, ht, Ne.symm ht]
theorem st_fork (ms : List Ev) (e : Ev) (h2 : e.k = 2) (hne : e.o ≠ e.t) (h0 : fkB ms e.o = false) (h1 : bgB ms e.o = false) (h4 : jnB ms e.o = false) (t : Int) :
    (if t = e.o then ⟨true, false, false⟩ else if t = e.t then { stF ms e.t with b := true } else stF ms t) = stF (ms ++ [e]) t := by
  unfold stF
  rw [fkB_snoc, bgB_snoc, jnB_snoc]
  by_cases ho : t = e.o
  · subst ho; simp [h2, h0, h1, h4, Ne.symm hne]
  · by_cases ht : t = e.t
    · subst ht; simp [h2, ho, hne]
    · simp [h2, ho, ht, Ne.symm ht, Ne.symm ho]
theorem st_join (ms : List Ev) (e : Ev) (h3 : e.k = 3) (hne : e.o ≠ e.t) (t : Int) :
    (if t = e.o then { stF ms e.o with j := true } else if t = e.t then { stF ms e.t with b := true } else stF ms t) = stF (ms ++ [e]) t := by
  unfold stF
  rw [fkB_snoc, bgB_snoc, jnB_snoc]
  by_cases ho : t = e.o
  · subst ho; simp [h3, Ne.symm hne]
  · by_cases ht : t = e.t
    · subst ht; simp [h3, ho, hne]
    · simp [h3, ho, ht, Ne.symm ht, Ne.symm ho]
theorem fmB_other (e : Ev) (h : fmB e = true) (hk : e.k = 2 ∨ e.k = 3) : e.o ≠ e.t := by
  unfold fmB at h
  by_cases h1 : e.t < 0
  · simp [h1] at h
  · have h2 : ¬ e.k = 1 := by omega
    simp [h1, h2, hk] at h
    exact h.2
theorem fmB_kind (e : Ev) (h : fmB e = true) : e.k = 1 ∨ e.k = 2 ∨ e.k = 3 := by
  unfold fmB at h
  by_cases h1 : e.t < 0
  · simp [h1] at h
  · by_cases h2 : e.k = 1
    · exact Or.inl h2
    · by_cases h3 : e.k = 2 ∨ e.k = 3
      · exact Or.inr h3
      · simp [h1, h2, h3] at h
theorem add_add' (a : Addr) (n m : Nat) : (a.add n).add m = a.add (n + m) := by
  unfold Addr.add
  by_cases h1 : n = 0
  · subst h1; simp
  · by_cases h2 : m = 0
    · subst h2; simp
    · simp [h1, h2]; omega
/-- a load of an event -/
theorem ev_cells {w : World} {a : Addr} {l : List Ev} (h : Rd encE 11 w (some a) l) (k : Nat) (hk : k < l.length) : ∀ j v, (encE l[k])[j]? = some v → w.cell? ((a.add (k * 11)).add j) = some v := by
  intro j v hj
  obtain ⟨a', ha, hc⟩ := h.cell k hk
  cases ha
  rw [add_add']
  exact hc j v hj
theorem wpList_load_ev {ops : Array Oper} {rest : List Oper} {o : Oper} {a : Act} {w : World} {Q : Exit → Act → World → Prop} (hgd : o.guard = none) (x : Operand) (T : TypeId) (hT : T = 42 ∨ T = 93)
    (ho : o.op = .load T x) (p : Addr) (e : Ev) (hx : a.eval x = .pointer (some p)) (hc : ∀ j v, (encE e)[j]? = some v → w.cell? (p.add j) = some v)
    (h : wpList Try.prog ops Q rest (a.put o.dst e.val) w) : wpList Try.prog ops Q (o :: rest) a w :=
  wpList_plain hgd fun K hK => by
    have hl := run_loadCells_list (P := Try.prog) w p (encE e) hc
    have hs : (sizeOf T).run Try.prog w = .ok 11 w := by rcases hT with rfl | rfl <;> kernel_rfl
    have hag : (isAgg T).run Try.prog w = .ok true w := by rcases hT with rfl | rfl <;> kernel_rfl
    have hl' : (loadCells p 11).run Try.prog w = .ok e.cells w := hl
    unfold Oper.wp execOp
    simp only [ho, hx, Instr.loadAt, Instr.sureAddr, loadVar, Sem.run_bind, Sem.run_pure, Result.andThen_ok, hag, if_true, hs, hl']
    exact hK _ _ h
theorem root_cell {w : World} {a : Addr} {l : List Ev} (h : Rd encE 11 w (some a) l) (hk : 0 < l.length) : w.cell? ⟨a.block, a.off + 1, none⟩ = some (.int .i64 (rootF l)) := by
  obtain ⟨a', ha, hc⟩ := h.cell 0 hk
  cases ha
  have := hc 1 _ rfl
  rw [show (0 * 11 + 1) = 0 + 1 by rfl, add_field _ 0 1 (by omega)] at this
  have e : a.add 0 = a := by simp [Addr.add]
  rw [e] at this
  rw [this]
  cases l with
  | nil => simp at hk
  | cons e l => rfl
end Go.Proofs.Ythebembnlmddoaa
