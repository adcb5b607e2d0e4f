import Derived.Test.YthpcipfloofbcaaI
import Derived.Defers
import Derived.Recover
namespace Go.Proofs.Ythpcipfloofbcaa
open Go.RowKit
set_option maxHeartbeats 1000000
set_option maxRecDepth 100000
set_option linter.unusedSimpArgs false
set_option linter.unusedVariables false

def St.zero : St := ⟨[], [], 0, 0, 0, 0, 0, 0, false⟩
abbrev zeroS : Array Value := #[.slice none 0 0, .slice none 0 0, .int .i64 0, .int .i64 0, .int .i64 0, .int .i64 0, .int .i64 0, .int .i64 0, .bool false]

theorem wiped {w : World} {bo : Nat} {s : St} {Mv Fv : Value} (h : w.heap[bo]? = some (.cells (cellsS s Mv Fv) 27 (0, 0))) :
    (((((((((w.setCell ⟨bo, 0, none⟩ (.slice none 0 0)).setCell ⟨bo, 1, none⟩ (.slice none 0 0)).setCell ⟨bo, 2, none⟩ (.int .i64 0)).setCell ⟨bo, 3, none⟩ (.int .i64 0)).setCell ⟨bo, 4, none⟩ (.int .i64 0)).setCell ⟨bo, 5, none⟩ (.int .i64 0)).setCell ⟨bo, 6, none⟩ (.int .i64 0)).setCell ⟨bo, 7, none⟩ (.int .i64 0)).setCell ⟨bo, 8, none⟩ (.bool false)).heap[bo]? = some (.cells zeroS 27 (0, 0)) := by
  have h0 := heap_setCell_same _ bo 0 _ _ (.slice none 0 0) h
  have h1 := heap_setCell_same _ bo 1 _ _ (.slice none 0 0) h0
  have h2 := heap_setCell_same _ bo 2 _ _ (.int .i64 0) h1
  have h3 := heap_setCell_same _ bo 3 _ _ (.int .i64 0) h2
  have h4 := heap_setCell_same _ bo 4 _ _ (.int .i64 0) h3
  have h5 := heap_setCell_same _ bo 5 _ _ (.int .i64 0) h4
  have h6 := heap_setCell_same _ bo 6 _ _ (.int .i64 0) h5
  have h7 := heap_setCell_same _ bo 7 _ _ (.int .i64 0) h6
  have h8 := heap_setCell_same _ bo 8 _ _ (.bool false) h7
  simpa [cellsS] using h8
theorem wiped_other {w : World} {bo : Nat} (i : Nat) (hi : i ≠ bo) : (((((((((w.setCell ⟨bo, 0, none⟩ (.slice none 0 0)).setCell ⟨bo, 1, none⟩ (.slice none 0 0)).setCell ⟨bo, 2, none⟩ (.int .i64 0)).setCell ⟨bo, 3, none⟩ (.int .i64 0)).setCell ⟨bo, 4, none⟩ (.int .i64 0)).setCell ⟨bo, 5, none⟩ (.int .i64 0)).setCell ⟨bo, 6, none⟩ (.int .i64 0)).setCell ⟨bo, 7, none⟩ (.int .i64 0)).setCell ⟨bo, 8, none⟩ (.bool false)).heap[i]? = w.heap[i]? := by
  rw [heap_setCell_other _ ⟨bo, 8, none⟩ i _ hi, heap_setCell_other _ ⟨bo, 7, none⟩ i _ hi, heap_setCell_other _ ⟨bo, 6, none⟩ i _ hi, heap_setCell_other _ ⟨bo, 5, none⟩ i _ hi, heap_setCell_other _ ⟨bo, 4, none⟩ i _ hi, heap_setCell_other _ ⟨bo, 3, none⟩ i _ hi, heap_setCell_other _ ⟨bo, 2, none⟩ i _ hi, heap_setCell_other _ ⟨bo, 1, none⟩ i _ hi, heap_setCell_other _ ⟨bo, 0, none⟩ i _ hi]

/-- what the deferred closure's text leaves -/
def CatchQ (R : World → Prop) : Exit → Act → World → Prop := fun e a w => (e = .normal ∨ e = .ret) ∧ a.defers = [] ∧ R w

theorem catch_idle (p q : Addr) (w : World) :
    CallsD Try.prog 29 #[.pointer (some p), .pointer (some q)] .returning w fun e u' w' => e = .returned (.tuple #[]) ∧ u' = .returning ∧ w = w' := by
  have hneq : ∀ w, (binOp .neq 20 .nilIface .nilIface).run Try.prog w = .ok (.bool false) w := fun w => by kernel_rfl
  refine callsD_of_wpS Try.func29 rfl fun c₀ cs hu => ?_
  apply wpS_seq
  apply wpS_region
  simp [wpOpsS, go_sem, recoverD, hu, Try.ntmps29, Exit.thenS]
  refine wpS_of_wp (wp_mono (Q := CatchQ (fun w' => w = w')) ?_ ?_)
  · simp only [Array.replicate_succ, Array.replicate_zero, List.push_toArray, List.append_toArray, List.nil_append, List.cons_append, List.setIfInBounds_toArray, List.set_cons_succ, List.set_cons_zero]
    go_wp2
    exact ⟨.inl rfl, rfl, rfl⟩
  · rintro e a w' ⟨he, hd, rfl⟩
    cases c₀
    rcases he with rfl | rfl <;> simp_all [bodyPostS, results, Try.results29]

def CatchR (bo be : Nat) (k : Int) (w w' : World) : Prop := w'.heap[bo]? = some (.cells zeroS 27 (0, 0)) ∧ w'.heap[be]? = some (.cells #[.int .i64 k] 28 (0, 0)) ∧ w.heap.size ≤ w'.heap.size ∧ (∀ i, i < w.heap.size → i ≠ bo → i ≠ be → w'.heap[i]? = w.heap[i]?) ∧ w'.os = w.os ∧ w'.tape = w.tape ∧ w'.output = w.output
theorem size_setCell' (w : World) (a : Addr) (v : Value) : (w.setCell a v).heap.size = w.heap.size := by simp [World.setCell]
theorem wiped_below (w : World) (bo : Nat) : Below 0 w (((((((((w.setCell ⟨bo, 0, none⟩ (.slice none 0 0)).setCell ⟨bo, 1, none⟩ (.slice none 0 0)).setCell ⟨bo, 2, none⟩ (.int .i64 0)).setCell ⟨bo, 3, none⟩ (.int .i64 0)).setCell ⟨bo, 4, none⟩ (.int .i64 0)).setCell ⟨bo, 5, none⟩ (.int .i64 0)).setCell ⟨bo, 6, none⟩ (.int .i64 0)).setCell ⟨bo, 7, none⟩ (.int .i64 0)).setCell ⟨bo, 8, none⟩ (.bool false)) ∧ (((((((((w.setCell ⟨bo, 0, none⟩ (.slice none 0 0)).setCell ⟨bo, 1, none⟩ (.slice none 0 0)).setCell ⟨bo, 2, none⟩ (.int .i64 0)).setCell ⟨bo, 3, none⟩ (.int .i64 0)).setCell ⟨bo, 4, none⟩ (.int .i64 0)).setCell ⟨bo, 5, none⟩ (.int .i64 0)).setCell ⟨bo, 6, none⟩ (.int .i64 0)).setCell ⟨bo, 7, none⟩ (.int .i64 0)).setCell ⟨bo, 8, none⟩ (.bool false)).heap.size = w.heap.size := by
  refine ⟨?_, ?_⟩
  · exact (((((((((Below.refl 0 w).setCell (p := ⟨bo, 0, none⟩) (Nat.zero_le _) _).setCell (p := ⟨bo, 1, none⟩) (Nat.zero_le _) _).setCell (p := ⟨bo, 2, none⟩) (Nat.zero_le _) _).setCell (p := ⟨bo, 3, none⟩) (Nat.zero_le _) _).setCell (p := ⟨bo, 4, none⟩) (Nat.zero_le _) _).setCell (p := ⟨bo, 5, none⟩) (Nat.zero_le _) _).setCell (p := ⟨bo, 6, none⟩) (Nat.zero_le _) _).setCell (p := ⟨bo, 7, none⟩) (Nat.zero_le _) _).setCell (p := ⟨bo, 8, none⟩) (Nat.zero_le _) _
  · simp only [size_setCell']
theorem catch_R {w X : World} {bo be : Nat} {k old : Int} (hX1 : X.heap[bo]? = some (.cells zeroS 27 (0, 0))) (hX2 : ∀ i, i ≠ bo → X.heap[i]? = w.heap[i]?) (hX3 : X.heap.size = w.heap.size) (hB : Below 0 w X)
    (he : w.heap[be]? = some (.cells #[.int .i64 old] 28 (0, 0))) (hne : bo ≠ be) :
    CatchR bo be k w (((X.setCell ⟨be, 0, none⟩ (.int .i64 k)).alloc (.cells #[.int .i64 k] 71)).drew) := by
  have hbo := (Array.getElem?_eq_some_iff.1 hX1).1
  have hbe : be < X.heap.size := by rw [hX3]; exact (Array.getElem?_eq_some_iff.1 he).1
  have hsz : (X.setCell ⟨be, 0, none⟩ (.int .i64 k)).heap.size = X.heap.size := by simp [World.setCell]
  refine ⟨?_, ?_, ?_, ?_, hB.os, hB.tape, hB.output⟩
  · exact (Below.heap_alloc _ _ bo (by rw [hsz]; exact hbo)).trans ((heap_setCell_other X ⟨be, 0, none⟩ bo _ hne).trans hX1)
  · refine (Below.heap_alloc _ _ be (by rw [hsz]; exact hbe)).trans ?_
    rw [heap_setCell_same X be 0 _ _ _ ((hX2 be (Ne.symm hne)).trans he)]
    rfl
  · have : (((X.setCell ⟨be, 0, none⟩ (.int .i64 k)).alloc (.cells #[.int .i64 k] 71)).drew).heap.size = X.heap.size + 1 := by simp [hsz]
    omega
  · intro i hi h1 h2
    exact (Below.heap_alloc _ _ i (by rw [hsz, hX3]; exact hi)).trans ((heap_setCell_other X ⟨be, 0, none⟩ i _ h2).trans (hX2 i h1))
theorem catch_left (bo be : Nat) (s : St) (g c : Nat) (Fv : Value) (base : Nat) (k old : Int) (older : List PanicEntry) (w : World) (h : MS w base bo s g c Fv) (he : w.heap[be]? = some (.cells #[.int .i64 old] 28 (0, 0))) :
    CallsD Try.prog 29 #[.pointer (some ⟨bo, 0, none⟩), .pointer (some ⟨be, 0, none⟩)] (.panicking ({ v := .iface 71 (.agg #[.int .i64 k]), recovered := false } :: older)) w fun e u' w' =>
      e = .returned (.tuple #[]) ∧ u' = .panicking ({ v := .iface 71 (.agg #[.int .i64 k]), recovered := true } :: older) ∧ CatchR bo be k w w' := by
  have hta : ∀ w, (Instr.typeAssert (.iface 71 (.agg #[.int .i64 k])) 20 71 true).run Try.prog w = .ok (.tuple #[.agg #[.int .i64 k], .bool true]) w := fun w => by kernel_rfl
  have hneq : ∀ w, (binOp .neq 20 (.iface 71 (.agg #[.int .i64 k])) .nilIface).run Try.prog w = .ok (.bool true) w := fun w => by kernel_rfl
  refine callsD_of_wpS Try.func29 rfl fun c₀ cs hu => ?_
  apply wpS_seq
  apply wpS_region
  simp [wpOpsS, go_sem, recoverD, hu, Try.ntmps29, Exit.thenS]
  refine wpS_of_wp (wp_mono (Q := CatchQ (fun w' => CatchR bo be k w w')) ?_ ?_)
  · simp only [Array.replicate_succ, Array.replicate_zero, List.push_toArray, List.append_toArray, List.nil_append, List.cons_append, List.setIfInBounds_toArray, List.set_cons_succ, List.set_cons_zero]
    clear hu
    have hbo := (Array.getElem?_eq_some_iff.1 h.blk).1
    have hbe := (Array.getElem?_eq_some_iff.1 he).1
    have hne : bo ≠ be := by rintro rfl; have := h.blk; rw [he] at this; simp at this
    have hc := fun j => cell_of_row _ bo j _ _ _ h.blk
    have hc0 := hc 0
    have hc1 := hc 1
    have hc2 := hc 2
    have hc3 := hc 3
    have hc4 := hc 4
    have hc5 := hc 5
    have hc6 := hc 6
    have hc7 := hc 7
    have hc8 := hc 8
    simp [cellsS] at hc0 hc1 hc2 hc3 hc4 hc5 hc6 hc7 hc8
    have hf0 := frozen_of_row _ bo 0 _ _ h.blk
    have hf1 := frozen_of_row _ bo 1 _ _ h.blk
    have hf2 := frozen_of_row _ bo 2 _ _ h.blk
    have hf3 := frozen_of_row _ bo 3 _ _ h.blk
    have hf4 := frozen_of_row _ bo 4 _ _ h.blk
    have hf5 := frozen_of_row _ bo 5 _ _ h.blk
    have hf6 := frozen_of_row _ bo 6 _ _ h.blk
    have hf7 := frozen_of_row _ bo 7 _ _ h.blk
    have hf8 := frozen_of_row _ bo 8 _ _ h.blk
    have ec0 := cell_of_row _ be 0 _ _ _ he
    simp at ec0
    have ef0 := frozen_of_row _ be 0 _ _ he
    obtain ⟨X, hX⟩ : ∃ X, (((((((((w.setCell ⟨bo, 0, none⟩ (.slice none 0 0)).setCell ⟨bo, 1, none⟩ (.slice none 0 0)).setCell ⟨bo, 2, none⟩ (.int .i64 0)).setCell ⟨bo, 3, none⟩ (.int .i64 0)).setCell ⟨bo, 4, none⟩ (.int .i64 0)).setCell ⟨bo, 5, none⟩ (.int .i64 0)).setCell ⟨bo, 6, none⟩ (.int .i64 0)).setCell ⟨bo, 7, none⟩ (.int .i64 0)).setCell ⟨bo, 8, none⟩ (.bool false)) = X := ⟨_, rfl⟩
    have x1 := wiped h.blk
    have x2 := wiped_other (w := w) (bo := bo)
    have x3 := wiped_below w bo
    rw [hX] at x1 x2 x3
    have HX := Lib.hid (And.intro hX (And.intro x1 (And.intro x2 x3)))
    clear hX x1 x2 x3
    have HH := Lib.hid (And.intro h he)
    have HN := Lib.hid hne
    have hne2 := hne.symm
    clear h he hc
    go_wp2
    go_region
    rw [HX.out.1]
    exact ⟨.inl rfl, rfl, catch_R HX.out.2.1 HX.out.2.2.1 HX.out.2.2.2.2 HX.out.2.2.2.1 HH.out.2 HN.out⟩
  · rintro e a w' ⟨he, hd, hR⟩
    cases c₀
    rcases he with rfl | rfl <;> simp_all [bodyPostS, results, Try.results29]
end Go.Proofs.Ythpcipfloofbcaa
