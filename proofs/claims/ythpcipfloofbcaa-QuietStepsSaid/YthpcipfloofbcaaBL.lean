import Derived.Test.YthpcipfloofbcaaBJ
import Derived.Test.YthpcipfloofbcaaQ
import Derived.Deep.RegionHeld3
import Derived.Deep.DeepCutAuto
namespace Go.Proofs.Ythpcipfloofbcaa
open Go.RowKit
set_option maxRecDepth 100000
set_option linter.unusedSimpArgs false
set_option linter.unusedVariables false

theorem Fresh.of {n : Nat} {A : Option Addr} (h : ∀ a, A = some a → n ≤ a.block) : Fresh n A := h
/-- a box of a state made behind V -/
structure NB (t : TypeId) (V : World) (s2 : St) (b : Nat) (X : World) : Prop where
  lo : Below V.heap.size V X
  ge : V.heap.size ≤ b
  row : ∃ A c B d, X.heap[b]? = some (.cells (cellsS s2 (.slice A s2.ms.length c) (.slice B s2.fl.length d)) t (0, 0)) ∧ RdS X A B s2

theorem NB.first {t : TypeId} {V w5 : World} {s2 : St} {A3 B3 : Option Addr} {c3 d3 : Nat} (hb : Below V.heap.size V w5) (hr : RdS w5 A3 B3 s2) : NB t V s2 w5.heap.size (w5.alloc (.cells (cellsS s2 (.slice A3 s2.ms.length c3) (.slice B3 s2.fl.length d3)) t)) := by
  have hb6 : Below w5.heap.size w5 (w5.alloc (.cells (cellsS s2 (.slice A3 s2.ms.length c3) (.slice B3 s2.fl.length d3)) t)) := (Below.refl _ _).alloc (Nat.le_refl _) _
  exact ⟨hb.trans (hb6.mono hb.size), hb.size, A3, c3, B3, d3, heap_alloc_new w5 _, hr.below hb6⟩
theorem NB.second {t : TypeId} {V w5 : World} {s2 : St} {bz : Nat} {A3 B3 : Option Addr} {c3 d3 : Nat} (hb : Below V.heap.size V w5) (hge : V.heap.size ≤ bz) (hrow : w5.heap[bz]? = some (.cells (cellsS St.zero (.slice none 0 0) (.slice none 0 0)) t (0, 0))) (hr : RdS w5 A3 B3 s2) (hA : Fresh (bz + 1) A3) (hB : Fresh (bz + 1) B3) : NB t V s2 bz (fill9 w5 bz s2 A3 c3 B3 d3) := by
  have q0 := filledT (.slice A3 s2.ms.length c3) (.slice B3 s2.fl.length d3) (.int .i64 s2.wn) (.int .i64 s2.ws) (.int .i64 s2.wr) (.int .i64 s2.ls) (.int .i64 s2.lr) (.int .i64 s2.wv) (.bool s2.told) hrow
  have q1 := fill_kx V.heap.size bz hge w5 (.slice A3 s2.ms.length c3) (.slice B3 s2.fl.length d3) (.int .i64 s2.wn) (.int .i64 s2.ws) (.int .i64 s2.wr) (.int .i64 s2.ls) (.int .i64 s2.lr) (.int .i64 s2.wv) (.bool s2.told)
  exact ⟨hb.trans ⟨q1.1.os, q1.1.tape, q1.1.output, q1.1.size, q1.1.low⟩, hge, A3, c3, B3, d3, q0, hr.kx q1.1 (fun a ha e' => by have := hA a ha; omega) (fun a ha e' => by have := hB a ha; omega)⟩
theorem NB.third {t : TypeId} {V w5 : World} {s2 : St} {A3 B3 : Option Addr} {c3 d3 : Nat} (hb : Below V.heap.size V w5) (hr : RdS w5 A3 B3 s2) : NB t V s2 w5.heap.size (fill9 (w5.alloc (.cells zeroS t)) w5.heap.size s2 A3 c3 B3 d3) := by
  have q0 := filledT (w := w5.alloc (.cells zeroS t)) (bo := w5.heap.size) (s0 := St.zero) (M0 := .slice none 0 0) (F0 := .slice none 0 0) (t := t) (.slice A3 s2.ms.length c3) (.slice B3 s2.fl.length d3) (.int .i64 s2.wn) (.int .i64 s2.ws) (.int .i64 s2.wr) (.int .i64 s2.ls) (.int .i64 s2.lr) (.int .i64 s2.wv) (.bool s2.told) (heap_alloc_new w5 _)
  have q3 := filled_below w5.heap.size (w5.alloc (.cells zeroS t)) w5.heap.size (Nat.le_refl _) (.slice A3 s2.ms.length c3) (.slice B3 s2.fl.length d3) (.int .i64 s2.wn) (.int .i64 s2.ws) (.int .i64 s2.wr) (.int .i64 s2.ls) (.int .i64 s2.lr) (.int .i64 s2.wv) (.bool s2.told)
  have hb6 := ((Below.refl w5.heap.size w5).alloc (Nat.le_refl _) (.cells zeroS t)).trans q3.1
  exact ⟨hb.trans (hb6.mono hb.size), hb.size, A3, c3, B3, d3, q0, hr.below hb6⟩
theorem NB.below {t : TypeId} {V X Y : World} {s2 : St} {b : Nat} (h : NB t V s2 b X) (hw : Below X.heap.size X Y) : NB t V s2 b Y := by
  obtain ⟨hlo, hge, A2, c2, B2, d2, hrow, hrd⟩ := h
  exact ⟨hlo.trans (hw.mono hlo.size), hge, A2, c2, B2, d2, (hw.block _ (Array.getElem?_eq_some_iff.1 hrow).1).trans hrow, hrd.below hw⟩

/-- a state's row at a block, and what it holds, not in the block n -/
structure RowB (t : TypeId) (b : Nat) (s : St) (W : World) (n : Nat) : Prop where
  row : ∃ A c B d, W.heap[b]? = some (.cells (cellsS s (.slice A s.ms.length c) (.slice B s.fl.length d)) t (0, 0)) ∧ RdS W A B s ∧ Fresh n A ∧ Fresh n B
theorem RowB.below {t : TypeId} {b : Nat} {s : St} {W X : World} {n : Nat} (h : RowB t b s W n) (hw : Below W.heap.size W X) : RowB t b s X n := by
  obtain ⟨A2, c2, B2, d2, hrow, hrd, hA, hB⟩ := h
  exact ⟨A2, c2, B2, d2, (hw.block _ (Array.getElem?_eq_some_iff.1 hrow).1).trans hrow, hrd.below hw, hA, hB⟩
/-- another box is filled -/
theorem RowB.aside {t : TypeId} {b bo : Nat} {s s2 : St} {W : World} {n : Nat} {A B : Option Addr} (c d : Nat) (h : RowB t b s W n) (hne : b ≠ bo) (hbo : bo < n) : RowB t b s (fill9 W bo s2 A c B d) n := by
  obtain ⟨A2, c2, B2, d2, hrow, hrd, hA, hB⟩ := h
  have q1 := fill_kx bo bo (Nat.le_refl _) W (.slice A s2.ms.length c) (.slice B s2.fl.length d) (.int .i64 s2.wn) (.int .i64 s2.ws) (.int .i64 s2.wr) (.int .i64 s2.ls) (.int .i64 s2.lr) (.int .i64 s2.wv) (.bool s2.told)
  exact ⟨A2, c2, B2, d2, q1.1.same _ _ hrow rfl hne, hrd.kx q1.1 (fun a ha e => by have := hA a ha; omega) (fun a ha e => by have := hB a ha; omega), hA, hB⟩
/-- the box itself is filled -/
theorem RowB.filled {t : TypeId} {b : Nat} {s s2 : St} {W : World} {n m : Nat} {A B : Option Addr} (c d : Nat) (h : RowB t b s W n) (hr : RdS W A B s2) (hA : Fresh m A) (hB : Fresh m B) (hm : b < m) : RowB t b s2 (fill9 W b s2 A c B d) m := by
  obtain ⟨A2, c2, B2, d2, hrow, hrd, _, _⟩ := h
  have q0 := filledT (.slice A s2.ms.length c) (.slice B s2.fl.length d) (.int .i64 s2.wn) (.int .i64 s2.ws) (.int .i64 s2.wr) (.int .i64 s2.ls) (.int .i64 s2.lr) (.int .i64 s2.wv) (.bool s2.told) hrow
  have q1 := fill_kx b b (Nat.le_refl _) W (.slice A s2.ms.length c) (.slice B s2.fl.length d) (.int .i64 s2.wn) (.int .i64 s2.ws) (.int .i64 s2.wr) (.int .i64 s2.ls) (.int .i64 s2.lr) (.int .i64 s2.wv) (.bool s2.told)
  exact ⟨A, c, B, d, q0, hr.kx q1.1 (fun a ha e => by have := hA a ha; omega) (fun a ha e => by have := hB a ha; omega), hA, hB⟩
theorem NB.rowB {t : TypeId} {V X : World} {s2 : St} {b : Nat} (h : NB t V s2 b X) : RowB t b s2 X 0 := by
  obtain ⟨hlo, hge, A2, c2, B2, d2, hrow, hrd⟩ := h
  exact ⟨A2, c2, B2, d2, hrow, hrd, fun a _ => Nat.zero_le _, fun a _ => Nat.zero_le _⟩
theorem fill9_below {n : Nat} (b : Nat) (hn : n ≤ b) (w : World) (s : St) (A : Option Addr) (c : Nat) (B : Option Addr) (d : Nat) : Below n w (fill9 w b s A c B d) := by
  have q1 := fill_kx n b hn w (.slice A s.ms.length c) (.slice B s.fl.length d) (.int .i64 s.wn) (.int .i64 s.ws) (.int .i64 s.wr) (.int .i64 s.ls) (.int .i64 s.lr) (.int .i64 s.wv) (.bool s.told)
  exact ⟨q1.1.os, q1.1.tape, q1.1.output, q1.1.size, q1.1.low⟩
end Go.Proofs.Ythpcipfloofbcaa
