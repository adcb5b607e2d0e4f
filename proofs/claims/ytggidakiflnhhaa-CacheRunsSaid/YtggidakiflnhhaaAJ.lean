import Derived.Test.YtggidakiflnhhaaAH
import Derived.Test.YtggidakiflnhhaaAI
import Derived.Test.YtggidakiflnhhaaAE
namespace Go.Proofs.Ytggidakiflnhhaa
open Go.RowKit
set_option maxHeartbeats 8000000
set_option maxRecDepth 100000
set_option linter.unusedSimpArgs false
set_option linter.unusedVariables false

theorem lenN (e : En) : (encN e).length = 13 := rfl
theorem oneN (e : En) : ∀ u ∈ encN e, u.oneCell' = true := fun u hu => by simp at hu; rcases hu with rfl | rfl | rfl | rfl | rfl | rfl | rfl | rfl | rfl | rfl | rfl | rfl | rfl <;> rfl
theorem info107 : (Try.prog.info? 107).map (fun i => (i.zero, i.size, i.bytes)) = some (some (.agg #[.int .i64 0, .int .i64 0, .int .i64 0, .int .i64 0, .int .i64 0, .bool false, .bool false, .bool false, .bool false, .bool false, .bool false, .bool false, .bool false]), 13, 48) := by kernel_rfl
/-- the reference's state, its struct handed by value: the memory in block bm, the table of the caches in block bc -/
abbrev stC (c : Cf) (bm bc : Nat) (A : AS) : Array Value :=
  #[.int .i64 c.L, .int .i64 c.W, .int .i64 c.N, .int .i64 c.H, .slice (some ⟨bm, 0, none⟩) A.m.length A.m.length, .slice (some ⟨bc, 0, none⟩) A.cs.length A.cs.length, .int .i64 (A.f : Int), .int .i64 (A.wr : Int), .int .i64 (A.h : Int)]
abbrev stZ : Array Value := #[.int .i64 0, .int .i64 0, .int .i64 0, .int .i64 0, .slice none 0 0, .slice none 0 0, .int .i64 0, .int .i64 0, .int .i64 0]
abbrev enZ : Array Value := #[.int .i64 0, .int .i64 0, .int .i64 0, .int .i64 0, .int .i64 0, .bool false, .bool false, .bool false, .bool false, .bool false, .bool false, .bool false, .bool false]
/-- a row that is read, in a block that is none of some -/
def RowR (bm bc : Nat) (X : Nat → Prop) (w : World) (v : Value) (es : List En) : Prop := ∃ P cp, v = .slice P es.length cp ∧ es.length ≤ cp ∧ Rd encN 13 w P es ∧ (∀ a, P = some a → a.off = 0 ∧ a.spot = none) ∧ (0 < es.length → ∀ a, P = some a → a.block ≠ bm ∧ a.block ≠ bc ∧ ¬ X a.block)
structure RS (c : Cf) (bm bc : Nat) (X : Nat → Prop) (A : AS) (w : World) : Prop where
  ne : bm ≠ bc
  mem : w.heap[bm]? = some (.cells (memC A) 3 (0, 0))
  tab : ∃ sv : List Value, w.heap[bc]? = some (.cells sv.toArray 85 (0, 0)) ∧ sv.length = A.cs.length ∧ ∀ (k : Nat) (v : Value) (es : List En), sv[k]? = some v → A.cs[k]? = some es → RowR bm bc X w v es
/-- what lies below B stands, but for two blocks -/
structure Kq (bm bc B : Nat) (w w' : World) : Prop where
  os : w'.os = w.os
  tape : w'.tape = w.tape
  output : w'.output = w.output
  size : w.heap.size ≤ w'.heap.size
  block : ∀ k, k < B → k ≠ bm → k ≠ bc → w'.heap[k]? = w.heap[k]?
section
variable {bm bc B : Nat} {a w w' : World}
theorem Kq.of (h : Below B w w') : Kq bm bc B w w' := ⟨h.os, h.tape, h.output, h.size, fun k hk _ _ => h.block k hk⟩
theorem Kq.refl (w : World) : Kq bm bc B w w := Kq.of (Below.refl _ _)
theorem Kq.trans (h : Kq bm bc B a w) (k : Kq bm bc B w w') : Kq bm bc B a w' :=
  ⟨k.os.trans h.os, k.tape.trans h.tape, k.output.trans h.output, Nat.le_trans h.size k.size, fun i hi h1 h2 => (k.block i hi h1 h2).trans (h.block i hi h1 h2)⟩
theorem Kq.mono (h : Kq bm bc B w w') {B' : Nat} (hB : B' ≤ B) : Kq bm bc B' w w' := ⟨h.os, h.tape, h.output, h.size, fun k hk => h.block k (Nat.lt_of_lt_of_le hk hB)⟩
theorem Kq.low (h : Kq bm bc B w w') {base : Nat} (h1 : base ≤ bm) (h2 : base ≤ bc) (h3 : base ≤ B) : Below base w w' := ⟨h.os, h.tape, h.output, h.size, fun k hk => h.block k (by omega) (by omega) (by omega)⟩
theorem Kq.grown (h : Kq bm bc B a w) {row : Option Nat} (hg : w.grownBy w' row) (hB : B ≤ w.heap.size) (hr : ∀ k, row = some k → k = bm ∨ k = bc ∨ B ≤ k) : Kq bm bc B a w' :=
  h.trans ⟨hg.os, hg.tape, hg.output, hg.size, fun k hk h1 h2 => hg.block k (by omega) (fun e => by rcases hr k e.symm with h | h | h <;> omega)⟩
theorem Kq.set (h : Kq bm bc B a w) (k j : Nat) (v : Value) (hB : B ≤ w.heap.size) (hk : k = bm ∨ k = bc ∨ B ≤ k) : Kq bm bc B a (w.setCell ⟨k, j, none⟩ v) := h.grown (grownBy_set w k j v) hB (fun k' e => by obtain rfl := Option.some.inj e; exact hk)
theorem Kq.drew (h : Kq bm bc B a w) : Kq bm bc B a w.drew := ⟨h.os, h.tape, h.output, h.size, h.block⟩
end
section
variable {c : Cf} {bm bc : Nat} {X X' : Nat → Prop} {A : AS} {w w' : World}
theorem blk_of_cell {w : World} {p : Addr} {v : Value} (h : w.cell? p = some v) : p.block < w.heap.size := World.block_lt_of_cell? w _ h
theorem Rd.lt {α : Type} {enc : α → List Value} {sz : Nat} {w : World} {a : Addr} {xs : List α} (h : Rd enc sz w (some a) xs) (h0 : 0 < xs.length) (h1 : ∀ x, (enc x) ≠ []) : a.block < w.heap.size := by
  obtain ⟨a', ha, hc⟩ := h.cell 0 h0
  obtain rfl := Option.some.inj ha
  obtain ⟨v, vs, hv⟩ := List.exists_cons_of_ne_nil (h1 (xs[0]))
  have := blk_of_cell (hc 0 v (by rw [hv]; rfl))
  rwa [show (a.add (0 * sz + 0)).block = a.block by unfold Addr.add; split <;> rfl] at this
theorem Rd.keep {α : Type} {enc : α → List Value} {sz : Nat} {w Y : World} {A : Option Addr} {xs : List α} (h : Rd enc sz w A xs) (hA : ∀ a, A = some a → 0 < xs.length → Y.heap[a.block]? = w.heap[a.block]?) : Rd enc sz Y A xs :=
  ⟨h.small, fun k hk => by
    obtain ⟨a, ha, hc⟩ := h.cell k hk
    exact ⟨a, ha, fun j v hv => (World.cell?_of_block (by rw [show (a.add (k * sz + j)).block = a.block by unfold Addr.add; split <;> rfl]; exact hA a ha (by omega))).trans (hc j v hv)⟩⟩
theorem RowR.lt {v : Value} {es : List En} {P : Addr} {n cp : Nat} (h : RowR bm bc X w v es) (hv : v = .slice (some P) n cp) (h0 : 0 < es.length) : P.block < w.heap.size := by
  obtain ⟨P', cp', hv', _, hr, _⟩ := h
  rw [hv] at hv'
  obtain ⟨rfl, _, _⟩ := Value.slice.inj hv'
  exact hr.lt h0 (fun x => by simp)
theorem RowR.keep {v : Value} {es : List En} (h : RowR bm bc X w v es) (hk : ∀ j, j < w.heap.size → ¬ X j → j ≠ bm → j ≠ bc → w'.heap[j]? = w.heap[j]?) : RowR bm bc X w' v es := by
  obtain ⟨P, cp, hv, h1, h2, h4, h3⟩ := h
  refine ⟨P, cp, hv, h1, h2.keep (fun a ha h0 => ?_), h4, h3⟩
  subst ha
  obtain ⟨e1, e2, e3⟩ := h3 h0 a rfl
  exact hk _ (h2.lt h0 (fun x => by simp)) e3 e1 e2
theorem RowR.ext {v : Value} {es : List En} (h : RowR bm bc X w v es) (hX : ∀ k, X' k → X k ∨ w.heap.size ≤ k) : RowR bm bc X' w v es := by
  obtain ⟨P, cp, hv, h1, h2, h4, h3⟩ := h
  refine ⟨P, cp, hv, h1, h2, h4, fun h0 a ha => ?_⟩
  subst ha
  obtain ⟨e1, e2, e3⟩ := h3 h0 a rfl
  refine ⟨e1, e2, fun hx => ?_⟩
  rcases hX _ hx with h | h
  · exact e3 h
  · have := h2.lt h0 (fun x => by simp); omega
theorem RS.ext (h : RS c bm bc X A w) (hX : ∀ k, X' k → X k ∨ w.heap.size ≤ k) : RS c bm bc X' A w := by
  obtain ⟨sv, h1, h2, h3⟩ := h.tab
  exact ⟨h.ne, h.mem, sv, h1, h2, fun k v es a b => (h3 k v es a b).ext hX⟩
theorem RS.weak (h : RS c bm bc X A w) (hX : ∀ k, X' k → X k) : RS c bm bc X' A w := h.ext fun k hk => Or.inl (hX k hk)
/-- blocks turn that are none of the state's -/
theorem RS.kept (h : RS c bm bc X A w) (hk : ∀ j, j < w.heap.size → ¬ X j ∨ j = bm ∨ j = bc → w'.heap[j]? = w.heap[j]?) : RS c bm bc X A w' := by
  obtain ⟨sv, h1, h2, h3⟩ := h.tab
  exact ⟨h.ne, (hk _ (blk_lt h.mem) (by omega)).trans h.mem, sv, (hk _ (blk_lt h1) (by omega)).trans h1, h2, fun k v es a b => (h3 k v es a b).keep (fun j hj hx _ _ => hk j hj (Or.inl hx))⟩
theorem RS.rest (h : RS c bm bc X A w) (hb : Below w.heap.size w w') : RS c bm bc X A w' := h.kept fun j hj _ => hb.block j hj
theorem RS.lts (h : RS c bm bc X A w) : bm < w.heap.size ∧ bc < w.heap.size := by
  obtain ⟨sv, h1, h2, h3⟩ := h.tab
  exact ⟨blk_lt h.mem, blk_lt h1⟩
/-- a box turns -/
theorem RS.box (h : RS c bm bc X A w) (b j : Nat) (v : Value) (hX : X b) (h1 : b ≠ bm) (h2 : b ≠ bc) : RS c bm bc X A (w.setCell ⟨b, j, none⟩ v) :=
  h.kept fun k hk hx => (grownBy_set w b j v).block k hk (fun e => by
    obtain rfl := Option.some.inj e
    rcases hx with hx | hx | hx
    · exact hx hX
    · exact h1 hx
    · exact h2 hx)
theorem RS.word (h : RS c bm bc X A w) (k : Nat) (hk : k < A.m.length) : w.cell? ⟨bm, k, none⟩ = some (.int .i64 (A.m.getD k 0)) ∧ w.frozen? ⟨bm, k, none⟩ = false := by
  refine ⟨?_, frozen_of_row _ _ _ _ _ h.mem⟩
  rw [cell_of_row _ _ _ _ _ _ h.mem, getD_in _ _ hk]
  simp [memC, hk]
theorem RS.row (h : RS c bm bc X A w) {k : Nat} {es : List En} (hk : A.cs[k]? = some es) : ∃ P cp, w.cell? ⟨bc, k, none⟩ = some (.slice P es.length cp) ∧ w.frozen? ⟨bc, k, none⟩ = false ∧ es.length ≤ cp ∧ Rd encN 13 w P es ∧ (∀ a, P = some a → a.off = 0 ∧ a.spot = none) ∧ RowR bm bc X w (.slice P es.length cp) es := by
  obtain ⟨sv, h1, h2, h3⟩ := h.tab
  have hkl : k < sv.length := by rw [h2]; exact (List.getElem?_eq_some_iff.1 hk).1
  have h4 := h3 k _ es (List.getElem?_eq_getElem hkl) hk
  have h4' := h4
  obtain ⟨P, cp, hv, g1, g2, g4, g3⟩ := h4
  rw [hv] at h4'
  refine ⟨P, cp, ?_, frozen_of_row _ _ _ _ _ h1, g1, g2, g4, h4'⟩
  rw [cell_of_row _ _ _ _ _ _ h1, ← hv]
  simp [hkl]
theorem RS.setMem (h : RS c bm bc X A w) (k : Nat) (x : Int) : RS c bm bc X { A with m := A.m.set k x } (w.setCell ⟨bm, k, none⟩ (.int .i64 x)) := by
  obtain ⟨sv, h1, h2, h3⟩ := h.tab
  have hg := grownBy_set w bm k (.int .i64 x)
  refine ⟨h.ne, ?_, sv, (hg.block _ (blk_lt h1) (fun e => h.ne (Option.some.inj e).symm)).trans h1, h2, fun j v es a b => (h3 j v es a b).keep (fun i hi _ h5 _ => hg.block i hi (fun e => h5 (Option.some.inj e)))⟩
  rw [heap_setCell_same w bm k _ 3 _ h.mem]
  simp [memC, List.map_set]
theorem RS.setRow (h : RS c bm bc X A w) (k : Nat) {v : Value} {es : List En} (hr : RowR bm bc X w v es) : RS c bm bc X { A with cs := A.cs.set k es } (w.setCell ⟨bc, k, none⟩ v) := by
  obtain ⟨sv, h1, h2, h3⟩ := h.tab
  have hg := grownBy_set w bc k v
  refine ⟨h.ne, (hg.block _ (blk_lt h.mem) (fun e => h.ne (Option.some.inj e))).trans h.mem, sv.set k v, ?_, by simp [h2], fun j v' es' a b => ?_⟩
  · rw [heap_setCell_same w bc k _ 85 _ h1]; simp
  · refine RowR.keep (w := w) ?_ (fun i hi _ _ h5 => hg.block i hi (fun e => h5 (Option.some.inj e)))
    rw [List.getElem?_set] at a
    simp only [List.getElem?_set] at b
    by_cases e : k = j
    · subst e
      have h6 : k < sv.length := by
        apply Classical.byContradiction
        intro g
        rw [if_pos rfl, if_neg g] at a
        cases a
      rw [if_pos rfl, if_pos h6] at a
      rw [if_pos rfl, if_pos (by omega)] at b
      obtain rfl := Option.some.inj a
      obtain rfl := Option.some.inj b
      exact hr
    · rw [if_neg e] at a b
      exact h3 j v' es' a b
theorem RS.same (h : RS c bm bc X A w) {A' : AS} (h1 : A'.m = A.m) (h2 : A'.cs = A.cs) : RS c bm bc X A' w := by
  obtain ⟨sv, g1, g2, g3⟩ := h.tab
  exact ⟨h.ne, by unfold memC; rw [h1]; exact h.mem, sv, g1, by rw [h2]; exact g2, by rw [h2]; exact g3⟩
end
/-- what a state's box holds -/
theorem st9 {w : World} {b : Nat} {v0 v1 v2 v3 v4 v5 v6 v7 v8 : Value} {t : TypeId} (h : w.heap[b]? = some (.cells #[v0, v1, v2, v3, v4, v5, v6, v7, v8] t (0, 0))) :
    w.cell? ⟨b, 0, none⟩ = some v0 ∧ w.cell? ⟨b, 1, none⟩ = some v1 ∧ w.cell? ⟨b, 2, none⟩ = some v2 ∧ w.cell? ⟨b, 3, none⟩ = some v3 ∧ w.cell? ⟨b, 4, none⟩ = some v4 ∧ w.cell? ⟨b, 5, none⟩ = some v5 ∧ w.cell? ⟨b, 6, none⟩ = some v6 ∧ w.cell? ⟨b, 7, none⟩ = some v7 ∧ w.cell? ⟨b, 8, none⟩ = some v8 := by
  refine ⟨?_, ?_, ?_, ?_, ?_, ?_, ?_, ?_, ?_⟩ <;> (rw [cell_of_row _ _ _ _ _ _ h]; rfl)
theorem st13 {w : World} {b : Nat} {v0 v1 v2 v3 v4 v5 v6 v7 v8 v9 v10 v11 v12 : Value} {t : TypeId} (h : w.heap[b]? = some (.cells #[v0, v1, v2, v3, v4, v5, v6, v7, v8, v9, v10, v11, v12] t (0, 0))) :
    w.cell? ⟨b, 0, none⟩ = some v0 ∧ w.cell? ⟨b, 1, none⟩ = some v1 ∧ w.cell? ⟨b, 2, none⟩ = some v2 ∧ w.cell? ⟨b, 3, none⟩ = some v3 ∧ w.cell? ⟨b, 4, none⟩ = some v4 ∧ w.cell? ⟨b, 5, none⟩ = some v5 ∧ w.cell? ⟨b, 6, none⟩ = some v6 ∧ w.cell? ⟨b, 7, none⟩ = some v7 ∧ w.cell? ⟨b, 8, none⟩ = some v8 ∧ w.cell? ⟨b, 9, none⟩ = some v9 ∧ w.cell? ⟨b, 10, none⟩ = some v10 ∧ w.cell? ⟨b, 11, none⟩ = some v11 ∧ w.cell? ⟨b, 12, none⟩ = some v12 := by
  refine ⟨?_, ?_, ?_, ?_, ?_, ?_, ?_, ?_, ?_, ?_, ?_, ?_, ?_⟩ <;> (rw [cell_of_row _ _ _ _ _ _ h]; rfl)
theorem frz {w : World} {b : Nat} {cs : Array Value} {t : TypeId} (h : w.heap[b]? = some (.cells cs t (0, 0))) (j : Nat) : w.frozen? ⟨b, j, none⟩ = false := frozen_of_row _ _ _ _ _ h
/-- nine cells are stored -/
abbrev fil9 (w : World) (b : Nat) (v0 v1 v2 v3 v4 v5 v6 v7 v8 : Value) : World := ((((((((w.setCell ⟨b, 0, none⟩ v0).setCell ⟨b, 1, none⟩ v1).setCell ⟨b, 2, none⟩ v2).setCell ⟨b, 3, none⟩ v3).setCell ⟨b, 4, none⟩ v4).setCell ⟨b, 5, none⟩ v5).setCell ⟨b, 6, none⟩ v6).setCell ⟨b, 7, none⟩ v7).setCell ⟨b, 8, none⟩ v8
abbrev fil13 (w : World) (b : Nat) (v0 v1 v2 v3 v4 v5 v6 v7 v8 v9 v10 v11 v12 : Value) : World := (((((((((((((w.setCell ⟨b, 0, none⟩ v0).setCell ⟨b, 1, none⟩ v1).setCell ⟨b, 2, none⟩ v2).setCell ⟨b, 3, none⟩ v3).setCell ⟨b, 4, none⟩ v4).setCell ⟨b, 5, none⟩ v5).setCell ⟨b, 6, none⟩ v6).setCell ⟨b, 7, none⟩ v7).setCell ⟨b, 8, none⟩ v8).setCell ⟨b, 9, none⟩ v9).setCell ⟨b, 10, none⟩ v10).setCell ⟨b, 11, none⟩ v11).setCell ⟨b, 12, none⟩ v12)
theorem fil9_at {w : World} {b : Nat} {u0 u1 u2 u3 u4 u5 u6 u7 u8 : Value} {t : TypeId} (v0 v1 v2 v3 v4 v5 v6 v7 v8 : Value) (h : w.heap[b]? = some (.cells #[u0, u1, u2, u3, u4, u5, u6, u7, u8] t (0, 0))) :
    (fil9 w b v0 v1 v2 v3 v4 v5 v6 v7 v8).heap[b]? = some (.cells #[v0, v1, v2, v3, v4, v5, v6, v7, v8] t (0, 0)) ∧ w.grownBy (fil9 w b v0 v1 v2 v3 v4 v5 v6 v7 v8) (some b) ∧ (fil9 w b v0 v1 v2 v3 v4 v5 v6 v7 v8).heap.size = w.heap.size := by
  refine ⟨?_, ?_, by simp [fil9]⟩
  · have h0 := heap_setCell_same _ b 0 _ _ v0 h
    have h1 := heap_setCell_same _ b 1 _ _ v1 h0
    have h2 := heap_setCell_same _ b 2 _ _ v2 h1
    have h3 := heap_setCell_same _ b 3 _ _ v3 h2
    have h4 := heap_setCell_same _ b 4 _ _ v4 h3
    have h5 := heap_setCell_same _ b 5 _ _ v5 h4
    have h6 := heap_setCell_same _ b 6 _ _ v6 h5
    have h7 := heap_setCell_same _ b 7 _ _ v7 h6
    have h8 := heap_setCell_same _ b 8 _ _ v8 h7
    simpa using h8
  · exact grownBy_trans (grownBy_trans (grownBy_trans (grownBy_trans (grownBy_trans (grownBy_trans (grownBy_trans (grownBy_trans (grownBy_set _ _ _ _) (grownBy_set _ _ _ _)) (grownBy_set _ _ _ _)) (grownBy_set _ _ _ _)) (grownBy_set _ _ _ _)) (grownBy_set _ _ _ _)) (grownBy_set _ _ _ _)) (grownBy_set _ _ _ _)) (grownBy_set _ _ _ _)
theorem fil13_at {w : World} {b : Nat} {u0 u1 u2 u3 u4 u5 u6 u7 u8 u9 u10 u11 u12 : Value} {t : TypeId} (v0 v1 v2 v3 v4 v5 v6 v7 v8 v9 v10 v11 v12 : Value) (h : w.heap[b]? = some (.cells #[u0, u1, u2, u3, u4, u5, u6, u7, u8, u9, u10, u11, u12] t (0, 0))) :
    (fil13 w b v0 v1 v2 v3 v4 v5 v6 v7 v8 v9 v10 v11 v12).heap[b]? = some (.cells #[v0, v1, v2, v3, v4, v5, v6, v7, v8, v9, v10, v11, v12] t (0, 0)) ∧ w.grownBy (fil13 w b v0 v1 v2 v3 v4 v5 v6 v7 v8 v9 v10 v11 v12) (some b) ∧ (fil13 w b v0 v1 v2 v3 v4 v5 v6 v7 v8 v9 v10 v11 v12).heap.size = w.heap.size := by
  refine ⟨?_, ?_, by simp [fil13]⟩
  · have h0 := heap_setCell_same _ b 0 _ _ v0 h
    have h1 := heap_setCell_same _ b 1 _ _ v1 h0
    have h2 := heap_setCell_same _ b 2 _ _ v2 h1
    have h3 := heap_setCell_same _ b 3 _ _ v3 h2
    have h4 := heap_setCell_same _ b 4 _ _ v4 h3
    have h5 := heap_setCell_same _ b 5 _ _ v5 h4
    have h6 := heap_setCell_same _ b 6 _ _ v6 h5
    have h7 := heap_setCell_same _ b 7 _ _ v7 h6
    have h8 := heap_setCell_same _ b 8 _ _ v8 h7
    have h9 := heap_setCell_same _ b 9 _ _ v9 h8
    have h10 := heap_setCell_same _ b 10 _ _ v10 h9
    have h11 := heap_setCell_same _ b 11 _ _ v11 h10
    have h12 := heap_setCell_same _ b 12 _ _ v12 h11
    simpa using h12
  · exact grownBy_trans (grownBy_trans (grownBy_trans (grownBy_trans (grownBy_trans (grownBy_trans (grownBy_trans (grownBy_trans (grownBy_trans (grownBy_trans (grownBy_trans (grownBy_trans (grownBy_set _ _ _ _) (grownBy_set _ _ _ _)) (grownBy_set _ _ _ _)) (grownBy_set _ _ _ _)) (grownBy_set _ _ _ _)) (grownBy_set _ _ _ _)) (grownBy_set _ _ _ _)) (grownBy_set _ _ _ _)) (grownBy_set _ _ _ _)) (grownBy_set _ _ _ _)) (grownBy_set _ _ _ _)) (grownBy_set _ _ _ _)) (grownBy_set _ _ _ _)
theorem Kq.nine {bm bc B : Nat} {a w : World} (h : Kq bm bc B a w) {b : Nat} {v0 v1 v2 v3 v4 v5 v6 v7 v8 : Value} (hB : B ≤ w.heap.size) (hb : b = bm ∨ b = bc ∨ B ≤ b) : Kq bm bc B a (fil9 w b v0 v1 v2 v3 v4 v5 v6 v7 v8) := by
  have g : w.grownBy (fil9 w b v0 v1 v2 v3 v4 v5 v6 v7 v8) (some b) := grownBy_trans (grownBy_trans (grownBy_trans (grownBy_trans (grownBy_trans (grownBy_trans (grownBy_trans (grownBy_trans (grownBy_set _ _ _ _) (grownBy_set _ _ _ _)) (grownBy_set _ _ _ _)) (grownBy_set _ _ _ _)) (grownBy_set _ _ _ _)) (grownBy_set _ _ _ _)) (grownBy_set _ _ _ _)) (grownBy_set _ _ _ _)) (grownBy_set _ _ _ _)
  exact h.grown g hB (fun k e => by obtain rfl := Option.some.inj e; exact hb)
theorem Kq.thirteen {bm bc B : Nat} {a w : World} (h : Kq bm bc B a w) {b : Nat} {v0 v1 v2 v3 v4 v5 v6 v7 v8 v9 v10 v11 v12 : Value} (hB : B ≤ w.heap.size) (hb : b = bm ∨ b = bc ∨ B ≤ b) : Kq bm bc B a (fil13 w b v0 v1 v2 v3 v4 v5 v6 v7 v8 v9 v10 v11 v12) := by
  have g : w.grownBy (fil13 w b v0 v1 v2 v3 v4 v5 v6 v7 v8 v9 v10 v11 v12) (some b) := grownBy_trans (grownBy_trans (grownBy_trans (grownBy_trans (grownBy_trans (grownBy_trans (grownBy_trans (grownBy_trans (grownBy_trans (grownBy_trans (grownBy_trans (grownBy_trans (grownBy_set _ _ _ _) (grownBy_set _ _ _ _)) (grownBy_set _ _ _ _)) (grownBy_set _ _ _ _)) (grownBy_set _ _ _ _)) (grownBy_set _ _ _ _)) (grownBy_set _ _ _ _)) (grownBy_set _ _ _ _)) (grownBy_set _ _ _ _)) (grownBy_set _ _ _ _)) (grownBy_set _ _ _ _)) (grownBy_set _ _ _ _)) (grownBy_set _ _ _ _)
  exact h.grown g hB (fun k e => by obtain rfl := Option.some.inj e; exact hb)
/-- boxes that a function makes at its head -/
theorem box4 (w : World) (o0 o1 o2 o3 : Obj) : ∃ W, (((w.alloc o0).alloc o1).alloc o2).alloc o3 = W ∧ Below w.heap.size w W ∧ W.heap.size = w.heap.size + 4 ∧ W.heap[w.heap.size]? = some o0 ∧ W.heap[w.heap.size + 1]? = some o1 ∧ W.heap[w.heap.size + 2]? = some o2 ∧ W.heap[w.heap.size + 3]? = some o3 := by
  refine ⟨_, rfl, ((((Below.refl _ _).alloc (Nat.le_refl _) _).alloc (by simp) _).alloc (by simp; omega) _).alloc (by simp; omega) _, by simp, ?_, ?_, ?_, ?_⟩
  · rw [Below.heap_alloc _ _ _ (by simp; omega), Below.heap_alloc _ _ _ (by simp; omega), Below.heap_alloc _ _ _ (by simp)]
    exact Go.heap_alloc_new _ _
  · rw [Below.heap_alloc _ _ _ (by simp), Below.heap_alloc _ _ _ (by simp)]
    have := Go.heap_alloc_new (w.alloc o0) o1
    simpa using this
  · rw [Below.heap_alloc _ _ _ (by simp)]
    have := Go.heap_alloc_new ((w.alloc o0).alloc o1) o2
    simpa using this
  · have := Go.heap_alloc_new (((w.alloc o0).alloc o1).alloc o2) o3
    simpa using this
theorem box2 (w : World) (o0 o1 : Obj) : ∃ W, (w.alloc o0).alloc o1 = W ∧ Below w.heap.size w W ∧ W.heap.size = w.heap.size + 2 ∧ W.heap[w.heap.size]? = some o0 ∧ W.heap[w.heap.size + 1]? = some o1 := by
  refine ⟨_, rfl, ((Below.refl _ _).alloc (Nat.le_refl _) _).alloc (by simp) _, by simp, ?_, ?_⟩
  · rw [Below.heap_alloc _ _ _ (by simp)]
    exact Go.heap_alloc_new _ _
  · have := Go.heap_alloc_new (w.alloc o0) o1
    simpa using this
/-- what a function over the state leaves -/
def StPost (c : Cf) (bm bc : Nat) (X : Nat → Prop) (A' : AS) (w : World) (y : Ending) (w' : World) : Prop := y = .returned (.agg (stC c bm bc A')) ∧ RS c bm bc X A' w' ∧ Kq bm bc w.heap.size w w'
/-! ### whole structs are loaded and stored -/
theorem grownBy_setRow (w : World) (g : Nat) (cs : Array Value) : w.grownBy (w.setRow g cs) (some g) := ⟨rfl, rfl, rfl, by simp, fun k _ hk => setRow_other w g k cs (fun e => hk (by rw [e]))⟩
theorem exec_load_row {P : Program} {o : Oper} {a : Act} {w : World} (ty : TypeId) (x : Operand) (ho : o.op = .load ty x)
    (g : Nat) (hx : a.eval x = .pointer (some ⟨g, 0, none⟩)) (t : TypeId) (cs : Array Value) (fr : Nat × Nat) (d : TypeDesc) (hg : w.heap[g]? = some (.cells cs t fr))
    (hu : P.underlying ty = some d) (hd : (match d with | .struct _ | .array _ _ => true | _ => false) = true) (hi : (P.info? ty).map (·.size) = some cs.size) :
    (execOp a.eval o).run P w = .ok (.value (.agg cs)) w := by
  unfold execOp
  simp only [ho, hx, Instr.loadAt, Instr.sureAddr, Sem.run_bind, Sem.run_pure, Result.andThen_ok, run_loadVar_row w g t ty cs fr d hg hu hd hi]
theorem info81s : (Try.prog.info? 81).map (·.size) = some 9 := by kernel_rfl
theorem info107s : (Try.prog.info? 107).map (·.size) = some 13 := by kernel_rfl
section
variable {bm bc B : Nat} {a w w' : World}
theorem Kq.row (h : Kq bm bc B a w) {b : Nat} (cs : Array Value) (hB : B ≤ w.heap.size) (hb : b = bm ∨ b = bc ∨ B ≤ b) : Kq bm bc B a (w.setRow b cs) := h.grown (grownBy_setRow w b cs) hB (fun k e => by obtain rfl := Option.some.inj e; exact hb)
end
/-- a box beyond n turns -/
theorem RS.far {c : Cf} {bm bc : Nat} {X : Nat → Prop} {A : AS} {w w' : World} (h : RS c bm bc X A w) {n b : Nat} (hX : ∀ k, n ≤ k → X k) (h1 : bm < n) (h2 : bc < n) (hg : w.grownBy w' (some b)) (hb : n ≤ b) : RS c bm bc X A w' :=
  h.kept fun k hk hx => hg.block k hk (fun e => by
    obtain rfl := Option.some.inj e
    rcases hx with hx | hx | hx
    · exact hx (hX _ hb)
    · omega
    · omega)
/-! ### rows are appended, of whatever length -/
theorem run_append_none {P : Program} (w : World) (t ty e : TypeId) (size : Nat) (ht : P.underlying t = some (.slice e)) (hi : (P.info? e).map (·.size) = some size) (B A : Option Addr) (n c c2 : Nat) (hn : n ≤ c) :
    (Builtin.append_ #[t, t] ty #[.slice B n c, .slice A 0 c2]).run P w = .ok (.slice B n c) w := by
  cases hq : P.info? e with
  | none => simp [hq] at hi
  | some i =>
    cases A <;> cases B <;> simp [Builtin.append_, run_underlying ht, sizeOf, typeInfo, hq, Builtin.lenOf, Builtin.firstCells, hn, go_sem, loadCells, loadCellsFrom, storeCells]
theorem wp_append_row {α : Type} {P : Program} {enc : α → List Value} {sz : Nat} (hs : ∀ x, (enc x).length = sz) (h1 : ∀ x, ∀ u ∈ enc x, u.oneCell' = true)
    (w : World) {o : Oper} {a : Act} {K : Act → World → Prop} {Q : Exit → Act → World → Prop} (s x : Operand) (t : TypeId)
    (ho : o.op = .call { callee := .builtin .append, args := #[s, x], argTypes := #[t, t] })
    (base : Nat) (e : TypeId) (z : Value) (bytes : Nat) (ht : P.underlying t = some (.slice e)) (hinfo : (P.info? e).map (fun i => (i.zero, i.size, i.bytes)) = some (some z, sz, bytes))
    (hzs : z.cells.size = sz) (hsz : 0 < sz) (hb0 : 0 < bytes)
    (v : Value) (xs : List α) (n : Nat) (hn : xs.length = n) (hv : a.eval s = v) (hown : Own enc sz e w base v xs)
    (A : Option Addr) (m c : Nat) (ys : List α) (hx : a.eval x = .slice A m c) (hm : ys.length = m) (hr : Rd enc sz w A ys)
    (hbytes : (n + m) * bytes ≤ 140737488355328) (hbase : base ≤ w.heap.size)
    (h : ∀ B cap w', Own enc sz e w' base (.slice B (n + m) cap) (xs ++ ys) → w.grownBy w' v.ownBlock → (∀ k, (Value.slice B (n + m) cap).ownBlock = some k → v.ownBlock = some k ∨ k = w.heap.size) → K (a.put o.dst (.slice B (n + m) cap)) w') : o.wp P a w K Q := by
  subst hm
  subst hn
  obtain ⟨i0, hi, hz0, hz1, hz2⟩ := info_parts hinfo
  by_cases h0 : 0 < ys.length
  · cases A with
    | none => have := hr.none; rw [this] at h0; simp at h0
    | some ad =>
      have h63 : xs.length + ys.length ≤ maxLen := by
        have : xs.length + ys.length ≤ (xs.length + ys.length) * bytes := Nat.le_mul_of_pos_right _ hb0
        simp only [maxLen]
        omega
      obtain ⟨g, cap, w', hr1, ho1, hg1, hg2, hg3⟩ := run_append_lies (P := P) w t o.type base e i0 z sz bytes ht hi hz0 hz1 hz2 hzs hsz v xs.length (xs.flatMap enc) hown ad ys.length c (ys.flatMap enc) (flat_length hs ys) (hr.news hs)
        (fun u hu => by obtain ⟨y, _, hy⟩ := List.mem_flatMap.1 hu; exact h1 y u hy) h0 h63 hbytes hbase _ rfl
      unfold Oper.wp execOp
      simp only [ho, resolve, invoke, builtin, Sem.run_bind, Sem.run_pure, Result.andThen_ok, List.map_toArray, List.map_cons, List.map_nil, hv, hx, hr1]
      refine h (some ⟨g, 0, none⟩) cap w' ?_ hg1 (fun k hk => ?_)
      · unfold Own
        rw [List.length_append, List.flatMap_append]
        exact ho1
      · have : g = k := by simpa [Value.ownBlock] using hk
        subst this
        exact hg2
  · obtain rfl : ys = [] := List.eq_nil_of_length_eq_zero (by omega)
    obtain ⟨B, cc, rfl, hle, _, _⟩ := hown.form hs
    have hr1 := run_append_none (P := P) w t o.type e sz ht (by rw [hi]; simp [hz1]) B A xs.length cc c hle
    unfold Oper.wp execOp
    simp only [List.length_nil] at hx
    simp only [ho, resolve, invoke, builtin, Sem.run_bind, Sem.run_pure, Result.andThen_ok, List.map_toArray, List.map_cons, List.map_nil, hv, hx, hr1]
    refine h B cc w ?_ ⟨rfl, rfl, rfl, Nat.le_refl _, fun _ _ _ => rfl⟩ (fun k hk => Or.inl hk)
    rw [List.append_nil]
    exact hown
theorem wp_append_rowN {α : Type} {P : Program} {enc : α → List Value} {sz : Nat} (hs : ∀ x, (enc x).length = sz) (h1 : ∀ x, ∀ u ∈ enc x, u.oneCell' = true)
    (w : World) {o : Oper} {a : Act} {K : Act → World → Prop} {Q : Exit → Act → World → Prop} (s x : Operand) (t : TypeId)
    (ho : o.op = .call { callee := .builtin .append, args := #[s, x], argTypes := #[t, t] })
    (base : Nat) (e : TypeId) (z : Value) (bytes : Nat) (ht : P.underlying t = some (.slice e)) (hinfo : (P.info? e).map (fun i => (i.zero, i.size, i.bytes)) = some (some z, sz, bytes))
    (hzs : z.cells.size = sz) (hsz : 0 < sz) (hb0 : 0 < bytes)
    (v : Value) (xs : List α) (n : Nat) (hn : xs.length = n) (hv : a.eval s = v) (hown : Own enc sz e w base v xs)
    (A : Option Addr) (m c : Nat) (ys : List α) (hx : a.eval x = .slice A m c) (hm : ys.length = m) (hr : Rd enc sz w A ys)
    (hbytes : (n + m) * bytes ≤ 140737488355328) (hbase : base ≤ w.heap.size)
    (N : Nat) (hN : n + m = N) (zs : List α) (hz : xs ++ ys = zs)
    (h : ∀ B cap w', Own enc sz e w' base (.slice B N cap) zs → w.grownBy w' v.ownBlock → (∀ k, (Value.slice B N cap).ownBlock = some k → v.ownBlock = some k ∨ k = w.heap.size) → K (a.put o.dst (.slice B N cap)) w') : o.wp P a w K Q := by
  subst hN
  subst hz
  exact wp_append_row hs h1 w s x t ho base e z bytes ht hinfo hzs hsz hb0 v xs n hn hv hown A m c ys hx hm hr hbytes hbase h
theorem wpList_append_row {α : Type} {P : Program} {enc : α → List Value} {sz : Nat} (hs : ∀ x, (enc x).length = sz) (h1 : ∀ x, ∀ u ∈ enc x, u.oneCell' = true)
    (w : World) {ops : Array Oper} {rest : List Oper} {o : Oper} {a : Act} {Q : Exit → Act → World → Prop} (hgd : o.guard = none) (s x : Operand) (t : TypeId)
    (ho : o.op = .call { callee := .builtin .append, args := #[s, x], argTypes := #[t, t] })
    (base : Nat) (e : TypeId) (z : Value) (bytes : Nat) (ht : P.underlying t = some (.slice e)) (hinfo : (P.info? e).map (fun i => (i.zero, i.size, i.bytes)) = some (some z, sz, bytes))
    (hzs : z.cells.size = sz) (hsz : 0 < sz) (hb0 : 0 < bytes)
    (v : Value) (xs : List α) (n : Nat) (hn : xs.length = n) (hv : a.eval s = v) (hown : Own enc sz e w base v xs)
    (A : Option Addr) (m c : Nat) (ys : List α) (hx : a.eval x = .slice A m c) (hm : ys.length = m) (hr : Rd enc sz w A ys)
    (hbytes : (n + m) * bytes ≤ 140737488355328) (hbase : base ≤ w.heap.size)
    (h : ∀ B cap w', Own enc sz e w' base (.slice B (n + m) cap) (xs ++ ys) → w.grownBy w' v.ownBlock → (∀ k, (Value.slice B (n + m) cap).ownBlock = some k → v.ownBlock = some k ∨ k = w.heap.size) → wpList P ops Q rest (a.put o.dst (.slice B (n + m) cap)) w') : wpList P ops Q (o :: rest) a w :=
  wpList_plain hgd fun _ hK => wp_append_row hs h1 w s x t ho base e z bytes ht hinfo hzs hsz hb0 v xs n hn hv hown A m c ys hx hm hr hbytes hbase fun B cap w' a1 a2 a3 => hK _ _ (h B cap w' a1 a2 a3)
theorem wpList_append_rowN {α : Type} {P : Program} {enc : α → List Value} {sz : Nat} (hs : ∀ x, (enc x).length = sz) (h1 : ∀ x, ∀ u ∈ enc x, u.oneCell' = true)
    (w : World) {ops : Array Oper} {rest : List Oper} {o : Oper} {a : Act} {Q : Exit → Act → World → Prop} (hgd : o.guard = none) (s x : Operand) (t : TypeId)
    (ho : o.op = .call { callee := .builtin .append, args := #[s, x], argTypes := #[t, t] })
    (base : Nat) (e : TypeId) (z : Value) (bytes : Nat) (ht : P.underlying t = some (.slice e)) (hinfo : (P.info? e).map (fun i => (i.zero, i.size, i.bytes)) = some (some z, sz, bytes))
    (hzs : z.cells.size = sz) (hsz : 0 < sz) (hb0 : 0 < bytes)
    (v : Value) (xs : List α) (n : Nat) (hn : xs.length = n) (hv : a.eval s = v) (hown : Own enc sz e w base v xs)
    (A : Option Addr) (m c : Nat) (ys : List α) (hx : a.eval x = .slice A m c) (hm : ys.length = m) (hr : Rd enc sz w A ys)
    (hbytes : (n + m) * bytes ≤ 140737488355328) (hbase : base ≤ w.heap.size)
    (N : Nat) (hN : n + m = N) (zs : List α) (hz : xs ++ ys = zs)
    (h : ∀ B cap w', Own enc sz e w' base (.slice B N cap) zs → w.grownBy w' v.ownBlock → (∀ k, (Value.slice B N cap).ownBlock = some k → v.ownBlock = some k ∨ k = w.heap.size) → wpList P ops Q rest (a.put o.dst (.slice B N cap)) w') : wpList P ops Q (o :: rest) a w := by
  subst hN
  subst hz
  exact wpList_append_row hs h1 w hgd s x t ho base e z bytes ht hinfo hzs hsz hb0 v xs n hn hv hown A m c ys hx hm hr hbytes hbase h
theorem rd_take {α : Type} {enc : α → List Value} {sz : Nat} {w : World} {A : Option Addr} {xs : List α} (h : Rd enc sz w A xs) (i : Nat) : Rd enc sz w A (xs.take i) :=
  ⟨by have := h.small; simp; omega, fun k hk => by
    simp only [List.length_take] at hk
    obtain ⟨a, ha, hc⟩ := h.cell k (by omega)
    exact ⟨a, ha, fun j v hv => hc j v (by simpa using hv)⟩⟩
theorem add_add (a : Addr) (m n : Nat) (hs : a.spot = none) : (a.add m).add n = a.add (m + n) := by
  obtain ⟨b, o, s⟩ := a
  simp only at hs
  subst hs
  unfold Addr.add
  split <;> split <;> split <;> simp_all <;> omega
theorem rd_drop {α : Type} {enc : α → List Value} {sz : Nat} {w : World} {a : Addr} {xs : List α} (h : Rd enc sz w (some a) xs) (hsp : a.spot = none) (i : Nat) : Rd enc sz w (some (a.add (i * sz))) (xs.drop i) :=
  ⟨by have := h.small; simp; omega, fun k hk => by
    simp only [List.length_drop] at hk
    obtain ⟨b, hb, hc⟩ := h.cell (i + k) (by omega)
    obtain rfl := Option.some.inj hb
    refine ⟨_, rfl, fun j v hv => ?_⟩
    rw [add_add _ _ _ hsp, show i * sz + (k * sz + j) = (i + k) * sz + j by rw [Nat.add_mul]; omega]
    exact hc j v (by simpa using hv)⟩
/-- a row under way: what it holds, and an element that lies ready -/
structure Us (n : Nat) (U : World) (es : List En) (v : Value) (gB : Option Nat) (e : En) (W : World) : Prop where
  own : Own encN 13 107 W n v es
  lo : Below n U W
  one : ∀ g, gB = some g → W.heap[g]? = some (.cells e.cells 107 (0, 0)) ∧ v.ownBlock ≠ some g
  sz : n ≤ U.heap.size
section
variable {n : Nat} {U W W' : World} {es : List En} {v : Value} {gB : Option Nat} {e : En}
theorem Us.init (e : En) (h : n ≤ U.heap.size) : Us n U [] (.slice none 0 0) none e U := ⟨⟨rfl, Or.inl ⟨rfl, rfl⟩⟩, Below.refl _ _, fun g hg => (by cases hg), h⟩
theorem Us.size (h : Us n U es v gB e W) : n ≤ W.heap.size := Nat.le_trans h.sz h.lo.size
theorem Us.new (h : Us n U [] v gB e W) : Us n U [] (.slice (some ⟨W.heap.size, 0, none⟩) 0 0) gB e (W.alloc (.cells #[] 107)) := by
  refine ⟨Own.empty _ _ _ _ _ h.size, h.lo.alloc h.size _, fun g hg => ⟨?_, ?_⟩, h.sz⟩
  · have := (h.one g hg).1
    rw [Below.heap_alloc _ _ _ (blk_lt this)]
    exact this
  · have := blk_lt (h.one g hg).1
    simp [Value.ownBlock]
    omega
theorem Us.lay (h : Us n U es v none e W) : Us n U es v (some W.heap.size) e (W.alloc (.cells e.cells 107)) := by
  refine ⟨h.own.rest ((Below.refl _ _).alloc (Nat.le_refl _) _), h.lo.alloc h.size _, fun g hg => ?_, h.sz⟩
  obtain rfl := Option.some.inj hg
  refine ⟨Go.heap_alloc_new W _, fun hv => ?_⟩
  have := (h.own.blk _ hv).2.1
  omega
theorem Us.app (h : Us n U es v gB e W) {zs : List En} {v' : Value} (ho : Own encN 13 107 W' n v' zs) (hg : W.grownBy W' v.ownBlock) (hl : ∀ k, v'.ownBlock = some k → v.ownBlock = some k ∨ k = W.heap.size) : Us n U zs v' gB e W' := by
  refine ⟨ho, h.lo.grown hg h.size (fun k hk => (h.own.blk k hk).1), fun g hgB => ?_, h.sz⟩
  obtain ⟨h1, h2⟩ := h.one g hgB
  refine ⟨(hg.block _ (blk_lt h1) (fun e => h2 e.symm)).trans h1, fun e => ?_⟩
  rcases hl g e with h3 | h3
  · exact h2 h3
  · have := blk_lt h1; omega
theorem Us.rd1 {g : Nat} (h : Us n U es v (some g) e W) : Rd encN 13 W (some ⟨g, 0, none⟩) [e] := by
  refine ⟨by simp, fun k hk => ⟨_, rfl, fun j u hu => ?_⟩⟩
  obtain rfl : k = 0 := by simp at hk; omega
  simp only [List.getElem_cons_zero] at hu
  rw [show 0 * 13 + j = j by omega, add_at, cell_of_row _ _ _ _ _ _ (h.one g rfl).1]
  simpa using hu
end
end Go.Proofs.Ytggidakiflnhhaa
