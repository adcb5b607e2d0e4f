import Derived.Test.YthpcipfloofbcaaBF
import Derived.BigRegion
import Derived.Deep.DeepCutAuto
namespace Go.Proofs.Ythpcipfloofbcaa
open Go.RowKit
set_option maxHeartbeats 8000000
set_option maxRecDepth 100000
set_option linter.unusedSimpArgs false
set_option linter.unusedVariables false

theorem rstep_results (tmps : Array Value) (X : World) (bo : Nat) (r : St) (Mv Fv : Value) (k : Int) (h4 : tmps[4]?.getD undef = .pointer (some ⟨bo, 0, none⟩)) (h5 : tmps[5]?.getD undef = .int .i64 k)
    (hb : X.heap[bo]? = some (.cells (cellsS r Mv Fv) 44 (0, 0))) :
    (results Try.f24 tmps).run Try.prog X = .ok (.tuple #[.agg (cellsS r Mv Fv), .int .i64 k]) X := by
  obtain ⟨z0, z1, z2, z3, z4, z5, z6, z7, z8⟩ := nineT hb
  simp [results, Try.results24, go_sem, h4, h5, z0, z1, z2, z3, z4, z5, z6, z7, z8]

/-- the boxes of the reference's Step: its own copy of the state, the move, the result -/
structure MI (w : World) (m : Mov) (s : St) (g c : Nat) (Fv : Value) (W : World) : Prop where
  lo : Below w.heap.size w W
  sz : w.heap.size + 3 ≤ W.heap.size
  r0 : W.heap[w.heap.size]? = some (.cells (cellsS s (.slice (some ⟨g, 0, none⟩) s.ms.length c) Fv) 44 (0, 0))
  r1 : W.heap[w.heap.size + 1]? = some (.cells #[.int .i64 m.k, .int .i64 m.a, .int .i64 m.b] 55 (0, 0))
  r2 : W.heap[w.heap.size + 2]? = some (.cells (cellsS St.zero (.slice none 0 0) (.slice none 0 0)) 44 (0, 0))
  om : Own encM 3 79 W (w.heap.size + 3) (.slice (some ⟨g, 0, none⟩) s.ms.length c) s.ms
  of : Own encI 1 3 W (w.heap.size + 3) Fv s.fl
theorem MI.grown {w W W' : World} {m : Mov} {s : St} {g c : Nat} {Fv : Value} (h : MI w m s g c Fv W) {row : Option Nat} (hg : W.grownBy W' row) (h1 : ∀ k, row = some k → w.heap.size + 3 ≤ k ∧ k ≠ g ∧ Fv.ownBlock ≠ some k) : MI w m s g c Fv W' := by
  have hsz := h.sz
  refine ⟨h.lo.grown hg (by omega) (fun k hk => by have := h1 k hk; omega), by have := hg.size; omega, (hg.block _ (by omega) (fun e => by have := h1 _ e.symm; omega)).trans h.r0, (hg.block _ (by omega) (fun e => by have := h1 _ e.symm; omega)).trans h.r1, (hg.block _ (by omega) (fun e => by have := h1 _ e.symm; omega)).trans h.r2, h.om.grown hg (.inr fun e => (h1 g (by rw [← e]; rfl)).2.1 rfl), h.of.grown hg ?_⟩
  cases hr : row with
  | none => cases hv : Fv.ownBlock with
    | none => exact .inl rfl
    | some k => right; simp
  | some k => right; exact (h1 k hr).2.2
theorem MI.below {w W W' : World} {m : Mov} {s : St} {g c : Nat} {Fv : Value} (h : MI w m s g c Fv W) (hb : Below W.heap.size W W') : MI w m s g c Fv W' :=
  h.grown (row := none) ⟨hb.os, hb.tape, hb.output, hb.size, fun k hk _ => hb.block k hk⟩ (fun k hk => by cases hk)
theorem MI.ne {w W : World} {m : Mov} {s : St} {g c : Nat} {Fv : Value} (h : MI w m s g c Fv W) : w.heap.size + 3 ≤ g ∧ Fv.ownBlock ≠ some g := by
  refine ⟨(h.om.blk g rfl).1, fun e => ?_⟩
  obtain ⟨_, _, cur, hc⟩ := h.om.blk g rfl
  obtain ⟨_, _, cur2, hc2⟩ := h.of.blk g e
  rw [hc] at hc2; simp at hc2
theorem MI.setM {w W : World} {m : Mov} {s : St} {g c : Nat} {Fv : Value} (h : MI w m s g c Fv W) (i : Nat) (hi : i < s.ms.length) (j : Nat) (hj : j < 3) (v : Value) (y : Mem) (hy : (encM s.ms[i]).set j v = encM y) :
    MI w m { s with ms := s.ms.set i y } g c Fv (W.setCell ⟨g, i * 3 + j, none⟩ v) := by
  obtain ⟨h1, h2⟩ := h.om.set lenM rfl i hi j hj v y hy
  obtain ⟨n1, n2⟩ := h.ne
  have hsz := h.sz
  refine ⟨h.lo.grown h2 (by omega) (fun k hk => by cases hk; omega), by have := h2.size; omega, ?_, (h2.block _ (by omega) (fun e => by cases e; omega)).trans h.r1, (h2.block _ (by omega) (fun e => by cases e; omega)).trans h.r2, by simp only [List.length_set]; exact h1, h.of.grown h2 (.inr n2)⟩
  rw [h2.block _ (by omega) (fun e => by cases e; omega), h.r0]
  simp [cellsS]
theorem MI.setF {w W w1 : World} {m : Mov} {s : St} {g c : Nat} {Fv Fv' : Value} {fl' : List Int} (h : MI w m s g c Fv W) (hg : W.grownBy w1 Fv.ownBlock) (ho : Own encI 1 3 w1 (w.heap.size + 3) Fv' fl') :
    MI w m { s with fl := fl' } g c Fv' (w1.setCell ⟨w.heap.size, 1, none⟩ Fv') := by
  obtain ⟨n1, n2⟩ := h.ne
  have hsz := h.sz
  have hof : ∀ k, Fv.ownBlock = some k → w.heap.size + 3 ≤ k := fun k hk => (h.of.blk k hk).1
  have hof' : ∀ k, Fv'.ownBlock = some k → w.heap.size + 3 ≤ k := fun k hk => (ho.blk k hk).1
  have g1 : w1.grownBy (w1.setCell ⟨w.heap.size, 1, none⟩ Fv') (some w.heap.size) := ⟨rfl, rfl, rfl, by simp, fun i _ hi => heap_setCell_other w1 ⟨w.heap.size, 1, none⟩ i _ (fun e => hi (by simp [e]))⟩
  have hs1 := hg.size
  have r0 := (hg.block w.heap.size (by omega) (fun e => by have := hof _ e.symm; omega)).trans h.r0
  refine ⟨(h.lo.grown hg (by omega) (fun k hk => by have := hof k hk; omega)).grown g1 (by omega) (fun k hk => by cases hk; omega), by have := g1.size; omega, ?_, ?_, ?_, (h.om.grown hg (.inr fun e => n2 e.symm)).grown g1 (.inr fun e => by simp [Value.ownBlock] at e; omega), ho.grown g1 ?_⟩
  · rw [heap_setCell_same w1 w.heap.size 1 _ _ _ r0]; simp [cellsS]
  · rw [g1.block _ (by omega) (by simp), hg.block _ (by omega) (fun e => by have := hof _ e.symm; omega)]; exact h.r1
  · rw [g1.block _ (by omega) (by simp), hg.block _ (by omega) (fun e => by have := hof _ e.symm; omega)]; exact h.r2
  · cases hv : Fv'.ownBlock with
    | none => exact .inl rfl
    | some k => right; intro e; cases e; have := hof' _ hv; omega

theorem rstep_done {w Y Z : World} {m : Mov} {s : St} {g c : Nat} {FA : Option Addr} {Fc : Nat} (h : MI w m s g c (.slice FA s.fl.length Fc) Y) (hZ : fill9 Y (w.heap.size + 2) s (some ⟨g, 0, none⟩) c FA Fc = Z) :
    Z.heap[w.heap.size + 2]? = some (.cells (cellsS s (.slice (some ⟨g, 0, none⟩) s.ms.length c) (.slice FA s.fl.length Fc)) 44 (0, 0)) ∧ SPost w (s, 0) (.returned (.tuple #[s.v (some ⟨g, 0, none⟩) c FA Fc, .int .i64 0])) Z := by
  unfold fill9 at hZ
  have q0 := filledT (s0 := St.zero) (M0 := .slice none 0 0) (F0 := .slice none 0 0) (.slice (some ⟨g, 0, none⟩) s.ms.length c) (.slice FA s.fl.length Fc) (.int .i64 s.wn) (.int .i64 s.ws) (.int .i64 s.wr) (.int .i64 s.ls) (.int .i64 s.lr) (.int .i64 s.wv) (.bool s.told) h.r2
  have q2 := filled_other (w := Y) (bo := w.heap.size + 2) (.slice (some ⟨g, 0, none⟩) s.ms.length c) (.slice FA s.fl.length Fc) (.int .i64 s.wn) (.int .i64 s.ws) (.int .i64 s.wr) (.int .i64 s.ls) (.int .i64 s.lr) (.int .i64 s.wv) (.bool s.told)
  have q3 := filled_below w.heap.size Y (w.heap.size + 2) (by omega) (.slice (some ⟨g, 0, none⟩) s.ms.length c) (.slice FA s.fl.length Fc) (.int .i64 s.wn) (.int .i64 s.ws) (.int .i64 s.wr) (.int .i64 s.ls) (.int .i64 s.lr) (.int .i64 s.wv) (.bool s.told)
  rw [hZ] at q0 q2 q3
  obtain ⟨A1, c1, hv1, hr1⟩ := h.om.rd lenM
  obtain ⟨A2, c2, hv2, hr2⟩ := h.of.rd lenI
  obtain ⟨rfl, _, _⟩ := Value.slice.inj hv1
  obtain ⟨rfl, _, _⟩ := Value.slice.inj hv2
  have hg := h.ne.1
  have hfb : ∀ a, FA = some a → w.heap.size + 3 ≤ a.block := fun a ha => by subst ha; exact (h.of.blk a.block rfl).1
  exact ⟨q0, some ⟨g, 0, none⟩, c, FA, Fc, rfl, ⟨hr1.keep (fun a ha => by cases ha; exact q2 _ (by show g ≠ _; omega)), hr2.keep (fun a ha => q2 _ (by have := hfb a ha; omega))⟩, h.lo.trans q3.1, fun a ha => by cases ha; show w.heap.size ≤ g; omega, fun a ha => by have := hfb a ha; omega⟩
theorem rstep_fail {w Y Z : World} (hlo : Below w.heap.size w Y) (hr : Y.heap[w.heap.size + 2]? = some (.cells (cellsS St.zero (.slice none 0 0) (.slice none 0 0)) 44 (0, 0))) (k : Int)
    (hZ : fill9 Y (w.heap.size + 2) St.zero none 0 none 0 = Z) :
    Z.heap[w.heap.size + 2]? = some (.cells (cellsS St.zero (.slice none 0 0) (.slice none 0 0)) 44 (0, 0)) ∧ SPost w (St.zero, k) (.returned (.tuple #[St.zero.v none 0 none 0, .int .i64 k])) Z := by
  unfold fill9 at hZ
  have q0 := filledT (s0 := St.zero) (M0 := .slice none 0 0) (F0 := .slice none 0 0) (.slice none 0 0) (.slice none 0 0) (.int .i64 0) (.int .i64 0) (.int .i64 0) (.int .i64 0) (.int .i64 0) (.int .i64 0) (.bool false) hr
  have q3 := filled_below w.heap.size Y (w.heap.size + 2) (by omega) (.slice none 0 0) (.slice none 0 0) (.int .i64 0) (.int .i64 0) (.int .i64 0) (.int .i64 0) (.int .i64 0) (.int .i64 0) (.bool false)
  have hZ' : (((((((((Y.setCell ⟨w.heap.size + 2, 0, none⟩ (.slice none 0 0)).setCell ⟨w.heap.size + 2, 1, none⟩ (.slice none 0 0)).setCell ⟨w.heap.size + 2, 2, none⟩ (.int .i64 0)).setCell ⟨w.heap.size + 2, 3, none⟩ (.int .i64 0)).setCell ⟨w.heap.size + 2, 4, none⟩ (.int .i64 0)).setCell ⟨w.heap.size + 2, 5, none⟩ (.int .i64 0)).setCell ⟨w.heap.size + 2, 6, none⟩ (.int .i64 0)).setCell ⟨w.heap.size + 2, 7, none⟩ (.int .i64 0)).setCell ⟨w.heap.size + 2, 8, none⟩ (.bool false)) = Z := hZ
  rw [hZ'] at q0 q3
  exact ⟨q0, none, 0, none, 0, rfl, RdS.zero _, hlo.trans q3.1, Fresh.none _, Fresh.none _⟩
end Go.Proofs.Ythpcipfloofbcaa
