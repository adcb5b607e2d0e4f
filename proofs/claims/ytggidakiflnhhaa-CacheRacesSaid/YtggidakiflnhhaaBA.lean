import Derived.Test.YtggidakiflnhhaaAZ
namespace Go.Proofs.Ytggidakiflnhhaa
open Go.RowKit
set_option maxHeartbeats 8000000
set_option maxRecDepth 100000
set_option linter.unusedSimpArgs false
set_option linter.unusedVariables false

/-! ### the follower in memory -/
abbrev acC (f : Nat → Int) : Array Value := #[.int .i64 (f 0), .int .i64 (f 1), .int .i64 (f 2), .int .i64 (f 3), .int .i64 (f 4), .int .i64 (f 5), .int .i64 (f 6), .int .i64 (f 7)]
abbrev foC (ca cb : Value) (f : Nat → Int) : Array Value := #[ca, cb, .int .i64 (f 0), .int .i64 (f 1), .int .i64 (f 2), .int .i64 (f 3), .int .i64 (f 4), .int .i64 (f 5), .int .i64 (f 6), .int .i64 (f 7)]
/-- what P names is kept -/
structure Ke (P : Nat → Prop) (w w' : World) : Prop where
  os : w'.os = w.os
  tape : w'.tape = w.tape
  output : w'.output = w.output
  size : w.heap.size ≤ w'.heap.size
  block : ∀ k, k < w.heap.size → P k → w'.heap[k]? = w.heap[k]?
/-- the follower: its struct at block bf with the slices ca and cb in it; the rows va and vb -/
structure Fw (P : Nat → Prop) (bf base : Nat) (ca cb va vb : Value) (xs : List Op) (ys : List Int) (f : Nat → Int) (w : World) : Prop where
  top : w.heap[bf]? = some (.cells (foC ca cb f) 96 (0, 0))
  tr : Own encP 4 38 w base va xs
  re : Own encI 1 3 w base vb ys
  bf_ : base ≤ bf
  bw : base ≤ w.heap.size
  pf : ¬ P bf
  pa : ∀ k, va.ownBlock = some k → ¬ P k
  pb : ∀ k, vb.ownBlock = some k → ¬ P k
section
variable {P Q : Nat → Prop} {bf base : Nat} {ca cb va vb : Value} {xs : List Op} {ys : List Int} {f : Nat → Int} {a w w' : World}
theorem Ke.refl (w : World) : Ke P w w := ⟨rfl, rfl, rfl, Nat.le_refl _, fun _ _ _ => rfl⟩
theorem Ke.trans (h : Ke P a w) (k : Ke P w w') : Ke P a w' :=
  ⟨k.os.trans h.os, k.tape.trans h.tape, k.output.trans h.output, Nat.le_trans h.size k.size, fun i hi h1 => (k.block i (Nat.lt_of_lt_of_le hi h.size) h1).trans (h.block i hi h1)⟩
theorem Ke.of (h : Below w.heap.size w w') : Ke P w w' := ⟨h.os, h.tape, h.output, h.size, fun k hk _ => h.block k hk⟩
theorem Ke.mono (h : Ke P w w') (hP : ∀ k, Q k → P k) : Ke Q w w' := ⟨h.os, h.tape, h.output, h.size, fun k hk hq => h.block k hk (hP k hq)⟩
theorem Ke.grown {row : Option Nat} (hg : w.grownBy w' row) (hr : ∀ k, row = some k → ¬ P k) : Ke P w w' := ⟨hg.os, hg.tape, hg.output, hg.size, fun k hk hp => hg.block k hk (fun e => hr k e.symm hp)⟩
theorem Ke.low (h : Ke P w w') {n : Nat} (hn : n ≤ w.heap.size) (hP : ∀ k, k < n → P k) : Below n w w' := ⟨h.os, h.tape, h.output, h.size, fun k hk => h.block k (by omega) (hP k hk)⟩
theorem Ke.drew (w : World) : Ke P w w.drew := ⟨rfl, rfl, rfl, Nat.le_refl _, fun _ _ _ => rfl⟩
theorem Ke.drewN (w : World) (n : Nat) : Ke P w (w.drewN n) := Ke.of (drewN_below (Below.refl _ _) _)
theorem own_ty {α : Type} {enc : α → List Value} {sz : Nat} {t t' : TypeId} {v : Value} {zs : List α} (h : Own enc sz t w base v zs) {b : Nat} {cs : Array Value} (hb : w.heap[b]? = some (.cells cs t' (0, 0))) (ht : t ≠ t') : v.ownBlock ≠ some b := fun e => by
  obtain ⟨_, _, cur, hc⟩ := h.blk b e
  rw [hb] at hc
  simp at hc
  exact ht hc.2.symm
theorem own_ne {α β : Type} {enc : α → List Value} {enc' : β → List Value} {sz sz' : Nat} {t t' : TypeId} {u v : Value} {zs : List α} {ws : List β} (h : Own enc sz t w base v zs) (h' : Own enc' sz' t' w base u ws) (ht : t ≠ t') : v.ownBlock = none ∨ v.ownBlock ≠ u.ownBlock := by
  cases hv : v.ownBlock with
  | none => exact Or.inl rfl
  | some b =>
    right
    intro e
    obtain ⟨_, _, cur, hc⟩ := h.blk b hv
    obtain ⟨_, _, cur', hc'⟩ := h'.blk b e.symm
    rw [hc] at hc'
    simp at hc'
    exact ht hc'.2
theorem Fw.keep (h : Fw P bf base ca cb va vb xs ys f w) {X : Option Nat} (hg : w.grownBy w' X) (h1 : X ≠ some bf) (h2 : va.ownBlock = none ∨ va.ownBlock ≠ X) (h3 : vb.ownBlock = none ∨ vb.ownBlock ≠ X) : Fw P bf base ca cb va vb xs ys f w' :=
  ⟨(hg.block _ (blk_lt h.top) (fun e => h1 e.symm)).trans h.top, h.tr.grown hg h2, h.re.grown hg h3, h.bf_, Nat.le_trans h.bw hg.size, h.pf, h.pa, h.pb⟩
theorem Fw.rest (h : Fw P bf base ca cb va vb xs ys f w) (hb : Below w.heap.size w w') : Fw P bf base ca cb va vb xs ys f w' :=
  h.keep (below_grownBy hb none) (by simp) (by cases va.ownBlock <;> simp) (by cases vb.ownBlock <;> simp)
/-- a block beside the follower turns -/
theorem Fw.beside (h : Fw P bf base ca cb va vb xs ys f w) {b : Nat} (hp : P b) (hg : w.grownBy w' (some b)) : Fw P bf base ca cb va vb xs ys f w' :=
  h.keep hg (fun e => h.pf (by obtain rfl := Option.some.inj e; exact hp)) (Or.inr (fun e => h.pa b e hp)) (Or.inr (fun e => h.pb b e hp))
theorem Fw.imp (h : Fw P bf base ca cb va vb xs ys f w) (hQ : ∀ k, Q k → P k ∨ w.heap.size ≤ k) : Fw Q bf base ca cb va vb xs ys f w := by
  refine ⟨h.top, h.tr, h.re, h.bf_, h.bw, fun q => ?_, fun k e q => ?_, fun k e q => ?_⟩
  · rcases hQ _ q with p | p
    · exact h.pf p
    · have := blk_lt h.top; omega
  · rcases hQ _ q with p | p
    · exact h.pa k e p
    · have := (h.tr.blk k e).2.1; omega
  · rcases hQ _ q with p | p
    · exact h.pb k e p
    · have := (h.re.blk k e).2.1; omega
theorem Fw.at (h : Fw P bf base ca cb va vb xs ys f w) (k : Nat) (v : Value) (hv : (foC ca cb f)[k]? = some v) : w.cell? ⟨bf, k, none⟩ = some v ∧ w.frozen? ⟨bf, k, none⟩ = false :=
  ⟨by rw [cell_of_row _ _ _ _ _ _ h.top, hv], frozen_of_row _ _ _ _ _ h.top⟩
/-- a cell of the struct turns -/
theorem Fw.setTop (h : Fw P bf base ca cb va vb xs ys f w) (k : Nat) (v ca' cb' : Value) (f' : Nat → Int) (he : (foC ca cb f).setIfInBounds k v = foC ca' cb' f') : Fw P bf base ca' cb' va vb xs ys f' (w.setCell ⟨bf, k, none⟩ v) ∧ w.grownBy (w.setCell ⟨bf, k, none⟩ v) (some bf) := by
  have hg := grownBy_set w bf k v
  refine ⟨⟨?_, h.tr.grown hg (Or.inr (own_ty h.tr h.top (by decide))), h.re.grown hg (Or.inr (own_ty h.re h.top (by decide))), h.bf_, Nat.le_trans h.bw hg.size, h.pf, h.pa, h.pb⟩, hg⟩
  rw [heap_setCell_same w bf k _ 96 _ h.top, he]
/-- the trace's row turns -/
theorem Fw.trNew (h : Fw P bf base ca cb va vb xs ys f w) {g n cp : Nat} {xs' : List Op} (ho : Own encP 4 38 w' base (.slice (some ⟨g, 0, none⟩) n cp) xs') (hg : w.grownBy w' va.ownBlock) (hl : va.ownBlock = some g ∨ w.heap.size ≤ g) (hP : ∀ k, P k → k < w.heap.size) : Fw P bf base ca cb (.slice (some ⟨g, 0, none⟩) n cp) vb xs' ys f w' ∧ Ke P w w' := by
  refine ⟨⟨(hg.block _ (blk_lt h.top) (fun e => own_ty h.tr h.top (by decide) e.symm)).trans h.top, ho, h.re.grown hg ?_, h.bf_, Nat.le_trans h.bw hg.size, h.pf, fun k e p => ?_, h.pb⟩, Ke.grown hg (fun k e => h.pa k e)⟩
  · exact own_ne h.re h.tr (by decide)
  · simp [Value.ownBlock] at e
    subst e
    rcases hl with hl | hl
    · exact h.pa _ hl p
    · have := hP _ p; omega
/-- the releases' row turns -/
theorem Fw.reNew (h : Fw P bf base ca cb va vb xs ys f w) {g n cp : Nat} {ys' : List Int} (ho : Own encI 1 3 w' base (.slice (some ⟨g, 0, none⟩) n cp) ys') (hg : w.grownBy w' vb.ownBlock) (hl : vb.ownBlock = some g ∨ w.heap.size ≤ g) (hP : ∀ k, P k → k < w.heap.size) : Fw P bf base ca cb va (.slice (some ⟨g, 0, none⟩) n cp) xs ys' f w' ∧ Ke P w w' := by
  refine ⟨⟨(hg.block _ (blk_lt h.top) (fun e => own_ty h.re h.top (by decide) e.symm)).trans h.top, h.tr.grown hg ?_, ho, h.bf_, Nat.le_trans h.bw hg.size, h.pf, h.pa, fun k e p => ?_⟩, Ke.grown hg (fun k e => h.pb k e)⟩
  · exact own_ne h.tr h.re (by decide)
  · simp [Value.ownBlock] at e
    subst e
    rcases hl with hl | hl
    · exact h.pb _ hl p
    · have := hP _ p; omega
end
/-- a follower, its slices left open -/
def Fol (P : Nat → Prop) (bf base : Nat) (s : Fo) (w : World) : Prop := ∃ va vb, Fw P bf base va vb va vb s.tr s.re s.ac w
end Go.Proofs.Ytggidakiflnhhaa
