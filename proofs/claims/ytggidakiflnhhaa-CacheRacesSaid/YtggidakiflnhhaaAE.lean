import Derived.Test.YtggidakiflnhhaaAD
import Derived.Test.YtggidakiflnhhaaS
namespace Go.Proofs.Ytggidakiflnhhaa
open Go.RowKit
set_option maxHeartbeats 16000000
set_option maxRecDepth 100000
set_option linter.unusedSimpArgs false
set_option linter.unusedVariables false

/-! ### the run without caches -/
def drS (D : List Int × List Int) (o : Op) : List Int × List Int := if o.k = 1 then (D.1, D.2 ++ [D.1.getD o.p.toNat 0]) else if o.k = 2 then (D.1.set o.p.toNat o.v, D.2) else D
def drF (c : Cf) (l : List Op) (i : Nat) : List Int × List Int := (l.take i).foldl drS (List.replicate c.W.toNat 0, [])
theorem drF_succ (c : Cf) (l : List Op) (i : Nat) (hi : i < l.length) : drF c l (i + 1) = drS (drF c l i) l[i] := by
  unfold drF
  rw [List.take_add_one, List.getElem?_eq_getElem hi, List.foldl_append]
  rfl
theorem drF_len (c : Cf) (l : List Op) (i : Nat) (hi : i ≤ l.length) : (drF c l i).1.length = c.W.toNat ∧ (drF c l i).2.length ≤ i := by
  induction i with
  | zero => exact ⟨by simp [drF], by simp [drF]⟩
  | succ i ih =>
    have := ih (by omega)
    rw [drF_succ c l i (by omega)]
    unfold drS
    split
    · exact ⟨this.1, by simp; omega⟩
    · split
      · exact ⟨by simp; exact this.1, by show (drF c l i).2.length ≤ _; omega⟩
      · exact ⟨this.1, by omega⟩
def DiPost (c : Cf) (l : List Op) (w : World) (e : Ending) (w' : World) : Prop :=
  if chkF c l = 0 then ∃ V cV M, e = .returned (.tuple #[.slice V (drF c l l.length).2.length cV, .slice (some M) (drF c l l.length).1.length (drF c l l.length).1.length, .int .i64 0]) ∧ Rd encI 1 w' V (drF c l l.length).2 ∧ Rd encI 1 w' (some M) (drF c l l.length).1 ∧ Below w.heap.size w w'
  else e = .returned (.tuple #[.slice none 0 0, .slice none 0 0, .int .i64 (chkF c l)]) ∧ Below w.heap.size w w'
/-- memory and values in a loop of Direct -/
structure DiAt (base bm : Nat) (v : Value) (D : List Int × List Int) (w : World) : Prop where
  val : Own encI 1 3 w base v D.2
  mem : w.heap[bm]? = some (.cells (D.1.map (Value.int .i64)).toArray 3 (0, 0))
  ne : v.ownBlock ≠ some bm
  bm_ : base ≤ bm
  bw : base ≤ w.heap.size
theorem DiAt.rest {base bm : Nat} {v : Value} {D : List Int × List Int} {w w' : World} (h : DiAt base bm v D w) (hb : Below w.heap.size w w') : DiAt base bm v D w' :=
  ⟨h.val.rest hb, (hb.block _ (blk_lt h.mem)).trans h.mem, h.ne, h.bm_, Nat.le_trans h.bw hb.size⟩
theorem DiAt.word {base bm : Nat} {v : Value} {D : List Int × List Int} {w : World} (h : DiAt base bm v D w) (p : Nat) (hp : p < D.1.length) : w.cell? ⟨bm, p, none⟩ = some (.int .i64 (D.1.getD p 0)) ∧ w.frozen? ⟨bm, p, none⟩ = false := by
  refine ⟨?_, frozen_of_row _ _ _ _ _ h.mem⟩
  rw [cell_of_row _ _ _ _ _ _ h.mem, getD_in _ _ hp]
  simp [hp]
theorem DiAt.set {base bm : Nat} {v : Value} {D : List Int × List Int} {w : World} (h : DiAt base bm v D w) (p : Nat) (x : Int) : DiAt base bm v (D.1.set p x, D.2) (w.setCell ⟨bm, p, none⟩ (.int .i64 x)) := by
  refine ⟨h.val.grown (grownBy_set w bm p _) (Or.inr h.ne), ?_, h.ne, h.bm_, Nat.le_trans h.bw (grownBy_set w bm p _).size⟩
  rw [heap_setCell_same w bm p _ 3 _ h.mem]
  simp [List.map_set]
theorem DiAt.tell {base bm : Nat} {v v' : Value} {D : List Int × List Int} {w w' : World} {x : Int} (h : DiAt base bm v D w) (ho : Own encI 1 3 w' base v' (D.2 ++ [x])) (hg : w.grownBy w' v.ownBlock) (hb : ∀ k, v'.ownBlock = some k → v.ownBlock = some k ∨ k = w.heap.size) : DiAt base bm v' (D.1, D.2 ++ [x]) w' := by
  have hm := blk_lt h.mem
  refine ⟨ho, (hg.block _ hm h.ne.symm).trans h.mem, fun e => ?_, h.bm_, Nat.le_trans h.bw hg.size⟩
  rcases hb bm e with h1 | h1
  · exact h.ne h1
  · omega
theorem DiAt.rd {base bm : Nat} {v : Value} {D : List Int × List Int} {w : World} (h : DiAt base bm v D w) (hm : D.1.length ≤ 1000) : Rd encI 1 w (some ⟨bm, 0, none⟩) D.1 := by
  refine ⟨by omega, fun k hk => ⟨_, rfl, fun j u hu => ?_⟩⟩
  have hj : j = 0 := by
    cases j with
    | zero => rfl
    | succ j => simp at hu
  subst hj
  have := (h.word k hk).1
  rw [getD_in _ _ hk] at this
  simp at hu
  subst hu
  rw [Nat.mul_one, Nat.add_zero, add_at]
  exact this
end Go.Proofs.Ytggidakiflnhhaa
