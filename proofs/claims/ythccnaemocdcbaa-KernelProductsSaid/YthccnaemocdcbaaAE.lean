import Derived.Test.YthccnaemocdcbaaAD
import Derived.BigRegion
namespace Go.Proofs.Ythccnaemocdcbaa
open Go.RowKit Go.Maps Go.WideMaps
set_option maxHeartbeats 4000000
set_option maxRecDepth 100000
set_option linter.unusedSimpArgs false
set_option linter.unusedVariables false

/-! ### the reference's Product -/
theorem rpart_same (n i p : Nat) (hn : n ≤ 1024) (hi : i < n) (hp : 1 ≤ p) (hp16 : p ≤ 16) (w : World) :
    Calls Try.prog 41 #[.int .i64 i, .int .i64 n, .int .i64 p] w fun e w' => e = .returned (.int .i64 ((ptF n i p : Nat) : Int)) ∧ w = w' := by
  have HI := Lib.hid (And.intro hi (And.intro hp hn))
  have hp0 : (p : Int) ≠ 0 := by omega
  clear hi hp hn
  go_enter Try.func41, Try.ntmps41
  go_wp2_with fail
  go_loopg [7, 8, 9, 10, 11, 12, 13, 14, 15, 16, 17, 18, 19, 20, 21] p (fun gk v7 v8 v9 v10 v11 v12 v13 v14 v15 v16 v17 v18 v19 v20 v21 wr => ∃ k : Nat, k + gk = p ∧ v7 = .int .i64 (k : Int) ∧ (∀ j, j < k → ¬ i < (j + 1) * n / p) ∧ w = wr)
  case atStart => exact ⟨0, by omega, rfl, fun j hj => by omega, rfl⟩
  case round =>
    obtain ⟨k, hk, rfl, hall, rfl⟩ := hrel
    by_cases hkp : k < p
    · have hb1 : decide (k < p) = true := decide_eq_true hkp
      obtain ⟨P, P1, Q, Q1, hQ, hQ1, w1, w2, w3, w4⟩ := part_facts n k p HI.out.2.2 (by omega)
      have HA := Lib.hid hall
      clear hall
      by_cases hto : i < (k + 1) * n / p
      · have HT := Lib.hid hto
        rw [hQ1] at hto
        clear hQ hQ1
        have hd2 : decide ((i : Int) < (Q1 : Int)) = true := decide_eq_true (by omega)
        go_wp2_with fail
        go_ret
        exact ⟨by rw [ptF_at n i p k hkp HT.out HA.out]; rfl, rfl⟩
      · have HT := Lib.hid hto
        rw [hQ1] at hto
        clear hQ hQ1
        have hd2 : decide ((i : Int) < (Q1 : Int)) = false := decide_eq_false (by omega)
        go_wp2_with fail
        go_roundg (gk - 1)
        case measure => omega
        case rel => exact ⟨k + 1, by omega, by go_num, fun j hj => by
          by_cases e : j = k
          · subst e; exact HT.out
          · exact HA.out j (by omega), rfl⟩
    · exact absurd (part_last n i p HI.out.1 HI.out.2.1 (fun j hj => hall j (by omega))) id

theorem rproduct_err4 (rows parts : Int) (h : rows < 0 ∨ 1024 < rows ∨ parts < 1 ∨ 16 < parts) (lm ca : Nat) (lv cv : Nat) (A V : Option Addr) (w : World) :
    Calls Try.prog 17 #[.int .i64 rows, .slice A lm ca, .slice V lv cv, .int .i64 parts] w (ProdPost [] [] 4 w) := by
  by_cases h1 : rows < 0
  · go_enter Try.func17, Try.ntmps17
    go_wp2_with fail
    refine bodyPost_ret (by simp [results, Try.results17, go_sem]; try rfl) rfl ?_
    exact ProdPost.err (Below.refl _ _)
  · by_cases h2 : 1024 < rows
    · go_enter Try.func17, Try.ntmps17
      go_wp2_with fail
      refine bodyPost_ret (by simp [results, Try.results17, go_sem]; try rfl) rfl ?_
      exact ProdPost.err (Below.refl _ _)
    · by_cases h3 : parts < 1
      · go_enter Try.func17, Try.ntmps17
        go_wp2_with fail
        refine bodyPost_ret (by simp [results, Try.results17, go_sem]; try rfl) rfl ?_
        exact ProdPost.err (Below.refl _ _)
      · have h4 : 16 < parts := by omega
        go_enter Try.func17, Try.ntmps17
        go_wp2_with fail
        refine bodyPost_ret (by simp [results, Try.results17, go_sem]; try rfl) rfl ?_
        exact ProdPost.err (Below.refl _ _)
theorem rproduct_err410 (rows parts : Int) (h : 0 ≤ rows ∧ rows ≤ 1024 ∧ 1 ≤ parts ∧ parts ≤ 16) (lm ca : Nat) (lv cv : Nat) (hlv : 1024 < lv) (hl : lv ≤ maxLen) (A V : Option Addr) (w : World) :
    Calls Try.prog 17 #[.int .i64 rows, .slice A lm ca, .slice V lv cv, .int .i64 parts] w (ProdPost [] [] 410 w) := by
  obtain ⟨h1, h2, h3, h4⟩ := h
  unfold maxLen at hl
  go_enter Try.func17, Try.ntmps17
  go_wp2_with fail
  refine bodyPost_ret (by simp [results, Try.results17, go_sem]; try rfl) rfl ?_
  exact ProdPost.err (Below.refl _ _)
theorem rproduct_err5 (rows parts : Int) (h : 0 ≤ rows ∧ rows ≤ 1024 ∧ 1 ≤ parts ∧ parts ≤ 16) (lm ca : Nat) (lv cv : Nat) (hlv : lv ≤ 1024) (hlm : 5000 < lm) (hl : lm ≤ maxLen) (A V : Option Addr) (w : World) :
    Calls Try.prog 17 #[.int .i64 rows, .slice A lm ca, .slice V lv cv, .int .i64 parts] w (ProdPost [] [] 5 w) := by
  obtain ⟨h1, h2, h3, h4⟩ := h
  unfold maxLen at hl
  go_enter Try.func17, Try.ntmps17
  go_wp2_with fail
  refine bodyPost_ret (by simp [results, Try.results17, go_sem]; try rfl) rfl ?_
  exact ProdPost.err (Below.refl _ _)

theorem badV (x : Int) : (!wI 1000000 x) = (decide (x < -1000000) || decide (1000000 < x)) := by
  unfold wI
  by_cases h1 : -1000000 ≤ x <;> by_cases h2 : x ≤ 1000000 <;> simp [h1, h2] <;> omega
/-- two rows of numbers, each of a block of its own -/
structure PQ (w : World) (g1 g2 R P c1 c2 : Nat) (o f : List Int) (wr : World) : Prop where
  o1 : Own encI 1 3 wr w.heap.size (.slice (some ⟨g1, 0, none⟩) R c1) o
  o2 : Own encI 1 3 wr w.heap.size (.slice (some ⟨g2, 0, none⟩) P c2) f
  low : Below w.heap.size w wr
  ne : g1 ≠ g2
  lo : o.length = R
  lf : f.length = P
theorem PQ.rest {w : World} {g1 g2 R P c1 c2 : Nat} {o f : List Int} {wr wx : World} (h : PQ w g1 g2 R P c1 c2 o f wr) (hb : Below wr.heap.size wr wx) : PQ w g1 g2 R P c1 c2 o f wx :=
  ⟨h.o1.rest hb, h.o2.rest hb, h.low.trans (hb.mono h.low.size), h.ne, h.lo, h.lf⟩
theorem PQ.cell1 {w : World} {g1 g2 R P c1 c2 : Nat} {o f : List Int} {wr : World} (h : PQ w g1 g2 R P c1 c2 o f wr) (r : Nat) (hr : r < R) : wr.cell? ⟨g1, r, none⟩ = some (.int .i64 (o.getD r 0)) ∧ wr.frozen? ⟨g1, r, none⟩ = false := by
  have hlen := h.lo
  have q1 := h.o1.cell lenI hlen r (by omega) 0 _ rfl
  rw [getD_in _ _ (by omega)]
  simpa only [Nat.mul_one, Nat.add_zero] using q1
theorem PQ.cell2 {w : World} {g1 g2 R P c1 c2 : Nat} {o f : List Int} {wr : World} (h : PQ w g1 g2 R P c1 c2 o f wr) (r : Nat) (hr : r < P) : wr.cell? ⟨g2, r, none⟩ = some (.int .i64 (f.getD r 0)) ∧ wr.frozen? ⟨g2, r, none⟩ = false := by
  have hlen := h.lf
  have q1 := h.o2.cell lenI hlen r (by omega) 0 _ rfl
  rw [getD_in _ _ (by omega)]
  simpa only [Nat.mul_one, Nat.add_zero] using q1
theorem PQ.set1 {w : World} {g1 g2 R P c1 c2 : Nat} {o f : List Int} {wr : World} (h : PQ w g1 g2 R P c1 c2 o f wr) (r : Nat) (hr : r < R) (x : Int) : PQ w g1 g2 R P c1 c2 (o.set r x) f (wr.setCell ⟨g1, r, none⟩ (.int .i64 x)) ∧ wr.grownBy (wr.setCell ⟨g1, r, none⟩ (.int .i64 x)) (some g1) := by
  have hlen := h.lo
  have hb := h.o1.blk g1 rfl
  have s1 := h.o1.set lenI hlen r (by omega) 0 (by decide) (.int .i64 x) x rfl
  simp only [Nat.mul_one, Nat.add_zero] at s1
  exact ⟨⟨s1.1, h.o2.grown s1.2 (Or.inr (fun e => h.ne (Option.some.inj (show some g2 = some g1 from e)).symm)), h.low.grown s1.2 h.low.size (fun b hb => by cases hb; omega), h.ne, by rw [List.length_set]; exact h.lo, h.lf⟩, s1.2⟩
theorem PQ.set2 {w : World} {g1 g2 R P c1 c2 : Nat} {o f : List Int} {wr : World} (h : PQ w g1 g2 R P c1 c2 o f wr) (r : Nat) (hr : r < P) (x : Int) : PQ w g1 g2 R P c1 c2 o (f.set r x) (wr.setCell ⟨g2, r, none⟩ (.int .i64 x)) := by
  have hlen := h.lf
  have hb := h.o2.blk g2 rfl
  have s1 := h.o2.set lenI hlen r (by omega) 0 (by decide) (.int .i64 x) x rfl
  simp only [Nat.mul_one, Nat.add_zero] at s1
  exact ⟨h.o1.grown s1.2 (Or.inr (fun e => h.ne (Option.some.inj (show some g1 = some g2 from e)))), s1.1, h.low.grown s1.2 h.low.size (fun b hb => by cases hb; omega), h.ne, h.lo, by rw [List.length_set]; exact h.lf⟩
theorem made_twice (R P : Nat) (hR : R ≤ 1024) (hP : P ≤ 1024) (w0 w : World) (hb0 : Below w0.heap.size w0 w) :
    ∃ W1 W2, (Instr.makeSlice 44 (.int .i64 (R : Int)) (.int .i64 (R : Int))).run Try.prog w = .ok (.slice (some ⟨w.heap.size, 0, none⟩) R R) W1 ∧
      (Instr.makeSlice 44 (.int .i64 (P : Int)) (.int .i64 (P : Int))).run Try.prog W1 = .ok (.slice (some ⟨W1.heap.size, 0, none⟩) P P) W2 ∧
      PQ w0 w.heap.size W1.heap.size R P R P (List.replicate R 0) (List.replicate P 0) W2 := by
  obtain ⟨i1, hi1, hz1, hs1, hb1⟩ := info_parts info3
  have hB := hb0.size
  obtain ⟨W1, hmk1, hown1, hg1⟩ := run_makeSlice_full (P := Try.prog) (w := w) w0.heap.size 44 3 i1 _ 1 Try.underlying44 hi1 hz1 hs1 .i64 .i64 R (by omega) (by rw [hb1]; omega) (by simp [maxLen]; omega) hB
  have hBW : w0.heap.size ≤ W1.heap.size := Nat.le_trans hB hg1.size
  obtain ⟨W2, hmk2, hown2, hg2⟩ := run_makeSlice_full (P := Try.prog) (w := W1) w0.heap.size 44 3 i1 _ 1 Try.underlying44 hi1 hz1 hs1 .i64 .i64 P (by omega) (by rw [hb1]; omega) (by simp [maxLen]; omega) hBW
  rw [made_int] at hown1 hown2
  have o1 : Own encI 1 3 W1 w0.heap.size (.slice (some ⟨w.heap.size, 0, none⟩) R R) (List.replicate R 0) := by
    unfold Own; rw [List.length_replicate]; exact hown1
  have o2 : Own encI 1 3 W2 w0.heap.size (.slice (some ⟨W1.heap.size, 0, none⟩) P P) (List.replicate P 0) := by
    unfold Own; rw [List.length_replicate]; exact hown2
  have hsz1 : w.heap.size < W1.heap.size := (o1.blk _ rfl).2.1
  exact ⟨W1, W2, hmk1, hmk2, o1.grown hg2 (Or.inr (by simp [Value.ownBlock])), o2, (hb0.grown hg1 hB (fun b hb => by cases hb)).grown hg2 (Nat.le_trans hB hg1.size) (fun b hb => by cases hb), by omega, by simp, by simp⟩
end Go.Proofs.Ythccnaemocdcbaa
