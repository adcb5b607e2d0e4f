import Derived.Test.YthpcipfloofbcaaN
import Derived.BigRegion
import Derived.Deep.DeepCutAuto
namespace Go.Proofs.Ythpcipfloofbcaa
open Go.RowKit
set_option maxHeartbeats 2000000
set_option maxRecDepth 100000
set_option linter.unusedSimpArgs false
set_option linter.unusedVariables false

theorem lenV (x : Mov) : (encV x).length = 3 := rfl
theorem oneV (x : Mov) : ∀ u ∈ encV x, u.oneCell' = true := fun u hu => by
  simp at hu; rcases hu with rfl | rfl | rfl <;> rfl
theorem info34 : (Try.prog.info? 34).map (fun i => (i.zero, i.size, i.bytes)) = some (some (.agg #[.int .i64 0, .int .i64 0, .int .i64 0]), 3, 24) := by kernel_rfl
theorem rd_mov {w : World} {A : Option Addr} {xs : List Mov} (h : Rd encV 3 w A xs) (k : Nat) (hk : k < xs.length) : ∃ a, A = some a ∧ w.cell? (a.add (k * 3)) = some (.int .i64 xs[k].k) ∧ w.cell? ⟨(a.add (k * 3)).block, (a.add (k * 3)).off + 1, none⟩ = some (.int .i64 xs[k].a) ∧ w.cell? ⟨(a.add (k * 3)).block, (a.add (k * 3)).off + 2, none⟩ = some (.int .i64 xs[k].b) := by
  obtain ⟨a, ha, hc⟩ := h.cell k hk
  exact ⟨a, ha, hc 0 _ rfl, by rw [← add_field _ _ 1 (by omega)]; exact hc 1 _ rfl, by rw [← add_field _ _ 2 (by omega)]; exact hc 2 _ rfl⟩
theorem rd_litV (w : World) (m : Mov) (t g : Nat) (hg : g = w.heap.size) : Rd encV 3 (w.alloc (.cells #[.int .i64 m.k, .int .i64 m.a, .int .i64 m.b] t)) (some ⟨g, 0, none⟩) [m] := by
  subst hg
  refine ⟨by simp, fun k hk => ⟨_, rfl, fun j v hv => ?_⟩⟩
  obtain rfl : k = 0 := by simp at hk; omega
  match j, hv with
  | 0, hv => cases hv; simp [Addr.add]
  | 1, hv => cases hv; simp [Addr.add]
  | 2, hv => cases hv; simp [Addr.add]
  | (j + 3), hv => simp at hv

theorem own_rest {α : Type} {enc : α → List Value} {sz : Nat} {e : TypeId} {w w' : World} {base : Nat} {v : Value} {xs : List α} (h : Own enc sz e w base v xs) (hb : Below w.heap.size w w') : Own enc sz e w' base v xs :=
  h.grown (row := none) ⟨hb.os, hb.tape, hb.output, hb.size, fun k hk _ => hb.block k hk⟩ (by cases v.ownBlock <;> simp)

theorem moves_calls (A : Option Addr) (xs : List Mov) (c : Nat) (w : World) (hx : Rd encV 3 w A xs) (hb : xs.length ≤ 1000000) :
    Calls Try.prog 14 #[.slice A xs.length c] w (ClonePost encV 3 34 xs w) := by
  have hl := hx.small
  have HX := Lib.hid hx
  clear hx
  go_enter Try.func14, Try.ntmps14
  go_wp2
  go_loopg [3, 4, 5, 6, 7, 8, 9, 10, 11, 12, 13, 14, 15, 16, 17, 18, 19, 20, 21, 22, 23, 24, 25, 26, 27, 28, 29] (xs.length) (fun g v3 v4 v5 v6 v7 v8 v9 v10 v11 v12 v13 v14 v15 v16 v17 v18 v19 v20 v21 v22 v23 v24 v25 v26 v27 v28 v29 wr => ∃ k : Nat, k + g = xs.length ∧ v4 = .int .i64 k ∧ (∃ S c, v3 = .slice S k c ∧ Own encV 3 34 wr w.heap.size (.slice S k c) (xs.take k)) ∧ Below w.heap.size w wr)
  case atStart => exact ⟨0, by omega, rfl, ⟨none, 0, rfl, World.ownsRow_nil _ _ _ _⟩, Below.refl _ _⟩
  case round =>
    obtain ⟨k, hk, rfl, ⟨S, c1, rfl, ho⟩, hbl⟩ := hrel
    by_cases hlt : k < xs.length
    · have hb1 : decide (k < xs.length) = true := decide_eq_true hlt
      obtain ⟨a, rfl, hc0, hc1, hc2⟩ := rd_mov (HX.out.below hbl) k hlt
      obtain ⟨m, hm⟩ : ∃ m, xs[k] = m := ⟨_, rfl⟩
      rw [hm] at hc0 hc1 hc2
      have hst : xs.take (k + 1) = xs.take k ++ [m] := by rw [List.take_succ_eq_append_getElem hlt, hm]
      obtain ⟨W, hW⟩ : ∃ W, (wr.alloc (.cells #[.int .i64 m.k, .int .i64 m.a, .int .i64 m.b] 34)).drew = W := ⟨_, rfl⟩
      have hWb : Below wr.heap.size wr W := by rw [← hW]; exact ((Below.refl _ _).alloc (Nat.le_refl _) _).drew
      have hrd : Rd encV 3 W (some ⟨wr.heap.size, 0, none⟩) [m] := by rw [← hW]; exact (rd_litV _ _ _ _ (by simp)).drew
      have hown : Own encV 3 34 W w.heap.size (.slice S k c1) (xs.take k) := own_rest ho hWb
      have hlen : (xs.take k).length = k := by simp; omega
      have HY := Lib.hid (And.intro hrd (And.intro hown (And.intro (Nat.le_trans hbl.size hWb.size) (And.intro (show ((xs.take k).length + 1) * 24 ≤ 140737488355328 by omega) (And.intro hlen (And.intro hst (And.intro (hbl.trans (hWb.mono hbl.size)) hW)))))))
      clear hm hst hWb hrd hown hW ho hbl
      go_upto_region 5 with fail
      go_region_law (rw [HY.out.2.2.2.2.2.2.2]; refine step_append_typed lenV oneV rfl (.tmp 11) (.tmp 28) 35 rfl w.heap.size 34 (.agg #[.int .i64 0, .int .i64 0, .int .i64 0]) 24 Try.underlying35 info34 rfl (by decide) (by decide) (.slice S k c1) (xs.take k) (by simp [Act.eval, Act.put]) HY.out.2.1 ⟨wr.heap.size, 0, none⟩ 1 1 [m] (by simp [Act.eval, Act.put]) rfl (by decide) HY.out.1 HY.out.2.2.2.1 HY.out.2.2.1 ?_; rw [HY.out.2.2.2.2.1, ← HY.out.2.2.2.2.2.1]; intro g2 cap2 w1 hown1 hg1; have HO := Lib.hid (And.intro hown1 hg1); clear hown1 hg1)
      all_goals go_wp2_with fail
      all_goals go_roundg (gk - 1)
      all_goals first | omega | exact ⟨k + 1, by omega, by go_num, ⟨_, _, rfl, HO.out.1⟩, HY.out.2.2.2.2.2.2.1.grown HO.out.2 HY.out.2.2.1 (fun k hk => (HY.out.2.1.blk k hk).1)⟩
    · have hb1 : decide (k < xs.length) = false := decide_eq_false hlt
      have hkl : k = xs.length := by omega
      subst hkl
      go_wp2_with fail
      go_ret
      rw [List.take_length] at ho
      exact ⟨_, rfl, ho, hbl⟩
end Go.Proofs.Ythpcipfloofbcaa
