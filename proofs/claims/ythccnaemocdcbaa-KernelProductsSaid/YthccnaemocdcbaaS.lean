import Derived.Test.YthccnaemocdcbaaR
import Derived.BigQuiet
import Derived.Deep.RegionLaw
namespace Go.Proofs.Ythccnaemocdcbaa
open Go.RowKit
set_option maxHeartbeats 2000000
set_option maxRecDepth 100000
set_option linter.unusedSimpArgs false
set_option linter.unusedVariables false

theorem info78 : (Try.prog.info? 78).map (fun i => (i.zero, i.size, i.bytes)) = some (some (.agg #[.int .i64 0, .int .i64 0, .int .i64 0]), 3, 24) := by kernel_rfl
theorem rd_litN (w : World) (m : En) (t g : Nat) (hg : g = w.heap.size) : Rd encN 3 (w.alloc (.cells #[.int .i64 m.r, .int .i64 m.c, .int .i64 m.v] t)) (some ⟨g, 0, none⟩) [m] := by
  subst hg
  refine ⟨by simp, fun k hk => ⟨_, rfl, fun j v hv => ?_⟩⟩
  obtain rfl : k = 0 := by simp at hk; omega
  match j, hv with
  | 0, hv => cases hv; simp [Addr.add]
  | 1, hv => cases hv; simp [Addr.add]
  | 2, hv => cases hv; simp [Addr.add]
  | (j + 3), hv => simp at hv

theorem Rd.drew {α : Type} {enc : α → List Value} {sz : Nat} {w : World} {A : Option Addr} {xs : List α} (h : Rd enc sz w A xs) : Rd enc sz w.drew A xs := ⟨h.small, h.cell⟩
theorem step_append_typed {α : Type} {P : Program} {enc : α → List Value} {sz : Nat} (hs : ∀ x, (enc x).length = sz) (h1 : ∀ x, ∀ u ∈ enc x, u.oneCell' = true)
    {w : World} {ops : Array Oper} {o : Oper} {a : Act} {K : Act → World → Prop} {Q : Exit → Act → World → Prop} {E : Prop} (hgd : o.guard = none) (s x : Operand) (t : TypeId)
    (ho : o.op = .call { callee := .builtin .append, args := #[s, x], argTypes := #[t, t] })
    (base : Nat) (e : TypeId) (z : Value) (bytes : Nat) (ht : P.underlying t = some (.slice e)) (hinfo : (P.info? e).map (fun i => (i.zero, i.size, i.bytes)) = some (some z, sz, bytes))
    (hzs : z.cells.size = sz) (hsz : 0 < sz) (hb0 : 0 < bytes)
    (v : Value) (xs : List α) (hv : a.eval s = v) (hown : Own enc sz e w base v xs)
    (ad : Addr) (m c : Nat) (ys : List α) (hx : a.eval x = .slice (some ad) m c) (hm : ys.length = m) (hm0 : 0 < m) (hr : Rd enc sz w (some ad) ys)
    (hbytes : (xs.length + m) * bytes ≤ 140737488355328) (hbase : base ≤ w.heap.size)
    (h : ∀ g cap w', Own enc sz e w' base (.slice (some ⟨g, 0, none⟩) (xs.length + m) cap) (xs ++ ys) → w.grownBy w' v.ownBlock → K (a.put o.dst (.slice (some ⟨g, 0, none⟩) (xs.length + m) cap)) w') :
    if Region.wanted o (yielded ops a.tmps) = true then Oper.wp P o a w K Q else E := by
  subst hm
  obtain ⟨i0, hi, hz0, hz1, hz2⟩ := info_parts hinfo
  refine step_append_lies w hgd s x t ho base e i0 z sz bytes ht hi hz0 hz1 hz2 hzs hsz v xs.length (xs.flatMap enc) hv hown ad ys.length c (ys.flatMap enc) hx (flat_length hs ys) (hr.news hs)
    (fun u hu => by obtain ⟨y, _, hy⟩ := List.mem_flatMap.1 hu; exact h1 y u hy) hm0 ?_ hbytes hbase _ rfl ?_
  · have : xs.length + ys.length ≤ (xs.length + ys.length) * bytes := Nat.le_mul_of_pos_right _ hb0
    simp only [maxLen]
    omega
  · intro g cap w' hown' hg _ _
    refine h g cap w' ?_ hg
    unfold Own
    rw [List.length_append, List.flatMap_append]
    exact hown'


theorem entries_calls (A : Option Addr) (xs : List En) (c : Nat) (w : World) (hx : Rd encN 3 w A xs) (hb : xs.length ≤ 1000000) :
    Calls Try.prog 16 #[.slice A xs.length c] w (ClonePost encN 3 78 xs w) := by
  have hl := hx.small
  have HX := Lib.hid hx
  clear hx
  go_enter Try.func16, Try.ntmps16
  go_wp2
  go_loopg [3, 4, 5, 6, 7, 8, 9, 10, 11, 12, 13, 14, 15, 16, 17, 18, 19, 20, 21, 22, 23, 24, 25, 26, 27, 28, 29] (xs.length) (fun g v3 v4 v5 v6 v7 v8 v9 v10 v11 v12 v13 v14 v15 v16 v17 v18 v19 v20 v21 v22 v23 v24 v25 v26 v27 v28 v29 wr => ∃ k : Nat, k + g = xs.length ∧ v4 = .int .i64 k ∧ (∃ S c, v3 = .slice S k c ∧ Own encN 3 78 wr w.heap.size (.slice S k c) (xs.take k)) ∧ Below w.heap.size w wr)
  case atStart => exact ⟨0, by omega, rfl, ⟨none, 0, rfl, World.ownsRow_nil _ _ _ _⟩, Below.refl _ _⟩
  case round =>
    obtain ⟨k, hk, rfl, ⟨S, c1, rfl, ho⟩, hbl⟩ := hrel
    by_cases hlt : k < xs.length
    · have hb1 : decide (k < xs.length) = true := decide_eq_true hlt
      obtain ⟨a, rfl, hc0, hc1, hc2⟩ := Rd.ent (HX.out.below hbl) k hlt
      obtain ⟨m, hm⟩ : ∃ m, xs[k] = m := ⟨_, rfl⟩
      rw [hm] at hc0 hc1 hc2
      have hst : xs.take (k + 1) = xs.take k ++ [m] := by rw [List.take_succ_eq_append_getElem hlt, hm]
      obtain ⟨W, hW⟩ : ∃ W, (wr.alloc (.cells #[.int .i64 m.r, .int .i64 m.c, .int .i64 m.v] 78)).drew = W := ⟨_, rfl⟩
      have hWb : Below wr.heap.size wr W := by rw [← hW]; exact ((Below.refl _ _).alloc (Nat.le_refl _) _).drew
      have hrd : Rd encN 3 W (some ⟨wr.heap.size, 0, none⟩) [m] := by rw [← hW]; exact (rd_litN _ _ _ _ (by simp)).drew
      have hown : Own encN 3 78 W w.heap.size (.slice S k c1) (xs.take k) := ho.rest hWb
      have hlen : (xs.take k).length = k := by simp; omega
      have HY := Lib.hid (And.intro hrd (And.intro hown (And.intro (Nat.le_trans hbl.size hWb.size) (And.intro (show ((xs.take k).length + 1) * 24 ≤ 140737488355328 by omega) (And.intro hlen (And.intro hst (And.intro (hbl.trans (hWb.mono hbl.size)) hW)))))))
      clear hm hst hWb hrd hown hW ho hbl
      go_upto_region 5 with fail
      go_region_law (rw [HY.out.2.2.2.2.2.2.2]; refine step_append_typed lenN oneN rfl (.tmp 11) (.tmp 28) 47 rfl w.heap.size 78 (.agg #[.int .i64 0, .int .i64 0, .int .i64 0]) 24 Try.underlying47 info78 rfl (by decide) (by decide) (.slice S k c1) (xs.take k) (by simp [Act.eval, Act.put]) HY.out.2.1 ⟨wr.heap.size, 0, none⟩ 1 1 [m] (by simp [Act.eval, Act.put]) rfl (by decide) HY.out.1 HY.out.2.2.2.1 HY.out.2.2.1 ?_; rw [HY.out.2.2.2.2.1, ← HY.out.2.2.2.2.2.1]; intro g2 cap2 w1 hown1 hg1; have HO := Lib.hid (And.intro hown1 hg1); clear hown1 hg1)
      all_goals go_wp2_with fail
      all_goals go_roundg (gk - 1)
      all_goals first | omega | exact ⟨k + 1, by omega, by go_num, ⟨_, _, rfl, HO.out.1⟩, HY.out.2.2.2.2.2.2.1.grown HO.out.2 HY.out.2.2.1 (fun k hk => (HY.out.2.1.blk k hk).1)⟩
    · have hb1 : decide (k < xs.length) = false := decide_eq_false hlt
      have hkl : k = xs.length := by omega
      subst hkl
      go_wp2_with fail
      go_ret
      rw [List.take_length] at ho
      exact ⟨_, rfl, ho, hbl⟩

theorem drewN_below {B : Nat} {w W : World} (h : Below B w W) (n : Nat) : Below B w (W.drewN n) := ⟨h.os, h.tape, h.output, h.size, h.block⟩
theorem wrap64_fit (n : Int) (h : -9223372036854775808 ≤ n ∧ n ≤ 9223372036854775807) : wrap64 n = n := by unfold wrap64; omega

theorem part_facts (n k p : Nat) (hn : n ≤ 1024) (hk : k ≤ 16) : ∃ P P1 Q Q1 : Nat, k * n / p = Q ∧ (k + 1) * n / p = Q1 ∧ wrap64 ((k : Int) * (n : Int)) = (P : Int) ∧ wrap64 (((k : Int) + 1) * (n : Int)) = (P1 : Int) ∧ wrap64 ((P : Int) / (p : Int)) = (Q : Int) ∧ wrap64 ((P1 : Int) / (p : Int)) = (Q1 : Int) := by
  have hPb : k * n ≤ 16 * 1024 := Nat.mul_le_mul hk hn
  have hP1b : (k + 1) * n ≤ 17 * 1024 := Nat.mul_le_mul (by omega) hn
  have hQb := Nat.div_le_self (k * n) p
  have hQ1b := Nat.div_le_self ((k + 1) * n) p
  have e1 : (k : Int) * (n : Int) = ((k * n : Nat) : Int) := (Int.natCast_mul k n).symm
  have e2 : ((k : Int) + 1) * (n : Int) = (((k + 1) * n : Nat) : Int) := by rw [Int.natCast_mul]; rfl
  have f1 : ((k * n : Nat) : Int) / (p : Int) = ((k * n / p : Nat) : Int) := (Int.natCast_ediv _ p).symm
  have f2 : (((k + 1) * n : Nat) : Int) / (p : Int) = (((k + 1) * n / p : Nat) : Int) := (Int.natCast_ediv _ p).symm
  refine ⟨k * n, (k + 1) * n, k * n / p, (k + 1) * n / p, rfl, rfl, ?_, ?_, ?_, ?_⟩
  · rw [e1]; generalize k * n = P at *; exact wrap64_fit _ (by omega)
  · rw [e2]; generalize (k + 1) * n = P at *; exact wrap64_fit _ (by omega)
  · rw [f1]; generalize k * n / p = P at *; exact wrap64_fit _ (by omega)
  · rw [f2]; generalize (k + 1) * n / p = P at *; exact wrap64_fit _ (by omega)
/-- the bounds of a part -/
theorem part_calls (n k p : Nat) (hn : n ≤ 1024) (hk : k ≤ 16) (hp : 1 ≤ p) (hp16 : p ≤ 16) (w : World) :
    Calls Try.prog 50 #[.int .i64 n, .int .i64 k, .int .i64 p] w fun e w' => e = .returned (.tuple #[.int .i64 ((k * n / p : Nat) : Int), .int .i64 (((k + 1) * n / p : Nat) : Int)]) ∧ Below w.heap.size w w' := by
  obtain ⟨P, P1, Q, Q1, hQ, hQ1, w1, w2, w3, w4⟩ := part_facts n k p hn hk
  rw [hQ, hQ1]
  have hp0 : (p : Int) ≠ 0 := by omega
  clear hQ hQ1
  go_enter Try.func50, Try.ntmps50
  go_upto_region 1 with fail
  go_quiet (fail)
  go_wp2_with fail
  refine bodyPost_ret (by simp [results, Try.results50, go_sem]; try rfl) rfl ?_
  exact ⟨by rw [w3, w4], drewN_below (Below.refl _ _) nq⟩

/-- the part that an index belongs to: the first whose end lies behind it -/
def ptF (n i p : Nat) : Nat := (List.range p).findIdx (fun k => decide (i < (k + 1) * n / p))
theorem ptF_at (n i p k : Nat) (hk : k < p) (h : i < (k + 1) * n / p) (hb : ∀ j, j < k → ¬ i < (j + 1) * n / p) : ptF n i p = k := by
  unfold ptF
  rw [List.findIdx_eq (by simpa using hk)]
  refine ⟨by simpa using h, fun j hj => ?_⟩
  have := hb j hj
  simpa using this
theorem ptF_lt (n i p : Nat) (hi : i < n) (hp : 1 ≤ p) : ptF n i p < p := by
  have h := List.findIdx_lt_length (xs := List.range p) (p := fun k => decide (i < (k + 1) * n / p))
  have h2 := h.2 ⟨p - 1, by simp; omega, by
    have : (p - 1 + 1) * n / p = n := by rw [show p - 1 + 1 = p by omega]; exact Nat.mul_div_cancel_left n (by omega)
    simp only [this]; simpa using hi⟩
  simpa [ptF] using h2
theorem part_from (n i k p : Nat) (hb : ∀ j, j < k → ¬ i < (j + 1) * n / p) : k * n / p ≤ i := by
  cases k with
  | zero => simp
  | succ k => have := hb k (by omega); omega
theorem part_last (n i p : Nat) (hi : i < n) (hp : 1 ≤ p) (hb : ∀ j, j < p → ¬ i < (j + 1) * n / p) : False := by
  have := hb (p - 1) (by omega)
  rw [show p - 1 + 1 = p by omega, Nat.mul_div_cancel_left n (by omega)] at this
  exact this hi

theorem owner_calls (n i p : Nat) (hn : n ≤ 1024) (hi : i < n) (hp : 1 ≤ p) (hp16 : p ≤ 16) (w : World) :
    Calls Try.prog 40 #[.int .i64 n, .int .i64 i, .int .i64 p] w fun e w' => e = .returned (.int .i64 ((ptF n i p : Nat) : Int)) ∧ Below w.heap.size w w' := by
  have hpc := fun k (hk : k ≤ 16) w => part_calls n k p hn hk hp hp16 w
  have HP := Lib.hid hpc
  have HI := Lib.hid (And.intro hi (And.intro hp hn))
  clear hpc hi hp hn
  go_enter Try.func40, Try.ntmps40
  go_wp2_with fail
  go_loopg [6, 7, 8, 9, 11, 12, 13, 14, 15, 16, 17, 18, 19, 20, 21, 22, 23, 24, 25, 26, 27, 28, 29, 30] p (fun gk v6 v7 v8 v9 v11 v12 v13 v14 v15 v16 v17 v18 v19 v20 v21 v22 v23 v24 v25 v26 v27 v28 v29 v30 wr => ∃ k : Nat, k + gk = p ∧ v11 = .int .i64 (k : Int) ∧ (∀ j, j < k → ¬ i < (j + 1) * n / p) ∧ Below w.heap.size w wr)
  case atStart => exact ⟨0, by omega, rfl, fun j hj => by omega, Below.refl _ _⟩
  case round =>
    obtain ⟨k, hk, rfl, hall, hbl⟩ := hrel
    by_cases hkp : k < p
    · have hb1 : decide (k < p) = true := decide_eq_true hkp
      have hfr := part_from n i k p hall
      have h1 := HP.out k (by omega) wr
      have H1 := Lib.hid h1
      have HA := Lib.hid (And.intro hall hbl)
      clear h1 hall hbl
      by_cases hto : i < (k + 1) * n / p
      · have HT := Lib.hid hto
        generalize (k + 1) * n / p = Q1 at H1 hto
        generalize k * n / p = Q at H1 hfr
        have hd1 : decide ((Q : Int) ≤ (i : Int)) = true := decide_eq_true (by omega)
        have hd2 : decide ((i : Int) < (Q1 : Int)) = true := decide_eq_true (by omega)
        go_wp2_with fail
        (with_reducible refine (H1.out).mono ?_); rintro e w1 ⟨rfl, hb1⟩
        have HB1 := Lib.hid hb1
        clear hb1
        go_wp2_with fail
        go_ret
        exact ⟨by rw [ptF_at n i p k hkp HT.out HA.out.1]; rfl, HA.out.2.trans (HB1.out.mono HA.out.2.size)⟩
      · have HT := Lib.hid hto
        generalize (k + 1) * n / p = Q1 at H1 hto
        generalize k * n / p = Q at H1 hfr
        have hd1 : decide ((Q : Int) ≤ (i : Int)) = true := decide_eq_true (by omega)
        have hd2 : decide ((i : Int) < (Q1 : Int)) = false := decide_eq_false (by omega)
        go_wp2_with fail
        (with_reducible refine (H1.out).mono ?_); rintro e w1 ⟨rfl, hb1⟩
        have HB1 := Lib.hid hb1
        clear hb1
        go_wp2_with fail
        go_roundg (gk - 1)
        case measure => omega
        case rel => exact ⟨k + 1, by omega, by go_num, fun j hj => by
          by_cases e : j = k
          · subst e; exact HT.out
          · exact HA.out.1 j (by omega), HA.out.2.trans (HB1.out.mono HA.out.2.size)⟩
    · exact absurd (part_last n i p HI.out.1 HI.out.2.1 (fun j hj => hall j (by omega))) id
end Go.Proofs.Ythccnaemocdcbaa
