import Derived.Test.YtggidakiflnhhaaU
namespace Go.Proofs.Ytggidakiflnhhaa
open Go.RowKit
set_option maxHeartbeats 8000000
set_option maxRecDepth 100000
set_option linter.unusedSimpArgs false
set_option linter.unusedVariables false

theorem short_calls (l : List Op) (n : Int) (A : Option Addr) (cp : Nat) (w : World) (hsm : l.length ≤ 9223372036854775807) :
    Calls Try.prog 13 #[.slice A l.length cp, .int .i64 n] w fun x w' => x = .returned (.bool (decide ((l.length : Int) ≤ n ∨ (2000 < l.length ∧ l.length ≤ 2002)))) ∧ Below w.heap.size w w' := by
  have HB := Lib.hid (Below.refl w.heap.size w)
  go_enter Try.func13, Try.ntmps13
  by_cases h1 : (l.length : Int) ≤ n
  · have d1 : decide ((l.length : Int) ≤ n) = true := decide_eq_true h1
    go_wp2_with fail
    go_ret
    refine ⟨?_, HB.out⟩
    first | rfl | (rw [decide_eq_true (by omega)]; rfl)
  · have d1 : decide ((l.length : Int) ≤ n) = false := decide_eq_false h1
    by_cases h2 : 2000 < l.length
    · have d2 : decide (2000 < l.length) = true := decide_eq_true h2
      have d3 : decide ((2000 : Int) < (l.length : Int)) = true := decide_eq_true (by omega)
      by_cases h3 : l.length ≤ 2002
      · have d4 : decide (l.length ≤ 2002) = true := decide_eq_true h3
        have d5 : decide ((l.length : Int) ≤ 2002) = true := decide_eq_true (by omega)
        go_wp2_with fail
        go_ret
        refine ⟨?_, HB.out⟩
        first | rfl | (rw [decide_eq_true (by omega)]; rfl)
      · have d4 : decide (l.length ≤ 2002) = false := decide_eq_false h3
        have d5 : decide ((l.length : Int) ≤ 2002) = false := decide_eq_false (by omega)
        go_wp2_with fail
        go_ret
        refine ⟨?_, HB.out⟩
        first | rfl | (rw [decide_eq_false (by omega)]; rfl)
    · have d2 : decide (2000 < l.length) = false := decide_eq_false h2
      have d3 : decide ((2000 : Int) < (l.length : Int)) = false := decide_eq_false (by omega)
      go_wp2_with fail
      go_ret
      refine ⟨?_, HB.out⟩
      first | rfl | (rw [decide_eq_false (by omega)]; rfl)
theorem ints_calls (xs ys : List Int) (A B : Option Addr) (ca cb : Nat) (w : World) (hA : Rd encI 1 w A xs) (hB : Rd encI 1 w B ys) :
    Calls Try.prog 18 #[.slice A xs.length ca, .slice B ys.length cb] w fun x w' => x = .returned (.bool (decide (xs = ys))) ∧ Below w.heap.size w w' := by
  have hs1 := hA.small
  have hs2 := hB.small
  have HA := Lib.hid (And.intro hA hB)
  clear hA hB
  go_enter Try.func18, Try.ntmps18
  by_cases hl : xs.length = ys.length
  · have d1 : decide (xs.length = ys.length) = true := decide_eq_true hl
    have d2 : decide ((xs.length : Int) = (ys.length : Int)) = true := decide_eq_true (by omega)
    have HL := Lib.hid hl
    rw [← hl]
    clear hl d1 d2
    have d1 : decide (xs.length = xs.length) = true := decide_eq_true rfl
    go_wp2_with fail
    go_loopg [4, 5, 11, 12, 13, 14, 15, 16, 17, 18, 19, 20, 21, 22, 23, 24, 25] xs.length (fun gk v4 v5 v11 v12 v13 v14 v15 v16 v17 v18 v19 v20 v21 v22 v23 v24 v25 wr => ∃ i : Nat, i + gk = xs.length ∧ v5 = .int .i64 (i : Int) ∧ (∀ k, k < i → xs[k]? = ys[k]?) ∧ Below w.heap.size w wr)
    case atStart => exact ⟨0, by omega, rfl, fun k h => by omega, Below.refl _ _⟩
    case round =>
      obtain ⟨i, hi, rfl, heq, hb⟩ := hrel
      by_cases hlt : i < xs.length
      · have hd : decide (i < xs.length) = true := decide_eq_true hlt
        have hii : (i : Int) < (xs.length : Int) := by omega
        obtain ⟨a, rfl, hca⟩ := (HA.out.1.below hb).int i hlt
        obtain ⟨b, rfl, hcb⟩ := (HA.out.2.below hb).int i (by rw [← HL.out]; exact hlt)
        obtain ⟨x, hx⟩ : ∃ x, xs[i] = x := ⟨_, rfl⟩
        obtain ⟨y, hy⟩ : ∃ y, ys[i]'(by rw [← HL.out]; exact hlt) = y := ⟨_, rfl⟩
        rw [hx] at hca
        rw [hy] at hcb
        have HX := Lib.hid (show xs[i]? = some x ∧ ys[i]? = some y from ⟨by rw [List.getElem?_eq_getElem hlt, hx], by rw [List.getElem?_eq_getElem (by rw [← HL.out]; exact hlt), hy]⟩)
        have HE := Lib.hid (And.intro heq hb)
        clear hx hy heq hb
        by_cases hxy : x = y
        · subst hxy
          have f1 : decide (x = x) = true := decide_eq_true rfl
          go_upto_region 6 with fail
          go_quiet (fail)
          go_wp2_with fail
          go_roundg (gk - 1)
          case measure => omega
          case rel =>
            refine ⟨i + 1, by omega, by go_num, fun k hk => ?_, by first | exact HE.out.2 | exact drewN_below HE.out.2 _⟩
            by_cases hki : k = i
            · subst hki; rw [HX.out.1, HX.out.2]
            · exact HE.out.1 k (by omega)
        · have f1 : decide (x = y) = false := decide_eq_false hxy
          go_upto_region 6 with fail
          go_quiet (fail)
          go_wp2_with fail
          go_ret
          refine ⟨?_, by first | exact HE.out.2 | exact drewN_below HE.out.2 _⟩
          rw [decide_eq_false (fun h => hxy (by have := HX.out.1; rw [h, HX.out.2] at this; exact (Option.some.inj this).symm))]; rfl
      · have hd : decide (i < xs.length) = false := decide_eq_false hlt
        have HE := Lib.hid (And.intro heq hb)
        clear heq hb
        go_wp2_with fail
        go_ret
        refine ⟨?_, HE.out.2⟩
        rw [decide_eq_true (List.ext_getElem? (fun k => by
          by_cases hk : k < i
          · exact HE.out.1 k hk
          · rw [List.getElem?_eq_none (by omega), List.getElem?_eq_none (by rw [← HL.out]; omega)]))]; rfl
  · have d1 : decide (xs.length = ys.length) = false := decide_eq_false hl
    have d2 : decide ((xs.length : Int) = (ys.length : Int)) = false := decide_eq_false (by omega)
    go_wp2_with fail
    go_ret
    exact ⟨by rw [decide_eq_false (fun h => hl (by rw [h]))]; rfl, Below.refl _ _⟩
theorem homeR_calls (c : Cf) (hok : cfOk c) (x : Nat) (hx : x ≤ 100000) (w : World) : Calls Try.prog 34 #[c.val, .int .i64 (x : Int)] w fun y w' => y = .returned (.int .i64 (hmF c x)) ∧ Below w.heap.size w w' := by
  have hb : Below w.heap.size w (w.alloc (.cells c.cells 23)) := (Below.refl _ w).alloc (Nat.le_refl _) _
  have HB := Lib.hid hb
  obtain ⟨o1, o2, o3, o4, o5, o6, o7, o8, o9⟩ := hok
  have hq : (0 : Int) ≤ (x : Int) * c.L := Int.mul_nonneg (by omega) (by omega)
  have hq2 : (x : Int) * c.L ≤ 100000 * 8 := Int.mul_le_mul (by omega) (by omega) (by omega) (by omega)
  have w1 : IntKind.i64.wrap ((x : Int) * c.L) = (x : Int) * c.L := by rw [IntKind.wrap_i64]; omega
  have w2 : wrap64 ((x : Int) * c.L) = (x : Int) * c.L := wrap64_fit _ (by omega)
  have hd : 1 ≤ c.W / 4 := by omega
  have hd2 : c.W / 4 ≤ 64 := by omega
  have HE := Lib.hid (show hmF c x = (x : Int) * c.L / (c.W / 4) from rfl)
  clear hb
  generalize hm : (x : Int) * c.L = m at *
  go_enter Try.func34, Try.ntmps34
  go_wp2_with fail
  go_ret
  exact ⟨ret_int (by rw [HE.out]), HB.out⟩
/-- what Owner answers -/
def owF (c : Cf) (p : Int) : Int × Int := if ¬ cfOk c then (0, 4) else if p < 0 ∨ c.W ≤ p then (0, 4) else (hmF c (p.toNat / 4), 0)
theorem owner15_calls (c : Cf) (p : Int) (w : World) : Calls Try.prog 15 #[c.val, .int .i64 p] w fun y w' => y = .returned (.tuple #[.int .i64 (owF c p).1, .int .i64 (owF c p).2]) ∧ Below w.heap.size w w' := by
  obtain ⟨W1, hW1⟩ : ∃ W1, w.alloc (.cells c.cells 25) = W1 := ⟨_, rfl⟩
  have hb1 : Below w.heap.size w W1 := by rw [← hW1]; exact (Below.refl _ w).alloc (Nat.le_refl _) _
  have hx1 : W1.heap[w.heap.size]? = some (.cells c.cells 25 (0, 0)) := by rw [← hW1]; exact Go.heap_alloc_new w _
  obtain ⟨bx, hbx⟩ : ∃ b, w.heap.size = b := ⟨_, rfl⟩
  rw [hbx] at hx1
  have hz : ∀ w', Below W1.heap.size W1 w' → w'.cell? ⟨bx, 0, none⟩ = some (.int .i64 c.L) ∧ w'.cell? ⟨bx, 1, none⟩ = some (.int .i64 c.W) ∧ w'.cell? ⟨bx, 2, none⟩ = some (.int .i64 c.N) ∧ w'.cell? ⟨bx, 3, none⟩ = some (.int .i64 c.H) := fun w' hb => by
    have hx := (hb.block _ (blk_lt hx1)).trans hx1
    refine ⟨?_, ?_, ?_, ?_⟩ <;> (rw [cell_of_row _ _ _ _ _ _ hx]; rfl)
  have HZ := Lib.hid hz
  have HR := Lib.hid (right26_calls c W1)
  have HW := Lib.hid (And.intro hW1 (And.intro hbx hb1))
  obtain ⟨z0, z1, z2, z3⟩ := HZ.out W1 (Below.refl _ _)
  clear hW1 hbx hb1 hx1 hz
  go_enter Try.func15, Try.ntmps15
  go_upto_region 1 with fail
  rw [HW.out.1]
  try rw [HW.out.2.1]
  by_cases hok : cfOk c
  · have he : cfE c = 0 := if_pos hok
    rw [he] at HR
    have HO := Lib.hid hok
    clear he
    obtain ⟨o1, o2, o3, o4, o5, o6, o7, o8, o9⟩ := hok
    go_wp2_with fail
    (with_reducible refine (HR.out).mono ?_); rintro e w5 ⟨rfl, hb5⟩
    clear z0 z1 z2 z3
    obtain ⟨z0, z1, z2, z3⟩ := HZ.out w5 hb5
    have H5 := Lib.hid (HW.out.2.2.trans (hb5.mono HW.out.2.2.size))
    clear hb5
    by_cases h1 : p < 0
    · have d1 : decide (p < 0) = true := decide_eq_true h1
      have hF : owF c p = (0, 4) := by unfold owF; rw [if_neg (fun h => h HO.out), if_pos (Or.inl h1)]
      have HF := Lib.hid hF
      clear hF
      go_wp2_with fail
      go_ret2
      exact ⟨by rw [HF.out]; rfl, H5.out⟩
    · have d1 : decide (p < 0) = false := decide_eq_false h1
      by_cases h2 : c.W ≤ p
      · have d2 : decide (c.W ≤ p) = true := decide_eq_true h2
        have hF : owF c p = (0, 4) := by unfold owF; rw [if_neg (fun h => h HO.out), if_pos (Or.inr h2)]
        have HF := Lib.hid hF
        clear hF
        go_wp2_with fail
        go_ret2
        exact ⟨by rw [HF.out]; rfl, H5.out⟩
      · have d2 : decide (c.W ≤ p) = false := decide_eq_false h2
        have hF : owF c p = (hmF c (p.toNat / 4), 0) := by unfold owF; rw [if_neg (fun h => h HO.out), if_neg (by omega)]
        have HF := Lib.hid hF
        clear hF
        obtain ⟨x, rfl⟩ : ∃ x : Nat, p = (x : Int) := ⟨p.toNat, by omega⟩
        rw [show (x : Int).toNat = x from rfl] at HF
        have hx4 : x / 4 ≤ 100000 := by omega
        have hh := home_calls c HO.out (x / 4) hx4 w5
        rw [show ((x / 4 : Nat) : Int) = (x : Int) / 4 from by omega] at hh
        have HH := Lib.hid hh
        clear hh
        go_wp2_with fail
        (with_reducible refine (HH.out).mono ?_); rintro e w6 ⟨rfl, hb6⟩
        have H6 := Lib.hid (H5.out.trans (hb6.mono H5.out.size))
        clear hb6
        go_wp2_with fail
        go_ret2
        exact ⟨by rw [HF.out]; rfl, H6.out⟩
  · have he : cfE c = 4 := if_neg hok
    rw [he] at HR
    have hF : owF c p = (0, 4) := by unfold owF; rw [if_pos hok]
    have HF := Lib.hid hF
    clear hok he hF
    go_wp2_with ((with_reducible refine (HR.out).mono ?_); rintro e w5 ⟨rfl, hb5⟩; have HB5 := Lib.hid (HW.out.2.2.trans (hb5.mono HW.out.2.2.size)); clear hb5)
    go_ret2
    exact ⟨by rw [HF.out]; rfl, HB5.out⟩
theorem owner16_calls (c : Cf) (p : Int) (w : World) : Calls Try.prog 16 #[c.val, .int .i64 p] w fun y w' => y = .returned (.tuple #[.int .i64 (owF c p).1, .int .i64 (owF c p).2]) ∧ Below w.heap.size w w' := by
  obtain ⟨W1, hW1⟩ : ∃ W1, w.alloc (.cells c.cells 23) = W1 := ⟨_, rfl⟩
  have hb1 : Below w.heap.size w W1 := by rw [← hW1]; exact (Below.refl _ w).alloc (Nat.le_refl _) _
  have hx1 : W1.heap[w.heap.size]? = some (.cells c.cells 23 (0, 0)) := by rw [← hW1]; exact Go.heap_alloc_new w _
  obtain ⟨bx, hbx⟩ : ∃ b, w.heap.size = b := ⟨_, rfl⟩
  rw [hbx] at hx1
  have hz : ∀ w', Below W1.heap.size W1 w' → w'.cell? ⟨bx, 0, none⟩ = some (.int .i64 c.L) ∧ w'.cell? ⟨bx, 1, none⟩ = some (.int .i64 c.W) ∧ w'.cell? ⟨bx, 2, none⟩ = some (.int .i64 c.N) ∧ w'.cell? ⟨bx, 3, none⟩ = some (.int .i64 c.H) := fun w' hb => by
    have hx := (hb.block _ (blk_lt hx1)).trans hx1
    refine ⟨?_, ?_, ?_, ?_⟩ <;> (rw [cell_of_row _ _ _ _ _ _ hx]; rfl)
  have HZ := Lib.hid hz
  have HR := Lib.hid (right32_calls c W1)
  have HW := Lib.hid (And.intro hW1 (And.intro hbx hb1))
  obtain ⟨z0, z1, z2, z3⟩ := HZ.out W1 (Below.refl _ _)
  clear hW1 hbx hb1 hx1 hz
  go_enter Try.func16, Try.ntmps16
  go_upto_region 1 with fail
  rw [HW.out.1]
  try rw [HW.out.2.1]
  by_cases hok : cfOk c
  · have he : cfE c = 0 := if_pos hok
    rw [he] at HR
    have HO := Lib.hid hok
    clear he
    obtain ⟨o1, o2, o3, o4, o5, o6, o7, o8, o9⟩ := hok
    go_wp2_with fail
    (with_reducible refine (HR.out).mono ?_); rintro e w5 ⟨rfl, hb5⟩
    clear z0 z1 z2 z3
    obtain ⟨z0, z1, z2, z3⟩ := HZ.out w5 hb5
    have H5 := Lib.hid (HW.out.2.2.trans (hb5.mono HW.out.2.2.size))
    clear hb5
    by_cases h1 : p < 0
    · have d1 : decide (p < 0) = true := decide_eq_true h1
      have hF : owF c p = (0, 4) := by unfold owF; rw [if_neg (fun h => h HO.out), if_pos (Or.inl h1)]
      have HF := Lib.hid hF
      clear hF
      go_wp2_with fail
      go_ret2
      exact ⟨by rw [HF.out]; rfl, H5.out⟩
    · have d1 : decide (p < 0) = false := decide_eq_false h1
      by_cases h2 : c.W ≤ p
      · have d2 : decide (c.W ≤ p) = true := decide_eq_true h2
        have hF : owF c p = (0, 4) := by unfold owF; rw [if_neg (fun h => h HO.out), if_pos (Or.inr h2)]
        have HF := Lib.hid hF
        clear hF
        go_wp2_with fail
        go_ret2
        exact ⟨by rw [HF.out]; rfl, H5.out⟩
      · have d2 : decide (c.W ≤ p) = false := decide_eq_false h2
        have hF : owF c p = (hmF c (p.toNat / 4), 0) := by unfold owF; rw [if_neg (fun h => h HO.out), if_neg (by omega)]
        have HF := Lib.hid hF
        clear hF
        obtain ⟨x, rfl⟩ : ∃ x : Nat, p = (x : Int) := ⟨p.toNat, by omega⟩
        rw [show (x : Int).toNat = x from rfl] at HF
        have hx4 : x / 4 ≤ 100000 := by omega
        have hh := homeR_calls c HO.out (x / 4) hx4 w5
        rw [show ((x / 4 : Nat) : Int) = (x : Int) / 4 from by omega] at hh
        have HH := Lib.hid hh
        clear hh
        go_wp2_with fail
        (with_reducible refine (HH.out).mono ?_); rintro e w6 ⟨rfl, hb6⟩
        have H6 := Lib.hid (H5.out.trans (hb6.mono H5.out.size))
        clear hb6
        go_wp2_with fail
        go_ret2
        exact ⟨by rw [HF.out]; rfl, H6.out⟩
  · have he : cfE c = 4 := if_neg hok
    rw [he] at HR
    have hF : owF c p = (0, 4) := by unfold owF; rw [if_pos hok]
    have HF := Lib.hid hF
    clear hok he hF
    go_wp2_with ((with_reducible refine (HR.out).mono ?_); rintro e w5 ⟨rfl, hb5⟩; have HB5 := Lib.hid (HW.out.2.2.trans (hb5.mono HW.out.2.2.size)); clear hb5)
    go_ret2
    exact ⟨by rw [HF.out]; rfl, HB5.out⟩
end Go.Proofs.Ytggidakiflnhhaa
