import Derived.Test.YtggidakiflnhhaaAC
namespace Go.Proofs.Ytggidakiflnhhaa
open Go.RowKit
set_option maxHeartbeats 16000000
set_option maxRecDepth 100000
set_option linter.unusedSimpArgs false
set_option linter.unusedVariables false

theorem chk_bad {c : Cf} {l : List Op} (hc : cfOk c) (hl : l.length ≤ 2000) {i : Nat} (hi : i < l.length) (ho : ¬ opOk c l[i]) : chkF c l = 1 := by
  unfold chkF
  rw [if_neg (fun h => h hc), if_neg (by omega), if_neg (fun h => ho (h _ (List.getElem_mem hi)))]
theorem chk_good {c : Cf} {l : List Op} (hc : cfOk c) (hl : l.length ≤ 2000) (ho : ∀ j (hj : j < l.length), j < l.length → opOk c l[j]) : chkF c l = 0 := by
  unfold chkF
  rw [if_neg (fun h => h hc), if_neg (by omega), if_pos (fun o hm => by obtain ⟨j, hj, rfl⟩ := List.mem_iff_getElem.1 hm; exact ho j hj hj)]
theorem all_snoc {c : Cf} {l : List Op} {i : Nat} (h : ∀ j (hj : j < l.length), j < i → opOk c l[j]) (hi : (h : i < l.length) → opOk c l[i]) : ∀ j (hj : j < l.length), j < i + 1 → opOk c l[j] := fun j hj hji => by
  by_cases e : j = i
  · subst e; exact hi hj
  · exact h j hj (by omega)
theorem checkR_calls (c : Cf) (l : List Op) (A : Option Addr) (cp : Nat) (w : World) (hA : Rd encP 4 w A l) :
    Calls Try.prog 14 #[c.val, .slice A l.length cp] w fun x w' => x = .returned (.int .i64 (chkF c l)) ∧ Below w.heap.size w w' := by
  have hsm := hA.small
  obtain ⟨W1, hW1⟩ : ∃ W1, w.alloc (.cells c.cells 23) = W1 := ⟨_, rfl⟩
  have hb1 : Below w.heap.size w W1 := by rw [← hW1]; exact (Below.refl _ w).alloc (Nat.le_refl _) _
  have hx1 : W1.heap[w.heap.size]? = some (.cells c.cells 23 (0, 0)) := by rw [← hW1]; exact Go.heap_alloc_new w _
  obtain ⟨bx, hbx⟩ : ∃ b, w.heap.size = b := ⟨_, rfl⟩
  rw [hbx] at hx1
  have hz : ∀ w', Below W1.heap.size W1 w' → w'.cell? ⟨bx, 0, none⟩ = some (.int .i64 c.L) ∧ w'.cell? ⟨bx, 1, none⟩ = some (.int .i64 c.W) ∧ w'.cell? ⟨bx, 2, none⟩ = some (.int .i64 c.N) ∧ w'.cell? ⟨bx, 3, none⟩ = some (.int .i64 c.H) := fun w' hb => by
    have hx := (hb.block _ (blk_lt hx1)).trans hx1
    refine ⟨?_, ?_, ?_, ?_⟩ <;> (rw [cell_of_row _ _ _ _ _ _ hx]; rfl)
  have HZ := Lib.hid hz
  have HR := Lib.hid (right32_calls c W1)
  have HW := Lib.hid (And.intro hW1 (And.intro hbx hb1))
  have HA := Lib.hid hA
  obtain ⟨z0, z1, z2, z3⟩ := HZ.out W1 (Below.refl _ _)
  clear hW1 hbx hb1 hx1 hz hA
  go_enter Try.func14, Try.ntmps14
  go_upto_region 1 with fail
  rw [HW.out.1]
  try rw [HW.out.2.1]
  by_cases hok : cfOk c
  · have he : cfE c = 0 := if_pos hok
    rw [he] at HR
    have HC := Lib.hid hok
    clear he hok
    go_wp2_with fail
    (with_reducible refine (HR.out).mono ?_); rintro e w5 ⟨rfl, hb5⟩
    have H5 := Lib.hid (And.intro hb5 (HW.out.2.2.trans (hb5.mono HW.out.2.2.size)))
    clear hb5 z0 z1 z2 z3
    by_cases hgt : 2000 < l.length
    · have d1 : decide (2000 < l.length) = true := decide_eq_true hgt
      have d2 : decide ((2000 : Int) < (l.length : Int)) = true := decide_eq_true (by omega)
      have HG := Lib.hid hgt
      clear hgt
      go_wp2_with fail
      go_ret
      exact ⟨ret_int (by unfold chkF; rw [if_neg (fun h => h HC.out), if_pos HG.out]), H5.out.2⟩
    have d1 : decide (2000 < l.length) = false := decide_eq_false hgt
    have d2 : decide ((2000 : Int) < (l.length : Int)) = false := decide_eq_false (by omega)
    have hl2 : l.length ≤ 2000 := by omega
    clear hgt
    go_wp2_with fail
    go_loopg [4, 6, 7, 8, 17, 18, 19, 20, 21, 22, 23, 24, 25, 26, 27, 28, 29, 30, 31, 32, 33, 34, 35, 36, 37, 38, 39, 40, 41, 42, 43, 44, 45, 46, 47, 48, 49, 50, 51, 52, 53, 54, 55, 56, 57, 58, 59, 60, 61, 62, 63, 64, 65, 66, 67, 68, 69, 70, 71, 72, 73, 74, 75, 76, 77, 78, 79, 80, 81, 82, 83, 84, 85, 86, 87, 88] l.length (fun gk v4 v6 v7 v8 v17 v18 v19 v20 v21 v22 v23 v24 v25 v26 v27 v28 v29 v30 v31 v32 v33 v34 v35 v36 v37 v38 v39 v40 v41 v42 v43 v44 v45 v46 v47 v48 v49 v50 v51 v52 v53 v54 v55 v56 v57 v58 v59 v60 v61 v62 v63 v64 v65 v66 v67 v68 v69 v70 v71 v72 v73 v74 v75 v76 v77 v78 v79 v80 v81 v82 v83 v84 v85 v86 v87 v88 wr => ∃ i : Nat, i + gk = l.length ∧ v6 = .int .i64 (i : Int) ∧ (∀ j (hj : j < l.length), j < i → opOk c l[j]) ∧ Below w5.heap.size w5 wr)
    case atStart => exact ⟨0, by omega, rfl, fun j hj h => by omega, Below.refl _ _⟩
    case round =>
      obtain ⟨i, hi, rfl, hall, hb⟩ := hrel
      by_cases hlt : i < l.length
      rotate_left
      · have hd : decide (i < l.length) = false := decide_eq_false hlt
        obtain rfl : i = l.length := by omega
        have HE := Lib.hid (And.intro hall (H5.out.2.trans (hb.mono H5.out.2.size)))
        clear hall hb
        go_wp2_with fail
        go_ret
        exact ⟨ret_int (by rw [chk_good HC.out hl2 HE.out.1]), HE.out.2⟩
      have hd : decide (i < l.length) = true := decide_eq_true hlt
      have hii : (i : Int) < (l.length : Int) := by omega
      have hb15 := H5.out.1.trans (hb.mono H5.out.1.size)
      obtain ⟨a, rfl, hca⟩ := (HA.out.below (HW.out.2.2.trans (hb15.mono HW.out.2.2.size))).cell i hlt
      obtain ⟨⟨ia, ik, ip, iv⟩, hoe⟩ : ∃ o, l[i] = o := ⟨_, rfl⟩
      rw [hoe] at hca
      have x0 := hca 0 _ rfl
      have x1 := hca 1 _ rfl
      have x2 := hca 2 _ rfl
      have x3 := hca 3 _ rfl
      rw [Nat.add_zero] at x0
      rw [add_field _ _ _ (by decide)] at x1 x2 x3
      obtain ⟨W8, hW8⟩ : ∃ W8, wr.alloc (.cells #[.int .i64 ia, .int .i64 ik, .int .i64 ip, .int .i64 iv] 63) = W8 := ⟨_, rfl⟩
      have hb8 : Below wr.heap.size wr W8 := by rw [← hW8]; exact (Below.refl _ _).alloc (Nat.le_refl _) _
      have hx8 : W8.heap[wr.heap.size]? = some (.cells #[.int .i64 ia, .int .i64 ik, .int .i64 ip, .int .i64 iv] 63 (0, 0)) := by rw [← hW8]; exact Go.heap_alloc_new _ _
      obtain ⟨b8, hb8e⟩ : ∃ b, wr.heap.size = b := ⟨_, rfl⟩
      rw [hb8e] at hx8
      have hb58 := hb.trans (hb8.mono hb.size)
      have hb18 := hb15.trans (hb8.mono hb15.size)
      have p0 : W8.cell? ⟨b8, 0, none⟩ = some (.int .i64 ia) := by rw [cell_of_row _ _ _ _ _ _ hx8]; rfl
      have p1 : W8.cell? ⟨b8, 1, none⟩ = some (.int .i64 ik) := by rw [cell_of_row _ _ _ _ _ _ hx8]; rfl
      have p2 : W8.cell? ⟨b8, 2, none⟩ = some (.int .i64 ip) := by rw [cell_of_row _ _ _ _ _ _ hx8]; rfl
      have p3 : W8.cell? ⟨b8, 3, none⟩ = some (.int .i64 iv) := by rw [cell_of_row _ _ _ _ _ _ hx8]; rfl
      obtain ⟨z0, z1, z2, z3⟩ := HZ.out W8 hb18
      have HW8 := Lib.hid (And.intro hW8 (And.intro hb8e hb58))
      have HA1 := Lib.hid hall
      have HO := Lib.hid hoe
      clear hca hb hb15 hW8 hb8 hx8 hb8e hb58 hb18 hall hoe
      go_upto_region 10 with fail
      rw [HW8.out.1]
      try rw [HW8.out.2.1]
      clear x0 x1 x2 x3
      by_cases m1 : ia < 0
      · have dm1 : decide (ia < 0) = true := decide_eq_true m1
        go_wp2_with fail
        all_goals go_ret
        all_goals exact ⟨ret_int (by rw [chk_bad HC.out hl2 hlt (by rw [HO.out]; unfold opOk; simp only; omega)]), H5.out.2.trans (HW8.out.2.2.mono H5.out.2.size)⟩
      · have dm1 : decide (ia < 0) = false := decide_eq_false m1
        by_cases m2 : c.L ≤ ia
        · have dm2 : decide (c.L ≤ ia) = true := decide_eq_true m2
          go_wp2_with fail
          all_goals go_ret
          all_goals exact ⟨ret_int (by rw [chk_bad HC.out hl2 hlt (by rw [HO.out]; unfold opOk; simp only; omega)]), H5.out.2.trans (HW8.out.2.2.mono H5.out.2.size)⟩
        · have dm2 : decide (c.L ≤ ia) = false := decide_eq_false m2
          by_cases m3 : ik < 1
          · have dm3 : decide (ik < 1) = true := decide_eq_true m3
            go_wp2_with fail
            all_goals go_ret
            all_goals exact ⟨ret_int (by rw [chk_bad HC.out hl2 hlt (by rw [HO.out]; unfold opOk; simp only; omega)]), H5.out.2.trans (HW8.out.2.2.mono H5.out.2.size)⟩
          · have dm3 : decide (ik < 1) = false := decide_eq_false m3
            by_cases m4 : 4 < ik
            · have dm4 : decide (4 < ik) = true := decide_eq_true m4
              go_wp2_with fail
              all_goals go_ret
              all_goals exact ⟨ret_int (by rw [chk_bad HC.out hl2 hlt (by rw [HO.out]; unfold opOk; simp only; omega)]), H5.out.2.trans (HW8.out.2.2.mono H5.out.2.size)⟩
            · have dm4 : decide (4 < ik) = false := decide_eq_false m4
              rcases show ik = 1 ∨ ik = 2 ∨ ik = 3 ∨ ik = 4 by omega with hk | hk | hk | hk
              · subst hk
                by_cases n1 : ip < 0
                · have dn1 : decide (ip < 0) = true := decide_eq_true n1
                  go_wp2_with fail
                  all_goals go_ret
                  all_goals exact ⟨ret_int (by rw [chk_bad HC.out hl2 hlt (by rw [HO.out]; unfold opOk; simp only; omega)]), H5.out.2.trans (HW8.out.2.2.mono H5.out.2.size)⟩
                · have dn1 : decide (ip < 0) = false := decide_eq_false n1
                  by_cases n2 : c.W ≤ ip
                  · have dn2 : decide (c.W ≤ ip) = true := decide_eq_true n2
                    go_wp2_with fail
                    all_goals go_ret
                    all_goals exact ⟨ret_int (by rw [chk_bad HC.out hl2 hlt (by rw [HO.out]; unfold opOk; simp only; omega)]), H5.out.2.trans (HW8.out.2.2.mono H5.out.2.size)⟩
                  · have dn2 : decide (c.W ≤ ip) = false := decide_eq_false n2
                    by_cases n4 : iv = 0
                    · have dn4 : decide (iv = 0) = true := decide_eq_true n4
                      go_wp2_with fail
                      go_roundg (gk - 1)
                      case measure => omega
                      case rel => exact ⟨i + 1, by omega, by go_num, all_snoc HA1.out (fun h => by rw [HO.out]; unfold opOk; first | (simp only; omega) | (simp; omega)), HW8.out.2.2⟩
                    · have dn4 : decide (iv = 0) = false := decide_eq_false n4
                      go_wp2_with fail
                      all_goals go_ret
                      all_goals exact ⟨ret_int (by rw [chk_bad HC.out hl2 hlt (by rw [HO.out]; unfold opOk; simp only; omega)]), H5.out.2.trans (HW8.out.2.2.mono H5.out.2.size)⟩
              · subst hk
                by_cases n1 : ip < 0
                · have dn1 : decide (ip < 0) = true := decide_eq_true n1
                  go_wp2_with fail
                  all_goals go_ret
                  all_goals exact ⟨ret_int (by rw [chk_bad HC.out hl2 hlt (by rw [HO.out]; unfold opOk; simp only; omega)]), H5.out.2.trans (HW8.out.2.2.mono H5.out.2.size)⟩
                · have dn1 : decide (ip < 0) = false := decide_eq_false n1
                  by_cases n2 : c.W ≤ ip
                  · have dn2 : decide (c.W ≤ ip) = true := decide_eq_true n2
                    go_wp2_with fail
                    all_goals go_ret
                    all_goals exact ⟨ret_int (by rw [chk_bad HC.out hl2 hlt (by rw [HO.out]; unfold opOk; simp only; omega)]), H5.out.2.trans (HW8.out.2.2.mono H5.out.2.size)⟩
                  · have dn2 : decide (c.W ≤ ip) = false := decide_eq_false n2
                    go_wp2_with fail
                    go_roundg (gk - 1)
                    case measure => omega
                    case rel => exact ⟨i + 1, by omega, by go_num, all_snoc HA1.out (fun h => by rw [HO.out]; unfold opOk; first | (simp only; omega) | (simp; omega)), HW8.out.2.2⟩
              · subst hk
                by_cases n3 : ip = 0
                · have dn3 : decide (ip = 0) = true := decide_eq_true n3
                  by_cases n4 : iv = 0
                  · have dn4 : decide (iv = 0) = true := decide_eq_true n4
                    go_wp2_with fail
                    go_roundg (gk - 1)
                    case measure => omega
                    case rel => exact ⟨i + 1, by omega, by go_num, all_snoc HA1.out (fun h => by rw [HO.out]; unfold opOk; first | (simp only; omega) | (simp; omega)), HW8.out.2.2⟩
                  · have dn4 : decide (iv = 0) = false := decide_eq_false n4
                    go_wp2_with fail
                    all_goals go_ret
                    all_goals exact ⟨ret_int (by rw [chk_bad HC.out hl2 hlt (by rw [HO.out]; unfold opOk; simp only; omega)]), H5.out.2.trans (HW8.out.2.2.mono H5.out.2.size)⟩
                · have dn3 : decide (ip = 0) = false := decide_eq_false n3
                  go_wp2_with fail
                  all_goals go_ret
                  all_goals exact ⟨ret_int (by rw [chk_bad HC.out hl2 hlt (by rw [HO.out]; unfold opOk; simp only; omega)]), H5.out.2.trans (HW8.out.2.2.mono H5.out.2.size)⟩
              · subst hk
                by_cases n3 : ip = 0
                · have dn3 : decide (ip = 0) = true := decide_eq_true n3
                  by_cases n4 : iv = 0
                  · have dn4 : decide (iv = 0) = true := decide_eq_true n4
                    go_wp2_with fail
                    go_roundg (gk - 1)
                    case measure => omega
                    case rel => exact ⟨i + 1, by omega, by go_num, all_snoc HA1.out (fun h => by rw [HO.out]; unfold opOk; first | (simp only; omega) | (simp; omega)), HW8.out.2.2⟩
                  · have dn4 : decide (iv = 0) = false := decide_eq_false n4
                    go_wp2_with fail
                    all_goals go_ret
                    all_goals exact ⟨ret_int (by rw [chk_bad HC.out hl2 hlt (by rw [HO.out]; unfold opOk; simp only; omega)]), H5.out.2.trans (HW8.out.2.2.mono H5.out.2.size)⟩
                · have dn3 : decide (ip = 0) = false := decide_eq_false n3
                  go_wp2_with fail
                  all_goals go_ret
                  all_goals exact ⟨ret_int (by rw [chk_bad HC.out hl2 hlt (by rw [HO.out]; unfold opOk; simp only; omega)]), H5.out.2.trans (HW8.out.2.2.mono H5.out.2.size)⟩
  · have he : cfE c = 4 := if_neg hok
    rw [he] at HR
    have HO := Lib.hid hok
    clear hok he
    go_wp2_with ((with_reducible refine (HR.out).mono ?_); rintro e w5 ⟨rfl, hb5⟩; have HB5 := Lib.hid (HW.out.2.2.trans (hb5.mono HW.out.2.2.size)); clear hb5)
    go_ret
    exact ⟨ret_int (by unfold chkF; rw [if_pos HO.out]), HB5.out⟩
end Go.Proofs.Ytggidakiflnhhaa
