import Derived.Test.YthccnaemocdcbaaAA
namespace Go.Proofs.Ythccnaemocdcbaa
open Go.RowKit
set_option maxHeartbeats 4000000
set_option maxRecDepth 100000
set_option linter.unusedSimpArgs false
set_option linter.unusedVariables false

abbrev enc16 (x : Int) : List Value := [.int .i16 x]
theorem Rd.i16 {w : World} {A : Option Addr} {xs : List Int} (h : Rd enc16 1 w A xs) (k : Nat) (hk : k < xs.length) : ∃ a, A = some a ∧ w.cell? (a.add k) = some (.int .i16 xs[k]) := by
  obtain ⟨a, ha, hc⟩ := h.cell k hk
  exact ⟨a, ha, by simpa using hc 0 _ rfl⟩
theorem linear_early (lm lv lu cm cv cu : Nat) (hlm : lm ≤ maxLen) (hlv : lv ≤ maxLen) (hlu : lu ≤ maxLen) (h : 60 < lm ∨ 40 < lv ∨ lv ≠ lu) (k : Int) (A V U : Option Addr) (w : World) :
    Calls Try.prog 6 #[.slice A lm cm, .slice V lv cv, .slice U lu cu, .int .i8 k] w fun e w' => e = .returned (.bool true) ∧ Below w.heap.size w w' := by
  have ha := fun w => awake_calls w
  have HA := Lib.hid ha
  clear ha
  unfold maxLen at *
  by_cases h1 : 60 < lm
  · have hd1 : decide (60 < lm) = true := decide_eq_true h1
    go_enter Try.func6, Try.ntmps6
    go_wp2_with ((with_reducible refine (HA.out _).mono ?_); rintro e w1 ⟨rfl, hb1⟩)
    go_ret
    exact ⟨rfl, hb1⟩
  · have hd1 : decide (60 < lm) = false := decide_eq_false h1
    by_cases h2 : 40 < lv
    · have hd2 : decide (40 < lv) = true := decide_eq_true h2
      go_enter Try.func6, Try.ntmps6
      go_wp2_with ((with_reducible refine (HA.out _).mono ?_); rintro e w1 ⟨rfl, hb1⟩)
      go_ret
      exact ⟨rfl, hb1⟩
    · have hd2 : decide (40 < lv) = false := decide_eq_false h2
      have h3 : lv ≠ lu := by omega
      have hd3 : decide (lv = lu) = false := decide_eq_false h3
      have hd4 : ((lv : Int) != (lu : Int)) = true := by simpa using (show ¬ ((lv : Int) = (lu : Int)) by omega)
      go_enter Try.func6, Try.ntmps6
      go_wp2_with ((with_reducible refine (HA.out _).mono ?_); rintro e w1 ⟨rfl, hb1⟩)
      go_ret
      exact ⟨rfl, hb1⟩
theorem linear_calls (m : List En) (v u : List Int) (k : Int) (hk : -128 ≤ k ∧ k ≤ 127) (hv16 : ∀ x ∈ v, -32768 ≤ x ∧ x ≤ 32767) (hu16 : ∀ x ∈ u, -32768 ≤ x ∧ x ≤ 32767) (hm : m.length ≤ 60) (hv : v.length ≤ 40) (hu : v.length = u.length)
    (A V U : Option Addr) (cm cv cu : Nat) (w : World) (hA : Rd encN 3 w A m) (hV : Rd enc16 1 w V v) (hU : Rd enc16 1 w U u) :
    Calls Try.prog 6 #[.slice A m.length cm, .slice V v.length cv, .slice U u.length cu, .int .i8 k] w fun e w' => e = .returned (.bool true) ∧ Below w.heap.size w w' := by
  rw [← hu]
  obtain ⟨n, hn⟩ : ∃ n, v.length = n := ⟨_, rfl⟩
  rw [hn]
  have HI := Lib.hid (And.intro hA (And.intro hV (And.intro hU (And.intro hv16 (And.intro hu16 (And.intro hn hu))))))
  have hn40 : n ≤ 40 := by omega
  clear hA hV hU hv16 hu16 hn hu hv
  go_enter Try.func6, Try.ntmps6
  go_wp2_with fail
  go_loopg [9, 10, 11, 12, 13, 14, 45, 46, 47, 48, 49, 50, 51, 52, 53, 54, 55, 56, 57, 58, 59, 60, 61, 62, 63, 64, 65, 66, 67, 68, 69, 70, 71, 72, 73, 74, 75, 76, 77, 78, 79] n (fun gk v9 v10 v11 v12 v13 v14 v45 v46 v47 v48 v49 v50 v51 v52 v53 v54 v55 v56 v57 v58 v59 v60 v61 v62 v63 v64 v65 v66 v67 v68 v69 v70 v71 v72 v73 v74 v75 v76 v77 v78 v79 wr => ∃ i : Nat, i + gk = n ∧ v12 = .int .i64 (i : Int) ∧ ∃ a1 c1 a2 c2 a3 c3, v9 = .slice a1 i c1 ∧ v10 = .slice a2 i c2 ∧ v11 = .slice a3 i c3 ∧ T3 w wr (.slice a1 i c1) (.slice a2 i c2) (.slice a3 i c3) (aL (v.take i)) (aL (u.take i)) (cL v u k i))
  case atStart => exact ⟨0, by omega, rfl, none, 0, none, 0, none, 0, rfl, rfl, rfl, T3.nil w⟩
  case round =>
    obtain ⟨i, hi, rfl, a1, c1, a2, c2, a3, c3, rfl, rfl, rfl, ht⟩ := hrel
    by_cases hil : i < n
    · have hd : decide (i < n) = true := decide_eq_true hil
      have hiv : i < v.length := by rw [HI.out.2.2.2.2.2.1]; exact hil
      have hiu : i < u.length := by rw [← HI.out.2.2.2.2.2.2, HI.out.2.2.2.2.2.1]; exact hil
      obtain ⟨b1, rfl, q1⟩ := (HI.out.2.1.below ht.low).i16 i hiv
      obtain ⟨b2, rfl, q2⟩ := (HI.out.2.2.1.below ht.low).i16 i hiu
      have hx16 := HI.out.2.2.2.1 _ (List.getElem_mem hiv)
      have hy16 := HI.out.2.2.2.2.1 _ (List.getElem_mem hiu)
      have hsx := tmod_small v[i]
      have hsy := tmod_small u[i]
      have hsky := mul_small k _ hk hsy
      have e1 := take_aL v i hiv
      have e2 := take_aL u i hiu
      have e3 := cL_succ v u k i hiv hiu
      generalize v[i] = x at *
      generalize u[i] = y at *
      obtain ⟨x1, hx1⟩ : ∃ x1, x.tmod 1001 = x1 := ⟨_, rfl⟩
      obtain ⟨y1, hy1⟩ : ∃ y1, y.tmod 1001 = y1 := ⟨_, rfl⟩
      rw [hx1] at hsx e1 e3
      rw [hy1] at hsy hsky e2 e3
      obtain ⟨ky, hky⟩ : ∃ ky, k * y1 = ky := ⟨_, rfl⟩
      rw [hky] at hsky e3
      have HT := Lib.hid (And.intro ht (And.intro e1 (And.intro e2 e3)))
      clear ht e1 e2 e3
      go_upto_region 7 with fail
      go_quiet (fail)
      go_upto_region 8 with fail
      obtain ⟨W0, hW0⟩ : ∃ W0, wr.drewN nq = W0 := ⟨_, rfl⟩
      have t0 : T3 w W0 _ _ _ _ _ _ := HT.out.1.rest (by rw [← hW0]; exact drewN_below (Below.refl _ _) nq)
      have T0 := Lib.hid t0
      rw [hW0]
      have hx1i : x1 + ky = x1 + ky := rfl
      obtain ⟨z1, hz1⟩ : ∃ z1, x1 + ky = z1 := ⟨_, rfl⟩
      have hw1 : wrap64 ky = ky := wrap64_fit _ (by omega)
      have hw2 : wrap64 z1 = z1 := wrap64_fit _ (by omega)
      have HZ := Lib.hid hz1
      have HL := Lib.hid (And.intro (show (aL (v.take i)).length = i by rw [aL_len, List.length_take]; omega) (And.intro (show (aL (u.take i)).length = i by rw [aL_len, List.length_take]; omega) (And.intro (cL_len v u k i) (show (i + 1) * 8 ≤ 140737488355328 by omega))))
      clear hW0 t0 hx1i
      go_wp2_with (first | (at_builtin; refine wpList_append_told lenI oneI _ rfl (.tmp 63) (.tmp 65) 44 rfl w.heap.size 3 (.int .i64 0) 8 Try.underlying44 info3 rfl (by decide) (by decide) _ _ i HL.out.1 rfl (Own.rest T0.out.oa ((Below.refl _ _).alloc (Nat.le_refl _) _)) ⟨W0.heap.size, 0, none⟩ 1 1 [x1] rfl rfl (by decide) (rd_litI _ _ _ _ rfl) HL.out.2.2.2 (Nat.le_trans T0.out.low.size (by simp)) ?_; intro g1 cap1 w1 hown hgr hl; have T1 := Lib.hid (T3.rot (T3.push (T3.rest T0.out ((Below.refl _ _).alloc (Nat.le_refl _) _)) hown hgr hl)); clear hown hgr hl) | (at_builtin; refine wpList_append_told lenI oneI _ rfl (.tmp 67) (.tmp 69) 44 rfl w.heap.size 3 (.int .i64 0) 8 Try.underlying44 info3 rfl (by decide) (by decide) _ _ i HL.out.2.1 rfl (Own.rest T1.out.oa ((Below.refl _ _).alloc (Nat.le_refl _) _)) ⟨w1.heap.size, 0, none⟩ 1 1 [y1] rfl rfl (by decide) (rd_litI _ _ _ _ rfl) HL.out.2.2.2 (Nat.le_trans T1.out.low.size (by simp)) ?_; intro g2 cap2 w2 hown hgr hl; have T2 := Lib.hid (T3.rot (T3.push (T3.rest T1.out ((Below.refl _ _).alloc (Nat.le_refl _) _)) hown hgr hl)); clear hown hgr hl) | (at_builtin; refine wpList_append_told lenI oneI _ rfl (.tmp 71) (.tmp 78) 44 rfl w.heap.size 3 (.int .i64 0) 8 Try.underlying44 info3 rfl (by decide) (by decide) _ _ i HL.out.2.2.1 rfl (Own.rest T2.out.oa ((Below.refl _ _).alloc (Nat.le_refl _) _)) ⟨w2.heap.size, 0, none⟩ 1 1 [z1] rfl rfl (by decide) (rd_litI _ _ _ _ rfl) HL.out.2.2.2 (Nat.le_trans T2.out.low.size (by simp)) ?_; intro g3 cap3 w3 hown hgr hl; have T3x := Lib.hid (T3.rot (T3.push (T3.rest T2.out ((Below.refl _ _).alloc (Nat.le_refl _) _)) hown hgr hl)); clear hown hgr hl))
      go_roundg (gk - 1)
      case measure => omega
      case rel =>
        refine ⟨i + 1, by omega, by go_num, _, _, _, _, _, _, rfl, rfl, rfl, ?_⟩
        rw [HT.out.2.1, HT.out.2.2.1, HT.out.2.2.2, HZ.out]
        exact T3x.out
    · have hd : decide (i < n) = false := decide_eq_false hil
      obtain rfl : i = n := by omega
      have hvl := HI.out.2.2.2.2.2.1
      have hul := HI.out.2.2.2.2.2.2
      rw [List.take_of_length_le (by omega), List.take_of_length_le (by omega)] at ht
      obtain ⟨hA1, k1, e1, hr1⟩ := ht.oa.rd lenI
      obtain ⟨hA2, k2, e2, hr2⟩ := ht.ob.rd lenI
      obtain ⟨hA3, k3, e3, hr3⟩ := ht.oc.rd lenI
      obtain ⟨rfl, hz1, rfl⟩ := Value.slice.inj e1
      clear hz1
      obtain ⟨rfl, hz2, rfl⟩ := Value.slice.inj e2
      clear hz2
      obtain ⟨rfl, hz3, rfl⟩ := Value.slice.inj e3
      clear hz3
      have l1 : (aL v).length = i := by rw [aL_len, hvl]
      have l2 : (aL u).length = i := by rw [aL_len, ← hul, hvl]
      have l3 : (cL v u k i).length = i := cL_len v u k i
      have hent := fun w' (hb : Below w.heap.size w w') => entries_calls A m cm w' (HI.out.1.below hb) (by omega)
      have p1 := fun w' A' c (hb : Below wr.heap.size wr w') (h : Rd encN 3 w' A' m) => product_calls 20 3 m (aL v) A' a1 c c1 w' h (hr1.below hb)
      have p2 := fun w' A' c (hb : Below wr.heap.size wr w') (h : Rd encN 3 w' A' m) => product_calls 20 1 m (aL u) A' a2 c c2 w' h (hr2.below hb)
      have p3 := fun w' A' c (hb : Below wr.heap.size wr w') (h : Rd encN 3 w' A' m) => product_calls 20 16 m (cL v u k i) A' a3 c c3 w' h (hr3.below hb)
      have hpre := fun w' (hb : Below wr.heap.size wr w') => prefix_calls (aL v) a1 c1 w' (hr1.below hb)
      have c1' := linC_eq m (aL v) 3 hm (by omega) (fun x hx => by have := aL_small v x hx; omega) (by decide)
      have c2' := linC_eq m (aL u) 1 hm (by omega) (fun x hx => by have := aL_small u x hx; omega) (by decide)
      have c3' := linC_eq m (cL v u k i) 16 hm (by omega) (fun x hx => by have := cL_small v u k hk i x hx; omega) (by decide)
      unfold prodO at p1 p2 p3
      rw [l1] at c1' p1 hpre
      rw [l2] at c2' p2
      rw [l3] at c3' p3
      simp only [c1'] at p1
      simp only [c2'] at p2
      simp only [c3'] at p3
      change ∀ w' A' c, _ → _ → Calls Try.prog 15 _ w' (ProdPost (linO m (aL v) i) (prodT 20 m (aL v) 3) (linC i m) w') at p1
      change ∀ w' A' c, _ → _ → Calls Try.prog 15 _ w' (ProdPost (linO m (aL u) i) (prodT 20 m (aL u) 1) (linC i m) w') at p2
      change ∀ w' A' c, _ → _ → Calls Try.prog 15 _ w' (ProdPost (linO m (cL v u k i) i) (prodT 20 m (cL v u k i) 16) (linC i m) w') at p3
      obtain ⟨L, hL20, x1, x2, x3, hlaw⟩ := lin_law m v u k hk i hvl (by omega) hn40 hm
      have hpc : preC (aL v) = 0 := by
        unfold preC
        rw [if_neg (by omega), if_neg]
        rw [Bool.not_eq_true, List.any_eq_false]
        intro x hx
        have := aL_small v x hx
        simp [wI]
        omega
      unfold preO preK at hpre
      simp only [hpc, if_true] at hpre
      have HE := Lib.hid hent
      have HP1 := Lib.hid p1
      have HP2 := Lib.hid p2
      have HP3 := Lib.hid p3
      have HPR := Lib.hid hpre
      have HLW := Lib.hid (And.intro ht.low (And.intro x1 (And.intro x2 (And.intro x3 (And.intro hlaw (And.intro hr1 l1))))))
      clear hent p1 p2 p3 hpre ht x1 x2 x3 hlaw hr1 hr2 hr3 l1 l2 l3 c1' c2' c3' hpc hvl hul e1 e2 e3
      generalize linC i m = code at *
      generalize linO m (aL v) i = X at *
      generalize linO m (aL u) i = Y at *
      generalize linO m (cL v u k i) i = Z at *
      generalize prodT 20 m (aL v) 3 = tx at *
      generalize prodT 20 m (aL u) 1 = ty at *
      generalize prodT 20 m (cL v u k i) 16 = tz at *
      go_upto_region 9 with fail
      go_wp2_with fail
      (with_reducible refine (HE.out wr HLW.out.1).mono ?_); rintro e w1 ⟨v1, rfl, hown1, hb1⟩
      obtain ⟨A1, k1, rfl, hr1⟩ := hown1.rd lenN
      have H1 := Lib.hid (And.intro hr1 hb1)
      clear hown1 hr1 hb1
      go_wp2_with fail
      (with_reducible refine (HP1.out w1 A1 k1 H1.out.2 H1.out.1).mono ?_); rintro e w2 ⟨vo1, vf1, rfl, o1, o1', hb2⟩
      obtain ⟨B1, j1, rfl, r1⟩ := o1.rd lenI
      have H2 := Lib.hid (And.intro r1 (H1.out.2.trans (hb2.mono H1.out.2.size)))
      clear o1 o1' r1 hb2
      go_wp2_with fail
      (with_reducible refine (HE.out w2 (HLW.out.1.trans (H2.out.2.mono HLW.out.1.size))).mono ?_); rintro e w3 ⟨v1, rfl, hown1, hb1⟩
      obtain ⟨A2, k2, rfl, hr1⟩ := hown1.rd lenN
      have H3 := Lib.hid (And.intro hr1 (And.intro (H2.out.2.trans (hb1.mono H2.out.2.size)) (H2.out.1.below hb1)))
      clear hown1 hr1 hb1 H2 H1
      go_wp2_with fail
      (with_reducible refine (HP2.out w3 A2 k2 H3.out.2.1 H3.out.1).mono ?_); rintro e w4 ⟨vo2, vf2, rfl, o1, o1', hb2⟩
      obtain ⟨B2, j2, rfl, r1⟩ := o1.rd lenI
      have H4 := Lib.hid (And.intro r1 (And.intro (H3.out.2.1.trans (hb2.mono H3.out.2.1.size)) (H3.out.2.2.below hb2)))
      clear o1 o1' r1 hb2
      go_wp2_with fail
      (with_reducible refine (HE.out w4 (HLW.out.1.trans (H4.out.2.1.mono HLW.out.1.size))).mono ?_); rintro e w5 ⟨v1, rfl, hown1, hb1⟩
      obtain ⟨A3, k3, rfl, hr1⟩ := hown1.rd lenN
      have H5 := Lib.hid (And.intro hr1 (And.intro (H4.out.2.1.trans (hb1.mono H4.out.2.1.size)) (And.intro (H4.out.2.2.below hb1) (H4.out.1.below hb1))))
      clear hown1 hr1 hb1 H4 H3
      go_wp2_with fail
      (with_reducible refine (HP3.out w5 A3 k3 H5.out.2.1 H5.out.1).mono ?_); rintro e w6 ⟨vo3, vf3, rfl, o1, o1', hb2⟩
      obtain ⟨B3, j3, rfl, r1⟩ := o1.rd lenI
      have H6 := Lib.hid (And.intro r1 (And.intro (H5.out.2.1.trans (hb2.mono H5.out.2.1.size)) (And.intro (H5.out.2.2.1.below hb2) (H5.out.2.2.2.below hb2))))
      clear o1 o1' r1 hb2 H5
      rw [HLW.out.2.1, HLW.out.2.2.1, HLW.out.2.2.2.1]
      go_wp2_with fail
      go_loopg [24, 126, 127, 128, 129, 130, 131, 132, 133, 134, 135, 136, 137, 138, 139, 140, 141, 142, 143, 144, 145, 146, 147, 148] L (fun gk v24 v126 v127 v128 v129 v130 v131 v132 v133 v134 v135 v136 v137 v138 v139 v140 v141 v142 v143 v144 v145 v146 v147 v148 wx => ∃ j : Nat, j + gk = L ∧ v24 = .int .i64 (j : Int) ∧ Below w6.heap.size w6 wx)
      case atStart => exact ⟨0, by omega, rfl, Below.refl _ _⟩
      case round =>
        obtain ⟨j, hj, rfl, hbx⟩ := hrel
        by_cases hjl : j < L
        · have hd3 : decide (j < L) = true := decide_eq_true hjl
          have y1 : j < X.length := by rw [HLW.out.2.1]; exact hjl
          have y2 : j < Y.length := by rw [HLW.out.2.2.1]; exact hjl
          have y3 : j < Z.length := by rw [HLW.out.2.2.2.1]; exact hjl
          obtain ⟨b1, rfl, q1⟩ := (H6.out.2.2.1.below hbx).int j y1
          obtain ⟨b2, rfl, q2⟩ := (H6.out.2.2.2.below hbx).int j y2
          obtain ⟨b3, rfl, q3⟩ := (H6.out.1.below hbx).int j y3
          obtain ⟨l1, l2, l3⟩ := HLW.out.2.2.2.2.1 j y1 y2 y3
          have HBX := Lib.hid hbx
          generalize X[j] = x at *
          generalize Y[j] = y at *
          generalize Z[j] = z at *
          have hky : -12800000000000000 ≤ k * y ∧ k * y ≤ 12800000000000000 := by
            have h : (k * y).natAbs ≤ 128 * 100000000000000 := by
              rw [Int.natAbs_mul]
              exact Nat.mul_le_mul (by omega) (by omega)
            omega
          obtain ⟨ky, hky'⟩ : ∃ ky, k * y = ky := ⟨_, rfl⟩
          rw [hky'] at l1 hky
          have w1' : wrap64 ky = ky := wrap64_fit _ (by omega)
          have w2' : wrap64 z = z := wrap64_fit _ (by omega)
          have w3' : IntKind.i64.wrap ky = ky := by rw [IntKind.wrap_i64]; omega
          have w4' : IntKind.i64.wrap z = z := by rw [IntKind.wrap_i64]; omega
          clear hbx l2 l3 hky y1 y2 y3
          go_upto_region 17 with fail
          go_quiet (fail)
          go_wp2_with fail
          go_roundg (gk - 1)
          case measure => omega
          case rel => exact ⟨j + 1, by omega, by go_num, drewN_below HBX.out nq⟩
        · have hd3 : decide (j < L) = false := decide_eq_false hjl
          have hbb := H6.out.2.1.trans (hbx.mono H6.out.2.1.size)
          have hlow := HLW.out.1.trans (hbb.mono HLW.out.1.size)
          have h7 := HPR.out _ hbb
          have H7 := Lib.hid h7
          have HB7 := Lib.hid (And.intro hlow (HLW.out.2.2.2.2.2.1.below hbb))
          have ha := fun w => awake_calls w
          have HAW := Lib.hid ha
          clear hbx hbb h7 hlow ha
          go_upto_region 19 with fail
          go_wp2_with fail
          (with_reducible refine (H7.out).mono ?_); rintro e w7 ⟨vo, rfl, o1, hb7⟩
          obtain ⟨B4, j4, rfl, r4⟩ := o1.rd lenI
          rw [sums_len, HLW.out.2.2.2.2.2.2]
          have hb8 := HB7.out.1.trans (hb7.mono HB7.out.1.size)
          have H8 := Lib.hid (And.intro r4 (And.intro hb8 (HB7.out.2.below hb7)))
          clear o1 r4 hb7 hb8
          go_wp2_with fail
          go_loopg [8, 27, 28, 164, 165, 166, 167, 168, 169, 170, 171, 172, 173, 174, 175, 176, 177, 178, 179, 180, 181, 182, 183, 184] i (fun gk v8 v27 v28 v164 v165 v166 v167 v168 v169 v170 v171 v172 v173 v174 v175 v176 v177 v178 v179 v180 v181 v182 v183 v184 wx => ∃ j : Nat, j + gk = i ∧ v28 = .int .i64 (j : Int) ∧ v27 = .int .i64 (pre (aL v) j) ∧ Below w7.heap.size w7 wx)
          case atStart => exact ⟨0, by omega, rfl, by rw [pre_zero], Below.refl _ _⟩
          case round =>
            obtain ⟨j, hj, rfl, rfl, hbx⟩ := hrel
            by_cases hji : j < i
            · have hd3 : decide (j < i) = true := decide_eq_true hji
              have hja : j < (aL v).length := by rw [HLW.out.2.2.2.2.2.2]; exact hji
              have hjs : j < (sums (aL v)).length := by rw [sums_len]; exact hja
              obtain ⟨b1, rfl, q1⟩ := (H8.out.2.2.below hbx).int j hja
              obtain ⟨b4, rfl, q4⟩ := (H8.out.1.below hbx).int j hjs
              have hsj : (sums (aL v))[j] = pre (aL v) (j + 1) := by simp [sums]
              rw [hsj] at q4
              have hps := pre_succ (aL v) j hja
              have p1 := pre_bound (aL v) (fun x hx => by have := aL_small v x hx; omega) j
              have p2 := pre_bound (aL v) (fun x hx => by have := aL_small v x hx; omega) (j + 1)
              have hsa := aL_small v _ (List.getElem_mem hja)
              have HBX := Lib.hid hbx
              generalize (aL v)[j] = x at *
              generalize hy : pre (aL v) (j + 1) = y at *
              generalize pre (aL v) j = z at *
              have hd : y - z = x := by omega
              have w1' : wrap64 x = x := wrap64_fit _ (by omega)
              have w2' : IntKind.i64.wrap x = x := by rw [IntKind.wrap_i64]; omega
              have HY := Lib.hid hy
              clear hbx hja hjs hsj hps p1 p2 hsa hy
              go_upto_region 26 with fail
              go_quiet (fail)
              go_wp2_with fail
              go_roundg (gk - 1)
              case measure => omega
              case rel => exact ⟨j + 1, by omega, by go_num, by rw [HY.out], drewN_below HBX.out nq⟩
            · have hd3 : decide (j < i) = false := decide_eq_false hji
              have hfin := H8.out.2.1.trans (hbx.mono H8.out.2.1.size)
              have HF := Lib.hid hfin
              clear hbx hfin
              go_wp2_with ((with_reducible refine (HAW.out _).mono ?_); rintro e w9 ⟨rfl, hb9⟩)
              go_ret
              exact ⟨rfl, HF.out.trans (hb9.mono HF.out.size)⟩
end Go.Proofs.Ythccnaemocdcbaa
