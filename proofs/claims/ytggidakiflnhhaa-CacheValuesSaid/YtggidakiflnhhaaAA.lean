import Derived.Test.YtggidakiflnhhaaZ
import Derived.Test.YtggidakiflnhhaaU
namespace Go.Proofs.Ytggidakiflnhhaa
open Go.RowKit
set_option maxHeartbeats 16000000
set_option maxRecDepth 100000
set_option linter.unusedSimpArgs false
set_option linter.unusedVariables false

theorem cacheValues_calls (c : Cf) (l : List Op) (A : Option Addr) (cp : Nat) (w : World) (hA : Rd encP 4 w A l) (hbd : l.length * 32 ≤ 140737488351232) :
    Calls Try.prog 3 #[c.val, .slice A l.length cp] w fun e w' => e = .returned (.bool true) ∧ Below w.heap.size w w' := by
  have hsm := hA.small
  obtain ⟨W1, hW1⟩ : ∃ W1, w.alloc (.cells c.cells 23) = W1 := ⟨_, rfl⟩
  have hb1 : Below w.heap.size w W1 := by rw [← hW1]; exact (Below.refl _ w).alloc (Nat.le_refl _) _
  have hx1 : W1.heap[w.heap.size]? = some (.cells c.cells 23 (0, 0)) := by rw [← hW1]; exact Go.heap_alloc_new w _
  obtain ⟨bx, hbx⟩ : ∃ b, w.heap.size = b := ⟨_, rfl⟩
  rw [hbx] at hx1
  have z0 : W1.cell? ⟨bx, 0, none⟩ = some (.int .i64 c.L) := by rw [cell_of_row _ _ _ _ _ _ hx1]; rfl
  have z1 : W1.cell? ⟨bx, 1, none⟩ = some (.int .i64 c.W) := by rw [cell_of_row _ _ _ _ _ _ hx1]; rfl
  have z2 : W1.cell? ⟨bx, 2, none⟩ = some (.int .i64 c.N) := by rw [cell_of_row _ _ _ _ _ _ hx1]; rfl
  have z3 : W1.cell? ⟨bx, 3, none⟩ = some (.int .i64 c.H) := by rw [cell_of_row _ _ _ _ _ _ hx1]; rfl
  have HCF := Lib.hid (fun w => config_calls c w)
  have HAW := Lib.hid (fun w => awake_calls w)
  have HA := Lib.hid (And.intro hA hbd)
  have HW := Lib.hid (And.intro hW1 (And.intro hbx (And.intro hb1 hx1)))
  clear hA hbd hW1 hbx hb1 hx1
  go_enter Try.func3, Try.ntmps3
  go_upto_region 1 with fail
  rw [HW.out.1]
  try rw [HW.out.2.1]
  go_wp2_with fail
  (with_reducible refine (HCF.out _).mono ?_); rintro e w2 ⟨rfl, hb2⟩
  have hlo2 := HW.out.2.2.1.trans (hb2.mono HW.out.2.2.1.size)
  have HO := Lib.hid (ops_copy l A cp w2 (HA.out.1.below hlo2) HA.out.2)
  have H2 := Lib.hid (And.intro hlo2 ((hb2.block _ (blk_lt HW.out.2.2.2)).trans HW.out.2.2.2))
  clear hb2 hlo2 z0 z1 z2 z3
  go_wp2_with fail
  (with_reducible refine (HO.out).mono ?_); rintro e w3 ⟨v, rfl, hown, hb3⟩
  obtain ⟨C, cp3, rfl, hbc, hrd, _⟩ := hown.form lenP
  obtain ⟨W4, hW4⟩ : ∃ W4, w3.alloc (.cells c.cells 25) = W4 := ⟨_, rfl⟩
  have hb4 : Below w3.heap.size w3 W4 := by rw [← hW4]; exact (Below.refl _ _).alloc (Nat.le_refl _) _
  have hx4 : W4.heap[w3.heap.size]? = some (.cells c.cells 25 (0, 0)) := by rw [← hW4]; exact Go.heap_alloc_new w3 _
  have hlo4 := H2.out.1.trans ((hb3.trans (hb4.mono hb3.size)).mono H2.out.1.size)
  have hy4 := ((hb3.trans (hb4.mono hb3.size)).block _ (blk_lt H2.out.2)).trans H2.out.2
  have hrd4 := hrd.below hb4
  obtain ⟨by4, hby4⟩ : ∃ b, w3.heap.size = b := ⟨_, rfl⟩
  rw [hby4] at hx4
  have k0 : W4.cell? ⟨by4, 0, none⟩ = some (.int .i64 c.L) := by rw [cell_of_row _ _ _ _ _ _ hx4]; rfl
  have k1 : W4.cell? ⟨by4, 1, none⟩ = some (.int .i64 c.W) := by rw [cell_of_row _ _ _ _ _ _ hx4]; rfl
  have k2 : W4.cell? ⟨by4, 2, none⟩ = some (.int .i64 c.N) := by rw [cell_of_row _ _ _ _ _ _ hx4]; rfl
  have k3 : W4.cell? ⟨by4, 3, none⟩ = some (.int .i64 c.H) := by rw [cell_of_row _ _ _ _ _ _ hx4]; rfl
  have H4 := Lib.hid (And.intro hlo4 (And.intro hx4 (And.intro hy4 (And.intro hrd4 (And.intro hW4 hby4)))))
  clear hown hb3 hbc hrd hW4 hb4 hx4 hlo4 hy4 hrd4 hby4
  go_upto_region 2 with fail
  rw [H4.out.2.2.2.2.1]
  try rw [H4.out.2.2.2.2.2]
  by_cases h1 : 100 < l.length
  · have d1 : decide (100 < l.length) = true := decide_eq_true h1
    have d2 : decide ((100 : Int) < (l.length : Int)) = true := decide_eq_true (by omega)
    go_wp2_with fail
    (with_reducible refine (HAW.out _).mono ?_); rintro e w5 ⟨rfl, hb5⟩
    have H5 := Lib.hid (H4.out.1.trans (hb5.mono H4.out.1.size))
    clear hb5
    go_wp2_with fail
    go_ret
    exact ⟨rfl, H5.out⟩
  · have d1 : decide (100 < l.length) = false := decide_eq_false h1
    have d2 : decide ((100 : Int) < (l.length : Int)) = false := decide_eq_false (by omega)
    have HCK := Lib.hid (check_calls c l C cp3 W4 H4.out.2.2.2.1)
    by_cases hk : chkF c l = 0
    rotate_left
    · have d3 : decide (chkF c l = 0) = false := decide_eq_false hk
      go_wp2_with fail
      (with_reducible refine (HCK.out).mono ?_); rintro e w5 ⟨rfl, hb5⟩
      have hlo5 := H4.out.1.trans (hb5.mono H4.out.1.size)
      have H5 := Lib.hid hlo5
      clear hb5 hlo5
      go_wp2_with fail
      (with_reducible refine (HAW.out _).mono ?_); rintro e w6 ⟨rfl, hb6⟩
      have H6 := Lib.hid (H5.out.trans (hb6.mono H5.out.size))
      clear hb6
      go_wp2_with fail
      go_ret
      exact ⟨rfl, H6.out⟩
    · rw [hk] at HCK
      have HK := Lib.hid hk
      obtain ⟨hcf, hops⟩ := chk_parts hk
      obtain ⟨o1, o2, o3, o4, o5, o6, o7, o8, o9⟩ := hcf
      clear hk hops
      go_wp2_with fail
      (with_reducible refine (HCK.out).mono ?_); rintro e w5 ⟨rfl, hb5⟩
      have hlo5 := H4.out.1.trans (hb5.mono H4.out.1.size)
      have hx5 := (hb5.block _ (blk_lt H4.out.2.1)).trans H4.out.2.1
      have hy5 := (hb5.block _ (blk_lt H4.out.2.2.1)).trans H4.out.2.2.1
      have hrd5 := H4.out.2.2.2.1.below hb5
      have q0 : w5.cell? ⟨by4, 0, none⟩ = some (.int .i64 c.L) := by rw [cell_of_row _ _ _ _ _ _ hx5]; rfl
      have q1 : w5.cell? ⟨by4, 1, none⟩ = some (.int .i64 c.W) := by rw [cell_of_row _ _ _ _ _ _ hx5]; rfl
      have q2 : w5.cell? ⟨by4, 2, none⟩ = some (.int .i64 c.N) := by rw [cell_of_row _ _ _ _ _ _ hx5]; rfl
      have q3 : w5.cell? ⟨by4, 3, none⟩ = some (.int .i64 c.H) := by rw [cell_of_row _ _ _ _ _ _ hx5]; rfl
      have HR := Lib.hid (runS_calls c l HK.out C cp3 w5 hrd5)
      have H5 := Lib.hid (And.intro hlo5 (And.intro hy5 hrd5))
      clear hb5 hlo5 hx5 hy5 hrd5 k0 k1 k2 k3
      go_wp2_with fail
      (with_reducible refine (HR.out).mono ?_); rintro e w6 ⟨V, cV, M, rfl, hv, hm, hb6⟩
      have hml := run_mem HK.out
      have hvl := run_len HK.out
      have hct := count_law HK.out
      have hval := value_law HK.out
      obtain ⟨R, hR⟩ : ∃ R, runA c l = R := ⟨_, rfl⟩
      rw [hR] at hv hm hml hvl hct hval ⊢
      obtain ⟨W7, hW7⟩ : ∃ W7, w6.alloc (.cells #[.int .i64 (R.f : Int), .int .i64 (R.wr : Int), .int .i64 (R.h : Int)] 34) = W7 := ⟨_, rfl⟩
      have hb7 : Below w6.heap.size w6 W7 := by rw [← hW7]; exact (Below.refl _ _).alloc (Nat.le_refl _) _
      have hx7 : W7.heap[w6.heap.size]? = some (.cells #[.int .i64 (R.f : Int), .int .i64 (R.wr : Int), .int .i64 (R.h : Int)] 34 (0, 0)) := by rw [← hW7]; exact Go.heap_alloc_new _ _
      obtain ⟨bt, hbt⟩ : ∃ b, w6.heap.size = b := ⟨_, rfl⟩
      have hb57 := hb6.trans (hb7.mono hb6.size)
      have hlo7 := H5.out.1.trans (hb57.mono H5.out.1.size)
      have hy7 := (hb57.block _ (blk_lt H5.out.2.1)).trans H5.out.2.1
      have hrd7 := H5.out.2.2.below hb57
      have hv7 := hv.below hb7
      rw [hbt] at hx7
      have y1 : W7.cell? ⟨bx, 1, none⟩ = some (.int .i64 c.W) := by rw [cell_of_row _ _ _ _ _ _ hy7]; rfl
      have H7 := Lib.hid (And.intro hlo7 (And.intro hy7 (And.intro hrd7 (And.intro hv7 (And.intro hx7 (And.intro hW7 hbt))))))
      have HL := Lib.hid (And.intro hvl (And.intro hct hval))
      have dm : decide ((R.m.length : Int) = c.W) = true := decide_eq_true hml
      clear hv hm hb6 hR hW7 hb7 hx7 hbt hb57 hlo7 hy7 hrd7 hv7 hvl hct hval q0 q1 q2 q3 HR HCK
      go_upto_region 5 with fail
      rw [H7.out.2.2.2.2.2.1]
      try rw [H7.out.2.2.2.2.2.2]
      go_wp2_with fail
      clear y1
      go_loopg [4, 11, 12, 13, 14, 15, 16, 17, 18, 19, 51, 52, 53, 54, 55, 56, 57, 58, 59, 60, 61, 62, 63, 64, 65, 66, 67, 68, 69, 70, 71, 72, 73, 74, 75, 76, 77, 78, 79, 80, 81, 82, 83, 84, 85, 86, 87, 88, 89, 90, 91, 92, 93, 94, 95, 96, 97, 98, 99, 100, 101, 102, 103, 104, 105, 106, 107, 108, 109, 110, 111, 112, 113, 114, 115, 116, 117, 118, 119, 120, 121, 122, 123, 124, 125, 126, 127, 128, 129, 130, 131, 132, 133, 134, 135, 136, 137, 138, 139, 140, 141, 142, 143, 144, 145, 146, 147, 148, 149, 150, 151, 152] l.length (fun gk v4 v11 v12 v13 v14 v15 v16 v17 v18 v19 v51 v52 v53 v54 v55 v56 v57 v58 v59 v60 v61 v62 v63 v64 v65 v66 v67 v68 v69 v70 v71 v72 v73 v74 v75 v76 v77 v78 v79 v80 v81 v82 v83 v84 v85 v86 v87 v88 v89 v90 v91 v92 v93 v94 v95 v96 v97 v98 v99 v100 v101 v102 v103 v104 v105 v106 v107 v108 v109 v110 v111 v112 v113 v114 v115 v116 v117 v118 v119 v120 v121 v122 v123 v124 v125 v126 v127 v128 v129 v130 v131 v132 v133 v134 v135 v136 v137 v138 v139 v140 v141 v142 v143 v144 v145 v146 v147 v148 v149 v150 v151 v152 wr => ∃ i : Nat, i + gk = l.length ∧ v13 = .int .i64 (i : Int) ∧ v11 = .int .i64 (kdN 1 l i : Int) ∧ v12 = .int .i64 (kdN 2 l i : Int) ∧ Below W7.heap.size W7 wr)
      case atStart => exact ⟨0, by omega, rfl, rfl, rfl, Below.refl _ _⟩
      case round =>
        obtain ⟨i, hi, rfl, rfl, rfl, hb⟩ := hrel
        by_cases hlt : i < l.length
        · have hd : decide (i < l.length) = true := decide_eq_true hlt
          have hii : (i : Int) < (l.length : Int) := by omega
          obtain ⟨a, hCa, hca⟩ := (H7.out.2.2.1.below hb).cell i hlt
          subst hCa
          obtain ⟨⟨ia, ik, ip, iv⟩, hoe⟩ : ∃ o, l[i] = o := ⟨_, rfl⟩
          rw [hoe] at hca
          have x0 := hca 0 _ rfl
          have x1 := hca 1 _ rfl
          have x2 := hca 2 _ rfl
          have x3 := hca 3 _ rfl
          rw [Nat.add_zero] at x0
          rw [add_field _ _ _ (by decide)] at x1 x2 x3
          obtain ⟨W8, hW8⟩ : ∃ W8, wr.alloc (.cells #[.int .i64 ia, .int .i64 ik, .int .i64 ip, .int .i64 iv] 38) = W8 := ⟨_, rfl⟩
          have hb8 : Below wr.heap.size wr W8 := by rw [← hW8]; exact (Below.refl _ _).alloc (Nat.le_refl _) _
          have hx8 : W8.heap[wr.heap.size]? = some (.cells #[.int .i64 ia, .int .i64 ik, .int .i64 ip, .int .i64 iv] 38 (0, 0)) := by rw [← hW8]; exact Go.heap_alloc_new _ _
          obtain ⟨b8, hb8e⟩ : ∃ b, wr.heap.size = b := ⟨_, rfl⟩
          rw [hb8e] at hx8
          have hb78 := hb.trans (hb8.mono hb.size)
          have p0 : W8.cell? ⟨b8, 0, none⟩ = some (.int .i64 ia) := by rw [cell_of_row _ _ _ _ _ _ hx8]; rfl
          have p1 : W8.cell? ⟨b8, 1, none⟩ = some (.int .i64 ik) := by rw [cell_of_row _ _ _ _ _ _ hx8]; rfl
          have p2 : W8.cell? ⟨b8, 2, none⟩ = some (.int .i64 ip) := by rw [cell_of_row _ _ _ _ _ _ hx8]; rfl
          have HW8 := Lib.hid (And.intro hW8 (And.intro hb8e (And.intro hb78 hx8)))
          have hk1 := kdN_succ 1 l i hlt
          have hk2 := kdN_succ 2 l i hlt
          rw [hoe] at hk1 hk2
          simp only at hk1 hk2
          have hval := HL.out.2.2 i hlt
          rw [hoe] at hval
          simp only at hval
          have hn1 : kdN 1 l (i + 1) ≤ 100 := Nat.le_trans (kdN_le _ _ _) (by omega)
          have hn2 : kdN 2 l (i + 1) ≤ 100 := Nat.le_trans (kdN_le _ _ _) (by omega)
          have HV := Lib.hid (And.intro hk1 (And.intro hk2 (And.intro hval (And.intro hn1 (And.intro hn2 hoe)))))
          have m1 : kdN 1 l i ≤ 100 := Nat.le_trans (kdN_le _ _ _) (by omega)
          have m2 : kdN 2 l i ≤ 100 := Nat.le_trans (kdN_le _ _ _) (by omega)
          obtain ⟨g, hg⟩ : ∃ g, kdN 1 l i = g := ⟨_, rfl⟩
          obtain ⟨q, hq⟩ : ∃ g, kdN 2 l i = g := ⟨_, rfl⟩
          rw [hg] at m1 ⊢
          rw [hq] at m2 ⊢
          have HG := Lib.hid (And.intro hg hq)
          clear hb hca hoe hW8 hb8 hx8 hb8e hb78 hk1 hk2 hval hn1 hn2 hg hq
          go_upto_region 12 with fail
          rw [HW8.out.1]
          try rw [HW8.out.2.1]
          clear x0 x1 x2 x3
          rcases show ik = 1 ∨ ik = 2 ∨ (ik ≠ 1 ∧ ik ≠ 2) by omega with hik | hik | ⟨hik1, hik2⟩
          · subst hik
            obtain ⟨x, hx, hkn, hal⟩ := HV.out.2.2.1 rfl
            rw [HG.out.1] at hx
            obtain ⟨hgl, hxe⟩ := List.getElem?_eq_some_iff.1 hx
            obtain ⟨av, rfl, hcv⟩ := (H7.out.2.2.2.1.below HW8.out.2.2.1).int g hgl
            rw [hxe] at hcv
            have dg : decide (R.vs.length ≤ g) = false := decide_eq_false (by omega)
            have dg2 : decide ((R.vs.length : Int) ≤ (g : Int)) = false := decide_eq_false (by omega)
            have hgI : (g : Int) < (R.vs.length : Int) := by omega
            have HX := Lib.hid (And.intro hkn hal)
            clear hx hkn hal hxe
            go_upto_region 19 with fail
            clear hcv p0 p1 p2
            go_wp2_with fail
            go_loopg [16, 17, 18, 19, 81, 82, 83, 84, 85, 86, 87, 88, 89, 90, 91, 92, 93, 94, 95, 96, 97, 98, 99, 100, 101, 102, 103, 104, 105, 106, 107, 108, 109, 110, 111, 112, 113, 114, 115, 116, 117, 118, 119, 120, 121, 122, 123, 124, 125, 126, 127, 128, 129, 130, 131, 132, 133, 134, 135, 136, 137, 138, 139, 140, 141, 142] l.length (fun gk v16 v17 v18 v19 v81 v82 v83 v84 v85 v86 v87 v88 v89 v90 v91 v92 v93 v94 v95 v96 v97 v98 v99 v100 v101 v102 v103 v104 v105 v106 v107 v108 v109 v110 v111 v112 v113 v114 v115 v116 v117 v118 v119 v120 v121 v122 v123 v124 v125 v126 v127 v128 v129 v130 v131 v132 v133 v134 v135 v136 v137 v138 v139 v140 v141 v142 wr => ∃ j : Nat, j + gk = l.length ∧ v19 = .int .i64 (j : Int) ∧ v16 = .bool (inF l i x j).1 ∧ v17 = .bool (inF l i x j).2.1 ∧ v18 = .int .i64 (inF l i x j).2.2 ∧ Below W8.heap.size W8 wr)
            case atStart => exact ⟨0, by omega, rfl, rfl, rfl, rfl, Below.refl _ _⟩
            case round =>
              obtain ⟨j, hj, rfl, rfl, rfl, rfl, hbj⟩ := hrel
              by_cases hjt : j < l.length
              · have hdj : decide (j < l.length) = true := decide_eq_true hjt
                have hjj : (j : Int) < (l.length : Int) := by omega
                obtain ⟨a', hCa', hca⟩ := ((H7.out.2.2.1.below HW8.out.2.2.1).below hbj).cell j hjt
                obtain rfl := Option.some.inj hCa'
                obtain ⟨⟨ka, kk, kp, kv⟩, hko⟩ : ∃ o, l[j] = o := ⟨_, rfl⟩
                rw [hko] at hca
                have x0 := hca 0 _ rfl
                have x1 := hca 1 _ rfl
                have x2 := hca 2 _ rfl
                have x3 := hca 3 _ rfl
                rw [Nat.add_zero] at x0
                rw [add_field _ _ _ (by decide)] at x1 x2 x3
                have hpj := (hbj.block _ (blk_lt HW8.out.2.2.2)).trans HW8.out.2.2.2
                have p0 : wr.cell? ⟨b8, 0, none⟩ = some (.int .i64 ia) := by rw [cell_of_row _ _ _ _ _ _ hpj]; rfl
                have p2 : wr.cell? ⟨b8, 2, none⟩ = some (.int .i64 ip) := by rw [cell_of_row _ _ _ _ _ _ hpj]; rfl
                have hst : inF l i x (j + 1) = (if kp ≠ ip ∨ 2 < kk then inF l i x j else if kk = 2 then ((inF l i x j).1 || (decide (kv = x) && decide (j < i)), (inF l i x j).2.1 && decide (ka = ia), if j < i then kv else (inF l i x j).2.2) else ((inF l i x j).1, (inF l i x j).2.1 && decide (ka = ia), (inF l i x j).2.2)) := by
                  have h1 : inF l i x (j + 1) = inS l i x (inF l i x j) j := range_succ_foldl _ _ _
                  rw [h1]
                  unfold inS
                  rw [getD_op hlt, getD_op hjt, hko, HV.out.2.2.2.2.2]
                obtain ⟨⟨kn, al, la⟩, hF⟩ : ∃ F, inF l i x j = F := ⟨_, rfl⟩
                rw [hF] at hst ⊢
                simp only at hst ⊢
                have HST := Lib.hid hst
                have HBJ := Lib.hid hbj
                clear hst hF hca hko hbj hpj
                have close : True := trivial
                by_cases c1 : kp = ip
                rotate_left
                · have f1 : decide (kp = ip) = false := decide_eq_false c1
                  go_upto_region 23 with fail
                  go_quiet (fail)
                  go_wp2_with fail
                  go_roundg (gk - 1)
                  case measure => omega
                  case rel => exact ⟨j + 1, by omega, by go_num, by rw [HST.out, if_pos (Or.inl c1)]; try simp [*], by rw [HST.out, if_pos (Or.inl c1)]; try simp [*], by rw [HST.out, if_pos (Or.inl c1)]; try simp [*], by first | exact HBJ.out | exact drewN_below HBJ.out _⟩
                subst c1
                by_cases c2 : 2 < kk
                · have f2 : decide (2 < kk) = true := decide_eq_true c2
                  go_upto_region 23 with fail
                  go_quiet (fail)
                  go_wp2_with fail
                  go_roundg (gk - 1)
                  case measure => omega
                  case rel => exact ⟨j + 1, by omega, by go_num, by rw [HST.out, if_pos (Or.inr c2)]; try simp [*], by rw [HST.out, if_pos (Or.inr c2)]; try simp [*], by rw [HST.out, if_pos (Or.inr c2)]; try simp [*], by first | exact HBJ.out | exact drewN_below HBJ.out _⟩
                have f2 : decide (2 < kk) = false := decide_eq_false c2
                have c12 : ¬ (kp ≠ kp ∨ 2 < kk) := by omega
                by_cases c3 : ka = ia
                · have f3 : decide (ka = ia) = true := decide_eq_true c3
                  by_cases c4 : kk = 2
                  rotate_left
                  · have f4 : decide (kk = 2) = false := decide_eq_false c4
                    cases al
                    · skip
                      go_upto_region 23 with fail
                      go_quiet (fail)
                      go_upto_region 24 with fail
                      go_quiet (fail)
                      go_wp2_with fail
                      go_roundg (gk - 1)
                      case measure => omega
                      case rel => exact ⟨j + 1, by omega, by go_num, by rw [HST.out, if_neg c12, if_neg c4]; try simp [*], by rw [HST.out, if_neg c12, if_neg c4]; try simp [*], by rw [HST.out, if_neg c12, if_neg c4]; try simp [*], by first | exact HBJ.out | exact drewN_below HBJ.out _⟩
                    · skip
                      go_upto_region 23 with fail
                      go_quiet (fail)
                      go_upto_region 24 with fail
                      go_quiet (fail)
                      go_wp2_with fail
                      go_roundg (gk - 1)
                      case measure => omega
                      case rel => exact ⟨j + 1, by omega, by go_num, by rw [HST.out, if_neg c12, if_neg c4]; try simp [*], by rw [HST.out, if_neg c12, if_neg c4]; try simp [*], by rw [HST.out, if_neg c12, if_neg c4]; try simp [*], by first | exact HBJ.out | exact drewN_below HBJ.out _⟩
                  subst c4
                  by_cases c5 : kv = x
                  · have f5 : decide (kv = x) = true := decide_eq_true c5
                    by_cases c6 : j < i
                    · have f6 : decide (j < i) = true := decide_eq_true c6
                      have f7 : decide ((j : Int) < (i : Int)) = true := decide_eq_true (by omega)
                      cases al <;> cases kn
                      · skip
                        go_upto_region 23 with fail
                        go_quiet (fail)
                        go_upto_region 24 with fail
                        go_quiet (fail)
                        go_wp2_with fail
                        go_roundg (gk - 1)
                        case measure => omega
                        case rel => exact ⟨j + 1, by omega, by go_num, by rw [HST.out, if_neg c12]; try simp [c3, c5, c6], by rw [HST.out, if_neg c12]; try simp [c3, c5, c6], by rw [HST.out, if_neg c12]; try simp [c3, c5, c6], by first | exact HBJ.out | exact drewN_below HBJ.out _⟩
                      · skip
                        go_upto_region 23 with fail
                        go_quiet (fail)
                        go_upto_region 24 with fail
                        go_quiet (fail)
                        go_wp2_with fail
                        go_roundg (gk - 1)
                        case measure => omega
                        case rel => exact ⟨j + 1, by omega, by go_num, by rw [HST.out, if_neg c12]; try simp [c3, c5, c6], by rw [HST.out, if_neg c12]; try simp [c3, c5, c6], by rw [HST.out, if_neg c12]; try simp [c3, c5, c6], by first | exact HBJ.out | exact drewN_below HBJ.out _⟩
                      · skip
                        go_upto_region 23 with fail
                        go_quiet (fail)
                        go_upto_region 24 with fail
                        go_quiet (fail)
                        go_wp2_with fail
                        go_roundg (gk - 1)
                        case measure => omega
                        case rel => exact ⟨j + 1, by omega, by go_num, by rw [HST.out, if_neg c12]; try simp [c3, c5, c6], by rw [HST.out, if_neg c12]; try simp [c3, c5, c6], by rw [HST.out, if_neg c12]; try simp [c3, c5, c6], by first | exact HBJ.out | exact drewN_below HBJ.out _⟩
                      · skip
                        go_upto_region 23 with fail
                        go_quiet (fail)
                        go_upto_region 24 with fail
                        go_quiet (fail)
                        go_wp2_with fail
                        go_roundg (gk - 1)
                        case measure => omega
                        case rel => exact ⟨j + 1, by omega, by go_num, by rw [HST.out, if_neg c12]; try simp [c3, c5, c6], by rw [HST.out, if_neg c12]; try simp [c3, c5, c6], by rw [HST.out, if_neg c12]; try simp [c3, c5, c6], by first | exact HBJ.out | exact drewN_below HBJ.out _⟩
                    · have f6 : decide (j < i) = false := decide_eq_false c6
                      have f7 : decide ((j : Int) < (i : Int)) = false := decide_eq_false (by omega)
                      cases al <;> cases kn
                      · skip
                        go_upto_region 23 with fail
                        go_quiet (fail)
                        go_upto_region 24 with fail
                        go_quiet (fail)
                        go_wp2_with fail
                        go_roundg (gk - 1)
                        case measure => omega
                        case rel => exact ⟨j + 1, by omega, by go_num, by rw [HST.out, if_neg c12]; try simp [c3, c5, c6], by rw [HST.out, if_neg c12]; try simp [c3, c5, c6], by rw [HST.out, if_neg c12]; try simp [c3, c5, c6], by first | exact HBJ.out | exact drewN_below HBJ.out _⟩
                      · skip
                        go_upto_region 23 with fail
                        go_quiet (fail)
                        go_upto_region 24 with fail
                        go_quiet (fail)
                        go_wp2_with fail
                        go_roundg (gk - 1)
                        case measure => omega
                        case rel => exact ⟨j + 1, by omega, by go_num, by rw [HST.out, if_neg c12]; try simp [c3, c5, c6], by rw [HST.out, if_neg c12]; try simp [c3, c5, c6], by rw [HST.out, if_neg c12]; try simp [c3, c5, c6], by first | exact HBJ.out | exact drewN_below HBJ.out _⟩
                      · skip
                        go_upto_region 23 with fail
                        go_quiet (fail)
                        go_upto_region 24 with fail
                        go_quiet (fail)
                        go_wp2_with fail
                        go_roundg (gk - 1)
                        case measure => omega
                        case rel => exact ⟨j + 1, by omega, by go_num, by rw [HST.out, if_neg c12]; try simp [c3, c5, c6], by rw [HST.out, if_neg c12]; try simp [c3, c5, c6], by rw [HST.out, if_neg c12]; try simp [c3, c5, c6], by first | exact HBJ.out | exact drewN_below HBJ.out _⟩
                      · skip
                        go_upto_region 23 with fail
                        go_quiet (fail)
                        go_upto_region 24 with fail
                        go_quiet (fail)
                        go_wp2_with fail
                        go_roundg (gk - 1)
                        case measure => omega
                        case rel => exact ⟨j + 1, by omega, by go_num, by rw [HST.out, if_neg c12]; try simp [c3, c5, c6], by rw [HST.out, if_neg c12]; try simp [c3, c5, c6], by rw [HST.out, if_neg c12]; try simp [c3, c5, c6], by first | exact HBJ.out | exact drewN_below HBJ.out _⟩
                  · have f5 : decide (kv = x) = false := decide_eq_false c5
                    by_cases c6 : j < i
                    · have f6 : decide (j < i) = true := decide_eq_true c6
                      have f7 : decide ((j : Int) < (i : Int)) = true := decide_eq_true (by omega)
                      cases al <;> cases kn
                      · skip
                        go_upto_region 23 with fail
                        go_quiet (fail)
                        go_upto_region 24 with fail
                        go_quiet (fail)
                        go_wp2_with fail
                        go_roundg (gk - 1)
                        case measure => omega
                        case rel => exact ⟨j + 1, by omega, by go_num, by rw [HST.out, if_neg c12]; try simp [c3, c5, c6], by rw [HST.out, if_neg c12]; try simp [c3, c5, c6], by rw [HST.out, if_neg c12]; try simp [c3, c5, c6], by first | exact HBJ.out | exact drewN_below HBJ.out _⟩
                      · skip
                        go_upto_region 23 with fail
                        go_quiet (fail)
                        go_upto_region 24 with fail
                        go_quiet (fail)
                        go_wp2_with fail
                        go_roundg (gk - 1)
                        case measure => omega
                        case rel => exact ⟨j + 1, by omega, by go_num, by rw [HST.out, if_neg c12]; try simp [c3, c5, c6], by rw [HST.out, if_neg c12]; try simp [c3, c5, c6], by rw [HST.out, if_neg c12]; try simp [c3, c5, c6], by first | exact HBJ.out | exact drewN_below HBJ.out _⟩
                      · skip
                        go_upto_region 23 with fail
                        go_quiet (fail)
                        go_upto_region 24 with fail
                        go_quiet (fail)
                        go_wp2_with fail
                        go_roundg (gk - 1)
                        case measure => omega
                        case rel => exact ⟨j + 1, by omega, by go_num, by rw [HST.out, if_neg c12]; try simp [c3, c5, c6], by rw [HST.out, if_neg c12]; try simp [c3, c5, c6], by rw [HST.out, if_neg c12]; try simp [c3, c5, c6], by first | exact HBJ.out | exact drewN_below HBJ.out _⟩
                      · skip
                        go_upto_region 23 with fail
                        go_quiet (fail)
                        go_upto_region 24 with fail
                        go_quiet (fail)
                        go_wp2_with fail
                        go_roundg (gk - 1)
                        case measure => omega
                        case rel => exact ⟨j + 1, by omega, by go_num, by rw [HST.out, if_neg c12]; try simp [c3, c5, c6], by rw [HST.out, if_neg c12]; try simp [c3, c5, c6], by rw [HST.out, if_neg c12]; try simp [c3, c5, c6], by first | exact HBJ.out | exact drewN_below HBJ.out _⟩
                    · have f6 : decide (j < i) = false := decide_eq_false c6
                      have f7 : decide ((j : Int) < (i : Int)) = false := decide_eq_false (by omega)
                      cases al <;> cases kn
                      · skip
                        go_upto_region 23 with fail
                        go_quiet (fail)
                        go_upto_region 24 with fail
                        go_quiet (fail)
                        go_wp2_with fail
                        go_roundg (gk - 1)
                        case measure => omega
                        case rel => exact ⟨j + 1, by omega, by go_num, by rw [HST.out, if_neg c12]; try simp [c3, c5, c6], by rw [HST.out, if_neg c12]; try simp [c3, c5, c6], by rw [HST.out, if_neg c12]; try simp [c3, c5, c6], by first | exact HBJ.out | exact drewN_below HBJ.out _⟩
                      · skip
                        go_upto_region 23 with fail
                        go_quiet (fail)
                        go_upto_region 24 with fail
                        go_quiet (fail)
                        go_wp2_with fail
                        go_roundg (gk - 1)
                        case measure => omega
                        case rel => exact ⟨j + 1, by omega, by go_num, by rw [HST.out, if_neg c12]; try simp [c3, c5, c6], by rw [HST.out, if_neg c12]; try simp [c3, c5, c6], by rw [HST.out, if_neg c12]; try simp [c3, c5, c6], by first | exact HBJ.out | exact drewN_below HBJ.out _⟩
                      · skip
                        go_upto_region 23 with fail
                        go_quiet (fail)
                        go_upto_region 24 with fail
                        go_quiet (fail)
                        go_wp2_with fail
                        go_roundg (gk - 1)
                        case measure => omega
                        case rel => exact ⟨j + 1, by omega, by go_num, by rw [HST.out, if_neg c12]; try simp [c3, c5, c6], by rw [HST.out, if_neg c12]; try simp [c3, c5, c6], by rw [HST.out, if_neg c12]; try simp [c3, c5, c6], by first | exact HBJ.out | exact drewN_below HBJ.out _⟩
                      · skip
                        go_upto_region 23 with fail
                        go_quiet (fail)
                        go_upto_region 24 with fail
                        go_quiet (fail)
                        go_wp2_with fail
                        go_roundg (gk - 1)
                        case measure => omega
                        case rel => exact ⟨j + 1, by omega, by go_num, by rw [HST.out, if_neg c12]; try simp [c3, c5, c6], by rw [HST.out, if_neg c12]; try simp [c3, c5, c6], by rw [HST.out, if_neg c12]; try simp [c3, c5, c6], by first | exact HBJ.out | exact drewN_below HBJ.out _⟩
                · have f3 : decide (ka = ia) = false := decide_eq_false c3
                  by_cases c4 : kk = 2
                  rotate_left
                  · have f4 : decide (kk = 2) = false := decide_eq_false c4
                    cases al
                    · skip
                      go_upto_region 23 with fail
                      go_quiet (fail)
                      go_upto_region 24 with fail
                      go_quiet (fail)
                      go_wp2_with fail
                      go_roundg (gk - 1)
                      case measure => omega
                      case rel => exact ⟨j + 1, by omega, by go_num, by rw [HST.out, if_neg c12, if_neg c4]; try simp [*], by rw [HST.out, if_neg c12, if_neg c4]; try simp [*], by rw [HST.out, if_neg c12, if_neg c4]; try simp [*], by first | exact HBJ.out | exact drewN_below HBJ.out _⟩
                    · skip
                      go_upto_region 23 with fail
                      go_quiet (fail)
                      go_upto_region 24 with fail
                      go_quiet (fail)
                      go_wp2_with fail
                      go_roundg (gk - 1)
                      case measure => omega
                      case rel => exact ⟨j + 1, by omega, by go_num, by rw [HST.out, if_neg c12, if_neg c4]; try simp [*], by rw [HST.out, if_neg c12, if_neg c4]; try simp [*], by rw [HST.out, if_neg c12, if_neg c4]; try simp [*], by first | exact HBJ.out | exact drewN_below HBJ.out _⟩
                  subst c4
                  by_cases c5 : kv = x
                  · have f5 : decide (kv = x) = true := decide_eq_true c5
                    by_cases c6 : j < i
                    · have f6 : decide (j < i) = true := decide_eq_true c6
                      have f7 : decide ((j : Int) < (i : Int)) = true := decide_eq_true (by omega)
                      cases al <;> cases kn
                      · skip
                        go_upto_region 23 with fail
                        go_quiet (fail)
                        go_upto_region 24 with fail
                        go_quiet (fail)
                        go_wp2_with fail
                        go_roundg (gk - 1)
                        case measure => omega
                        case rel => exact ⟨j + 1, by omega, by go_num, by rw [HST.out, if_neg c12]; try simp [c3, c5, c6], by rw [HST.out, if_neg c12]; try simp [c3, c5, c6], by rw [HST.out, if_neg c12]; try simp [c3, c5, c6], by first | exact HBJ.out | exact drewN_below HBJ.out _⟩
                      · skip
                        go_upto_region 23 with fail
                        go_quiet (fail)
                        go_upto_region 24 with fail
                        go_quiet (fail)
                        go_wp2_with fail
                        go_roundg (gk - 1)
                        case measure => omega
                        case rel => exact ⟨j + 1, by omega, by go_num, by rw [HST.out, if_neg c12]; try simp [c3, c5, c6], by rw [HST.out, if_neg c12]; try simp [c3, c5, c6], by rw [HST.out, if_neg c12]; try simp [c3, c5, c6], by first | exact HBJ.out | exact drewN_below HBJ.out _⟩
                      · skip
                        go_upto_region 23 with fail
                        go_quiet (fail)
                        go_upto_region 24 with fail
                        go_quiet (fail)
                        go_wp2_with fail
                        go_roundg (gk - 1)
                        case measure => omega
                        case rel => exact ⟨j + 1, by omega, by go_num, by rw [HST.out, if_neg c12]; try simp [c3, c5, c6], by rw [HST.out, if_neg c12]; try simp [c3, c5, c6], by rw [HST.out, if_neg c12]; try simp [c3, c5, c6], by first | exact HBJ.out | exact drewN_below HBJ.out _⟩
                      · skip
                        go_upto_region 23 with fail
                        go_quiet (fail)
                        go_upto_region 24 with fail
                        go_quiet (fail)
                        go_wp2_with fail
                        go_roundg (gk - 1)
                        case measure => omega
                        case rel => exact ⟨j + 1, by omega, by go_num, by rw [HST.out, if_neg c12]; try simp [c3, c5, c6], by rw [HST.out, if_neg c12]; try simp [c3, c5, c6], by rw [HST.out, if_neg c12]; try simp [c3, c5, c6], by first | exact HBJ.out | exact drewN_below HBJ.out _⟩
                    · have f6 : decide (j < i) = false := decide_eq_false c6
                      have f7 : decide ((j : Int) < (i : Int)) = false := decide_eq_false (by omega)
                      cases al <;> cases kn
                      · skip
                        go_upto_region 23 with fail
                        go_quiet (fail)
                        go_upto_region 24 with fail
                        go_quiet (fail)
                        go_wp2_with fail
                        go_roundg (gk - 1)
                        case measure => omega
                        case rel => exact ⟨j + 1, by omega, by go_num, by rw [HST.out, if_neg c12]; try simp [c3, c5, c6], by rw [HST.out, if_neg c12]; try simp [c3, c5, c6], by rw [HST.out, if_neg c12]; try simp [c3, c5, c6], by first | exact HBJ.out | exact drewN_below HBJ.out _⟩
                      · skip
                        go_upto_region 23 with fail
                        go_quiet (fail)
                        go_upto_region 24 with fail
                        go_quiet (fail)
                        go_wp2_with fail
                        go_roundg (gk - 1)
                        case measure => omega
                        case rel => exact ⟨j + 1, by omega, by go_num, by rw [HST.out, if_neg c12]; try simp [c3, c5, c6], by rw [HST.out, if_neg c12]; try simp [c3, c5, c6], by rw [HST.out, if_neg c12]; try simp [c3, c5, c6], by first | exact HBJ.out | exact drewN_below HBJ.out _⟩
                      · skip
                        go_upto_region 23 with fail
                        go_quiet (fail)
                        go_upto_region 24 with fail
                        go_quiet (fail)
                        go_wp2_with fail
                        go_roundg (gk - 1)
                        case measure => omega
                        case rel => exact ⟨j + 1, by omega, by go_num, by rw [HST.out, if_neg c12]; try simp [c3, c5, c6], by rw [HST.out, if_neg c12]; try simp [c3, c5, c6], by rw [HST.out, if_neg c12]; try simp [c3, c5, c6], by first | exact HBJ.out | exact drewN_below HBJ.out _⟩
                      · skip
                        go_upto_region 23 with fail
                        go_quiet (fail)
                        go_upto_region 24 with fail
                        go_quiet (fail)
                        go_wp2_with fail
                        go_roundg (gk - 1)
                        case measure => omega
                        case rel => exact ⟨j + 1, by omega, by go_num, by rw [HST.out, if_neg c12]; try simp [c3, c5, c6], by rw [HST.out, if_neg c12]; try simp [c3, c5, c6], by rw [HST.out, if_neg c12]; try simp [c3, c5, c6], by first | exact HBJ.out | exact drewN_below HBJ.out _⟩
                  · have f5 : decide (kv = x) = false := decide_eq_false c5
                    by_cases c6 : j < i
                    · have f6 : decide (j < i) = true := decide_eq_true c6
                      have f7 : decide ((j : Int) < (i : Int)) = true := decide_eq_true (by omega)
                      cases al <;> cases kn
                      · skip
                        go_upto_region 23 with fail
                        go_quiet (fail)
                        go_upto_region 24 with fail
                        go_quiet (fail)
                        go_wp2_with fail
                        go_roundg (gk - 1)
                        case measure => omega
                        case rel => exact ⟨j + 1, by omega, by go_num, by rw [HST.out, if_neg c12]; try simp [c3, c5, c6], by rw [HST.out, if_neg c12]; try simp [c3, c5, c6], by rw [HST.out, if_neg c12]; try simp [c3, c5, c6], by first | exact HBJ.out | exact drewN_below HBJ.out _⟩
                      · skip
                        go_upto_region 23 with fail
                        go_quiet (fail)
                        go_upto_region 24 with fail
                        go_quiet (fail)
                        go_wp2_with fail
                        go_roundg (gk - 1)
                        case measure => omega
                        case rel => exact ⟨j + 1, by omega, by go_num, by rw [HST.out, if_neg c12]; try simp [c3, c5, c6], by rw [HST.out, if_neg c12]; try simp [c3, c5, c6], by rw [HST.out, if_neg c12]; try simp [c3, c5, c6], by first | exact HBJ.out | exact drewN_below HBJ.out _⟩
                      · skip
                        go_upto_region 23 with fail
                        go_quiet (fail)
                        go_upto_region 24 with fail
                        go_quiet (fail)
                        go_wp2_with fail
                        go_roundg (gk - 1)
                        case measure => omega
                        case rel => exact ⟨j + 1, by omega, by go_num, by rw [HST.out, if_neg c12]; try simp [c3, c5, c6], by rw [HST.out, if_neg c12]; try simp [c3, c5, c6], by rw [HST.out, if_neg c12]; try simp [c3, c5, c6], by first | exact HBJ.out | exact drewN_below HBJ.out _⟩
                      · skip
                        go_upto_region 23 with fail
                        go_quiet (fail)
                        go_upto_region 24 with fail
                        go_quiet (fail)
                        go_wp2_with fail
                        go_roundg (gk - 1)
                        case measure => omega
                        case rel => exact ⟨j + 1, by omega, by go_num, by rw [HST.out, if_neg c12]; try simp [c3, c5, c6], by rw [HST.out, if_neg c12]; try simp [c3, c5, c6], by rw [HST.out, if_neg c12]; try simp [c3, c5, c6], by first | exact HBJ.out | exact drewN_below HBJ.out _⟩
                    · have f6 : decide (j < i) = false := decide_eq_false c6
                      have f7 : decide ((j : Int) < (i : Int)) = false := decide_eq_false (by omega)
                      cases al <;> cases kn
                      · skip
                        go_upto_region 23 with fail
                        go_quiet (fail)
                        go_upto_region 24 with fail
                        go_quiet (fail)
                        go_wp2_with fail
                        go_roundg (gk - 1)
                        case measure => omega
                        case rel => exact ⟨j + 1, by omega, by go_num, by rw [HST.out, if_neg c12]; try simp [c3, c5, c6], by rw [HST.out, if_neg c12]; try simp [c3, c5, c6], by rw [HST.out, if_neg c12]; try simp [c3, c5, c6], by first | exact HBJ.out | exact drewN_below HBJ.out _⟩
                      · skip
                        go_upto_region 23 with fail
                        go_quiet (fail)
                        go_upto_region 24 with fail
                        go_quiet (fail)
                        go_wp2_with fail
                        go_roundg (gk - 1)
                        case measure => omega
                        case rel => exact ⟨j + 1, by omega, by go_num, by rw [HST.out, if_neg c12]; try simp [c3, c5, c6], by rw [HST.out, if_neg c12]; try simp [c3, c5, c6], by rw [HST.out, if_neg c12]; try simp [c3, c5, c6], by first | exact HBJ.out | exact drewN_below HBJ.out _⟩
                      · skip
                        go_upto_region 23 with fail
                        go_quiet (fail)
                        go_upto_region 24 with fail
                        go_quiet (fail)
                        go_wp2_with fail
                        go_roundg (gk - 1)
                        case measure => omega
                        case rel => exact ⟨j + 1, by omega, by go_num, by rw [HST.out, if_neg c12]; try simp [c3, c5, c6], by rw [HST.out, if_neg c12]; try simp [c3, c5, c6], by rw [HST.out, if_neg c12]; try simp [c3, c5, c6], by first | exact HBJ.out | exact drewN_below HBJ.out _⟩
                      · skip
                        go_upto_region 23 with fail
                        go_quiet (fail)
                        go_upto_region 24 with fail
                        go_quiet (fail)
                        go_wp2_with fail
                        go_roundg (gk - 1)
                        case measure => omega
                        case rel => exact ⟨j + 1, by omega, by go_num, by rw [HST.out, if_neg c12]; try simp [c3, c5, c6], by rw [HST.out, if_neg c12]; try simp [c3, c5, c6], by rw [HST.out, if_neg c12]; try simp [c3, c5, c6], by first | exact HBJ.out | exact drewN_below HBJ.out _⟩
              · have hdj : decide (j < l.length) = false := decide_eq_false hjt
                obtain rfl : j = l.length := by omega
                obtain ⟨⟨kn, al, la⟩, hF⟩ : ∃ F, inF l i x l.length = F := ⟨_, rfl⟩
                have hX := HX.out
                rw [hF] at hX ⊢
                simp only at hX ⊢
                obtain ⟨rfl, hal⟩ := hX
                have HBJ := Lib.hid hbj
                clear hF hbj
                cases al with
                | false =>
                  clear hal
                  go_wp2_with fail
                  go_roundg (l.length - (i + 1))
                  case measure => omega
                  case rel => exact ⟨i + 1, by omega, by go_num, by rw [HV.out.1, HG.out.1]; go_num, by rw [HV.out.2.1, HG.out.2]; go_num, HW8.out.2.2.1.trans (HBJ.out.mono HW8.out.2.2.1.size)⟩
                | true =>
                  obtain rfl := hal rfl
                  have dx : decide (x = x) = true := decide_eq_true rfl
                  go_wp2_with fail
                  go_roundg (l.length - (i + 1))
                  case measure => omega
                  case rel => exact ⟨i + 1, by omega, by go_num, by rw [HV.out.1, HG.out.1]; go_num, by rw [HV.out.2.1, HG.out.2]; go_num, HW8.out.2.2.1.trans (HBJ.out.mono HW8.out.2.2.1.size)⟩
          · subst hik
            go_wp2_with fail
            go_roundg (gk - 1)
            case measure => omega
            case rel => exact ⟨i + 1, by omega, by go_num, by rw [HV.out.1, HG.out.1]; go_num, by rw [HV.out.2.1, HG.out.2]; go_num, HW8.out.2.2.1⟩
          · have di1 : decide (ik = 1) = false := decide_eq_false hik1
            have di2 : decide (ik = 2) = false := decide_eq_false hik2
            go_wp2_with fail
            go_roundg (gk - 1)
            case measure => omega
            case rel => exact ⟨i + 1, by omega, by go_num, by rw [HV.out.1, HG.out.1, if_neg hik1]; go_num, by rw [HV.out.2.1, HG.out.2, if_neg hik2]; go_num, HW8.out.2.2.1⟩
        · have hd : decide (i < l.length) = false := decide_eq_false hlt
          obtain rfl : i = l.length := by omega
          obtain ⟨hvl, ⟨hc1, hc2, hc3, hc4⟩, _⟩ := HL.out
          have hg100 : kdN 1 l l.length ≤ 100 := Nat.le_trans (kdN_le _ _ _) (by omega)
          have hq100 : kdN 2 l l.length ≤ 100 := Nat.le_trans (kdN_le _ _ _) (by omega)
          obtain ⟨g, hg⟩ : ∃ g, kdN 1 l l.length = g := ⟨_, rfl⟩
          obtain ⟨q, hq⟩ : ∃ g, kdN 2 l l.length = g := ⟨_, rfl⟩
          rw [hg] at hvl hc1 hc3 hg100 ⊢
          rw [hq] at hc2 hc3 hq100 ⊢
          obtain ⟨fN, hfN⟩ : ∃ n, R.f = n := ⟨_, rfl⟩
          obtain ⟨wN, hwN⟩ : ∃ n, R.wr = n := ⟨_, rfl⟩
          obtain ⟨hN, hhN⟩ : ∃ n, R.h = n := ⟨_, rfl⟩
          have hx7 := (hb.block _ (blk_lt H7.out.2.2.2.2.1)).trans H7.out.2.2.2.2.1
          have hy7 := (hb.block _ (blk_lt H7.out.2.1)).trans H7.out.2.1
          rw [hfN, hwN, hhN] at hx7
          rw [hfN] at hc1 hc4
          rw [hwN] at hc2 hc4
          rw [hhN] at hc3 hc4
          have s0 : wr.cell? ⟨bt, 0, none⟩ = some (.int .i64 (fN : Int)) := by rw [cell_of_row _ _ _ _ _ _ hx7]; rfl
          have s1 : wr.cell? ⟨bt, 1, none⟩ = some (.int .i64 (wN : Int)) := by rw [cell_of_row _ _ _ _ _ _ hx7]; rfl
          have s2 : wr.cell? ⟨bt, 2, none⟩ = some (.int .i64 (hN : Int)) := by rw [cell_of_row _ _ _ _ _ _ hx7]; rfl
          have r0 : wr.cell? ⟨bx, 0, none⟩ = some (.int .i64 c.L) := by rw [cell_of_row _ _ _ _ _ _ hy7]; rfl
          have r3 : wr.cell? ⟨bx, 3, none⟩ = some (.int .i64 c.H) := by rw [cell_of_row _ _ _ _ _ _ hy7]; rfl
          obtain ⟨pr, hpr⟩ : ∃ pr, (c.H + 1) * (g : Int) = pr := ⟨_, rfl⟩
          have hpr0 : 0 ≤ pr := by rw [← hpr]; exact Int.mul_nonneg (by omega) (by omega)
          have hpr1 : pr ≤ 900 := by rw [← hpr]; exact Int.le_trans (Int.mul_le_mul (show c.H + 1 ≤ 9 by omega) (show (g : Int) ≤ 100 by omega) (by omega) (by omega)) (by decide)
          rw [hpr] at hc1
          have HB := Lib.hid (H7.out.1.trans (hb.mono H7.out.1.size))
          clear hb hx7 hy7 hg hq hfN hwN hhN
          have e1 : decide ((g : Int) = (R.vs.length : Int)) = true := decide_eq_true (by omega)
          have e1' : decide (g = R.vs.length) = true := decide_eq_true (by omega)
          have e2 : decide (pr < (fN : Int)) = false := decide_eq_false (by omega)
          have e3 : decide (q < wN) = false := decide_eq_false (by omega)
          have e3' : decide ((q : Int) < (wN : Int)) = false := decide_eq_false (by omega)
          have e4 : decide (g + q < hN) = false := decide_eq_false (by omega)
          have e4' : decide ((g : Int) + (q : Int) < (hN : Int)) = false := decide_eq_false (by omega)
          have e5 : decide ((fN : Int) < 0) = false := decide_eq_false (by omega)
          have e6 : decide ((wN : Int) < 0) = false := decide_eq_false (by omega)
          have e7 : decide ((hN : Int) < 0) = false := decide_eq_false (by omega)
          by_cases hL : 1 < c.L
          · have e8 : decide (1 < c.L) = true := decide_eq_true hL
            go_wp2_with fail
            (with_reducible refine (HAW.out _).mono ?_); rintro e w9 ⟨rfl, hb9⟩
            have H9 := Lib.hid (HB.out.trans (hb9.mono HB.out.size))
            clear hb9
            go_wp2_with fail
            go_ret
            exact ⟨rfl, H9.out⟩
          · have e8 : decide (1 < c.L) = false := decide_eq_false hL
            obtain ⟨rfl, rfl, rfl⟩ := hc4 (by omega)
            go_wp2_with fail
            (with_reducible refine (HAW.out _).mono ?_); rintro e w9 ⟨rfl, hb9⟩
            have H9 := Lib.hid (HB.out.trans (hb9.mono HB.out.size))
            clear hb9
            go_wp2_with fail
            go_ret
            exact ⟨rfl, H9.out⟩
end Go.Proofs.Ytggidakiflnhhaa
