import Derived.Test.YthebembnlmddoaaAM
namespace Go.Proofs.Ythebembnlmddoaa
open Go.RowKit
set_option maxHeartbeats 16000000
set_option maxRecDepth 100000
set_option linter.unusedSimpArgs false
set_option linter.unusedVariables false

theorem reordered_calls (l : List Ev) (hok : ∀ e ∈ l, e.ok) (A : Option Addr) (c : Nat) (cs : List Nat) (hcs : ∀ x ∈ cs, x ≤ 255) (C : Option Addr) (cc : Nat) (w : World) (hA : Rd encE 11 w A l) (hC : Rd enc8 1 w C cs) (hb : l.length * 88 ≤ 140737488351232) :
    Calls Try.prog 6 #[.slice A l.length c, .slice C cs.length cc] w fun e w' => e = .returned (.bool true) ∧ Below w.heap.size w w' := by
  have hsm := hA.small
  have hsc := hC.small
  have hg := given_calls l hok A c w hA hb
  have HG := Lib.hid hg
  have HR := Lib.hid (And.intro hC (And.intro hok hcs))
  have ha := fun w => awake_calls w
  have HA := Lib.hid ha
  clear ha hg hA hC hok hcs hb
  go_enter Try.func6, Try.ntmps6
  go_wp2_with fail
  (with_reducible refine (HG.out).mono ?_); rintro e w1 ⟨v, rfl, hown, hb1⟩
  obtain ⟨B, cp, rfl, hbc, hrd, hbb⟩ := hown.form lenE
  have H1 := Lib.hid (And.intro hb1 (And.intro hrd hbc))
  clear hown hb1 hrd hbb hbc
  cases hgv : gvB l with
  | false =>
    go_wp2_with fail
    (with_reducible refine (HA.out _).mono ?_); rintro e w2 ⟨rfl, hb2⟩
    have H2 := Lib.hid (H1.out.1.trans (hb2.mono H1.out.1.size))
    clear hb2
    go_wp2_with fail
    go_ret
    exact ⟨rfl, H2.out⟩
  | true =>
    obtain ⟨h40, hck⟩ := gv_yes l hgv
    have HV := Lib.hid (And.intro h40 (And.intro hck (chk_zero l hck)))
    clear hgv hck
    by_cases h25 : 25 < l.length
    · have d1 : decide (25 < l.length) = true := decide_eq_true h25
      have d2 : decide ((25 : Int) < (l.length : Int)) = true := decide_eq_true (by omega)
      go_wp2_with fail
      (with_reducible refine (HA.out _).mono ?_); rintro e w2 ⟨rfl, hb2⟩
      have H2 := Lib.hid (H1.out.1.trans (hb2.mono H1.out.1.size))
      clear hb2
      go_wp2_with fail
      go_ret
      exact ⟨rfl, H2.out⟩
    · have d1 : decide (25 < l.length) = false := decide_eq_false h25
      have d2 : decide ((25 : Int) < (l.length : Int)) = false := decide_eq_false (by omega)
      by_cases h100 : 100 < cs.length
      · have d3 : decide (100 < cs.length) = true := decide_eq_true h100
        have d4 : decide ((100 : Int) < (cs.length : Int)) = true := decide_eq_true (by omega)
        go_wp2_with fail
        (with_reducible refine (HA.out _).mono ?_); rintro e w2 ⟨rfl, hb2⟩
        have H2 := Lib.hid (H1.out.1.trans (hb2.mono H1.out.1.size))
        clear hb2
        go_wp2_with fail
        go_ret
        exact ⟨rfl, H2.out⟩
      · have d3 : decide (100 < cs.length) = false := decide_eq_false h100
        have d4 : decide ((100 : Int) < (cs.length : Int)) = false := decide_eq_false (by omega)
        have hpm := permitted_calls l HR.out.2.1 HV.out.2.1 HV.out.1 B cp cs HR.out.2.2 C cc w1 H1.out.2.1 (HR.out.1.below H1.out.1)
        have HP := Lib.hid hpm
        clear hpm
        go_wp2_with fail
        (with_reducible refine (HP.out).mono ?_); rintro e w2 ⟨o, v2, rfl, ho, hpi, hpl, hb2⟩
        obtain ⟨S2, cq2, rfl, hc2, hrd2, _⟩ := ho.form lenN
        have hpf : PermF l o := ⟨hpi, hpl⟩
        have hlo2 := H1.out.1.trans (hb2.mono H1.out.1.size)
        have hrB2 := H1.out.2.1.below hb2
        have hro := reorder_calls l HR.out.2.1 HV.out.2.1 HV.out.1 o hpi.lt hpi.nd hpl B cp S2 cq2 hc2 w2 hrB2 hrd2
        unfold RoPost at hro
        rw [hpf.pmA, if_pos rfl, if_pos rfl] at hro
        have HRO := Lib.hid hro
        have H2 := Lib.hid (And.intro hpf (And.intro hlo2 (And.intro hrB2 hrd2)))
        clear ho hpi hpl hb2 hc2 hrd2 hpf hlo2 hrB2 hro
        go_wp2_with fail
        (with_reducible refine (HRO.out).mono ?_); rintro e w3 ⟨v3, rfl, hx, hb3⟩
        change Own encE 11 42 w3 w2.heap.size v3 (reF l o) at hx
        obtain ⟨SX, cX, rfl, hcX, hrX, _⟩ := hx.form lenE
        have hlo3 := H2.out.2.1.trans (hb3.mono H2.out.2.1.size)
        have hra := allraces_calls l HR.out.2.1 (by omega) B cp H1.out.2.2 w3 (H2.out.2.2.1.below hb3)
        unfold RsPost at hra
        rw [HV.out.2.1, if_pos rfl] at hra
        have HRA := Lib.hid hra
        have H3 := Lib.hid (And.intro hlo3 (And.intro hrX (And.intro hcX (H2.out.2.2.2.below hb3))))
        clear hx hb3 hcX hrX hlo3 hra
        go_wp2_with fail
        (with_reducible refine (HRA.out).mono ?_); rintro e w4 ⟨v4, rfl, hr4, hb4⟩
        obtain ⟨SA, cA, rfl, _, hrA, _⟩ := hr4.form lenRC
        have hlo4 := H3.out.1.trans (hb4.mono H3.out.1.size)
        have hokx : ∀ e ∈ reF l o, e.ok := fun e he => by
          obtain ⟨i, hi, rfl⟩ := List.mem_map.1 he
          rw [evA_eq l i (H2.out.1.lt i hi)]
          exact HR.out.2.1 _ (List.getElem_mem _)
        have hlx : (reF l o).length = l.length := by rw [reF_len, H2.out.1.len]
        have hcx : chkF (reF l o) = 0 := by
          unfold chkF
          rw [if_neg (by omega), if_pos (re_right HV.out.2.2.2 H2.out.1)]
        have hrb := allraces_calls (reF l o) hokx (by omega) SX cX H3.out.2.2.1 w4 (H3.out.2.1.below hb4)
        unfold RsPost at hrb
        rw [hcx, if_pos rfl] at hrb
        have HRB := Lib.hid hrb
        have H4 := Lib.hid (And.intro hlo4 (And.intro hrA (H3.out.2.2.2.below hb4)))
        clear hr4 hb4 hrA hlo4 hokx hlx hcx hrb
        go_wp2_with fail
        (with_reducible refine (HRB.out).mono ?_); rintro e w5 ⟨v5, rfl, hr5, hb5⟩
        obtain ⟨SB, cB, rfl, _, hrB, _⟩ := hr5.form lenRC
        have hlo5 := H4.out.1.trans (hb5.mono H4.out.1.size)
        have hcount := re_count HV.out.2.2.2 H2.out.1
        have hin := re_race HV.out.2.2.2 H2.out.1
        have hmx := fun (x : Nat × Nat) hx => (racesF_mem (reF l o) x.1 x.2).1 (show (x.1, x.2) ∈ racesF (reF l o) from hx)
        rw [reF_len] at hmx
        obtain ⟨xs, hxs⟩ : ∃ xs, racesF (reF l o) = xs := ⟨_, rfl⟩
        obtain ⟨ys, hys⟩ : ∃ ys, racesF l = ys := ⟨_, rfl⟩
        rw [hxs] at hrB hcount hin hmx
        rw [hys] at hcount hin
        have hryA := H4.out.2.1.below hb5
        rw [hys] at hryA
        have hlxs := hrB.small
        have H5 := Lib.hid (And.intro hlo5 (And.intro hryA (And.intro hrB (And.intro (H4.out.2.2.below hb5) (And.intro hin hmx)))))
        clear hr5 hb5 hrB hlo5 hin hmx hryA
        rw [hxs, hys, ← hcount]
        clear hxs hys
        go_upto_region 13 with fail
        go_wp2_with fail
        go_loopg [15, 16, 17, 74, 75, 76, 77, 78, 79, 80, 81, 82, 83, 84, 85, 86, 87, 88, 89, 90, 91, 92, 93, 94, 95, 96, 97, 98] xs.length (fun gk v15 v16 v17 v74 v75 v76 v77 v78 v79 v80 v81 v82 v83 v84 v85 v86 v87 v88 v89 v90 v91 v92 v93 v94 v95 v96 v97 v98 wr => ∃ k : Nat, k + gk = xs.length ∧ v74 = .int .i64 (k : Int) ∧ Below w5.heap.size w5 wr)
        case atStart => exact ⟨0, by omega, rfl, Below.refl _ _⟩
        case round =>
          obtain ⟨k, hk, rfl, hbl⟩ := hrel
          obtain ⟨wq, hwq⟩ : ∃ wq, wq = wr := ⟨_, rfl⟩
          subst hwq
          by_cases hkl : k < xs.length
          · have hd : decide (k < xs.length) = true := decide_eq_true hkl
            have hmem : xs[k] ∈ xs := List.getElem_mem hkl
            have hb1 := H5.out.2.2.2.2.1 xs[k] hmem
            obtain ⟨h12, h2l, _⟩ := H5.out.2.2.2.2.2 xs[k] hmem
            obtain ⟨ab, hab, hcb⟩ := (H5.out.2.2.1.below hbl).cell k hkl
            subst hab
            have c0 := hcb 0 _ rfl
            have c1 := hcb 1 _ rfl
            rw [Nat.add_zero] at c0
            rw [add_field _ _ _ (by decide)] at c1
            generalize xs[k] = x at *
            obtain ⟨xa, xb⟩ := x
            dsimp only at h12 h2l c0 c1
            obtain ⟨W6, hW6⟩ : ∃ W6, wq.alloc (.cells #[.int .i64 (xa : Int), .int .i64 (xb : Int)] 29) = W6 := ⟨_, rfl⟩
            have hb6 : Below wq.heap.size wq W6 := by rw [← hW6]; exact (Below.refl _ wq).alloc (Nat.le_refl _) _
            have hbx : W6.heap[wq.heap.size]? = some (.cells #[.int .i64 (xa : Int), .int .i64 (xb : Int)] 29 (0, 0)) := by rw [← hW6]; exact Go.heap_alloc_new wq _
            have hbl6 := hbl.trans (hb6.mono hbl.size)
            have y0 := cell_of_row _ wq.heap.size 0 _ _ _ hbx
            have y1 := cell_of_row _ wq.heap.size 1 _ _ _ hbx
            simp at y0 y1
            obtain ⟨ao, hao, hco⟩ := (H5.out.2.2.2.1.below hbl6).cell xa (by omega)
            obtain ⟨ao', hao', hco'⟩ := (H5.out.2.2.2.1.below hbl6).cell xb h2l
            subst hao
            cases hao'
            have o1 := hco 0 _ rfl
            have o2 := hco' 0 _ rfl
            rw [Nat.mul_one, Nat.add_zero] at o1 o2
            have hcr := fun w' (hb' : Below W6.heap.size W6 w') => containsR_calls ys (bkF o (xa, xb)) SA cA w' ((H5.out.2.1.below hbl6).below hb')
            have hany : ys.any (fun y => decide (bkF o (xa, xb) = y)) = true := by rw [List.any_eq_true]; exact ⟨_, hb1, by simp⟩
            rw [hany] at hcr
            unfold bkF at hcr
            simp only [getD_at o xa (by omega), getD_at o xb h2l] at hcr
            have hi1 : (xa : Int) < (o.length : Int) := by omega
            have hi2 : (xb : Int) < (o.length : Int) := by omega
            have hol : o.length ≤ 40 := by have := H2.out.1.len; have := HV.out.1; omega
            have hne : o[xa] ≠ o[xb] := fun e => by have := H2.out.1.inj (by omega) h2l e; omega
            generalize o[xa] = p at *
            generalize o[xb] = q at *
            have HCR := Lib.hid hcr
            have HX := Lib.hid (And.intro hW6 hbl6)
            clear hmem hb1 h12 h2l hcb hbl hb6 hbx hbl6 hco hco' hcr hany hW6
            go_upto_region 15 with fail
            rw [HX.out.1]
            go_quiet (fail)
            by_cases hpq : p < q
            · have e1 : min p q = p := Nat.min_eq_left (by omega)
              have e2 : max p q = q := Nat.max_eq_right (by omega)
              rw [e1, e2] at HCR
              have hcr := HCR.out _ (drewN_below (Below.refl _ _) nq)
              have HC2 := Lib.hid hcr
              clear hcr e1 e2
              go_wp2_with fail
              (with_reducible refine (HC2.out).mono ?_); rintro e w7 ⟨rfl, hb7⟩
              have hl7 := HX.out.2.trans (((drewN_below (Below.refl _ _) nq : Below W6.heap.size W6 (W6.drewN nq)).trans hb7).mono HX.out.2.size)
              have H7 := Lib.hid hl7
              clear hb7 hl7
              go_wp2_with fail
              go_roundg (gk - 1)
              case measure => omega
              case rel => exact ⟨k + 1, by omega, by go_num, H7.out⟩
            · have hqp : q < p := by omega
              have hqp2 : ¬ p ≤ q := by omega
              have hqp3 : ¬ (p : Int) ≤ (q : Int) := by omega
              have e1 : min p q = q := Nat.min_eq_right (by omega)
              have e2 : max p q = p := Nat.max_eq_left (by omega)
              rw [e1, e2] at HCR
              have hcr := HCR.out _ (drewN_below (Below.refl _ _) nq)
              have HC2 := Lib.hid hcr
              clear hcr e1 e2
              go_wp2_with fail
              (with_reducible refine (HC2.out).mono ?_); rintro e w7 ⟨rfl, hb7⟩
              have hl7 := HX.out.2.trans (((drewN_below (Below.refl _ _) nq : Below W6.heap.size W6 (W6.drewN nq)).trans hb7).mono HX.out.2.size)
              have H7 := Lib.hid hl7
              clear hb7 hl7
              go_wp2_with fail
              go_roundg (gk - 1)
              case measure => omega
              case rel => exact ⟨k + 1, by omega, by go_num, H7.out⟩
          · have hd : decide (k < xs.length) = false := decide_eq_false hkl
            have HE := Lib.hid hbl
            clear hbl
            go_wp2_with fail
            (with_reducible refine (HA.out _).mono ?_); rintro e w9 ⟨rfl, hb9⟩
            have hl7 := HE.out.trans (hb9.mono HE.out.size)
            have HL := Lib.hid (H5.out.1.trans (hl7.mono H5.out.1.size))
            clear hb9 hl7
            go_wp2_with fail
            go_ret
            exact ⟨rfl, HL.out⟩
end Go.Proofs.Ythebembnlmddoaa
