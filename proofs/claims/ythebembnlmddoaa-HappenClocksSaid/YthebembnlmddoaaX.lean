import Derived.Test.YthebembnlmddoaaU
import Derived.Test.YthebembnlmddoaaW
namespace Go.Proofs.Ythebembnlmddoaa
open Go.RowKit
set_option maxHeartbeats 16000000
set_option maxRecDepth 100000
set_option linter.unusedSimpArgs false
set_option linter.unusedVariables false

theorem perm_all (l : List Ev) (o : List Nat) (hp : PermI l o) (hl : o.length = l.length) (i : Nat) (hi : i < l.length) : ∃ k, ∃ hk : k < o.length, o[k] = i := by
  have : i ∈ o := by
    apply Classical.byContradiction
    intro hn
    have := nd_len (i :: o) (List.range l.length) (List.nodup_cons.2 ⟨hn, hp.nd⟩) (fun x hx => by
      rcases List.mem_cons.1 hx with rfl | h
      · simpa using hi
      · simpa using hp.lt x h)
    simp at this
    omega
  obtain ⟨k, hk, rfl⟩ := List.mem_iff_getElem.1 this
  exact ⟨k, hk, rfl⟩
theorem gv_yes (l : List Ev) (h : gvB l = true) : l.length ≤ 40 ∧ chkF l = 0 := by
  unfold gvB at h
  rw [Bool.and_eq_true] at h
  exact ⟨of_decide_eq_true h.1, of_decide_eq_true h.2⟩
theorem first_zero (l : List Ev) (h : chkF l = 0) : (firstF l).2.2.2 = 0 ∧ ((firstF l).2.2.1 = false → racesF l = []) := by
  unfold firstF
  rw [if_pos h]
  cases hr : racesF l with
  | nil => exact ⟨rfl, fun _ => rfl⟩
  | cons x xs => exact ⟨rfl, fun h => by simp at h⟩
theorem free_calls (l : List Ev) (hok : ∀ e ∈ l, e.ok) (A : Option Addr) (c : Nat) (cs : List Nat) (hcs : ∀ x ∈ cs, x ≤ 255) (C : Option Addr) (cc : Nat) (w : World) (hA : Rd encE 11 w A l) (hC : Rd enc8 1 w C cs) (hb : l.length * 88 ≤ 140737488351232) :
    Calls Try.prog 3 #[.slice A l.length c, .slice C cs.length cc] w fun e w' => e = .returned (.bool true) ∧ Below w.heap.size w w' := by
  have hsm := hA.small
  have hsc := hC.small
  have hg := given_calls l hok A c w hA hb
  have HG := Lib.hid hg
  have HR := Lib.hid (And.intro hC (And.intro hok hcs))
  have ha := fun w => awake_calls w
  have HA := Lib.hid ha
  clear ha hg hA hC hok hcs hb
  go_enter Try.func3, Try.ntmps3
  go_wp2_with fail
  (with_reducible refine (HG.out).mono ?_); rintro e w1 ⟨v, rfl, hown, hb1⟩
  obtain ⟨B, cp, rfl, hbc, hrd, hbb⟩ := hown.form lenE
  have H1 := Lib.hid (And.intro hb1 (And.intro hrd hbc))
  clear hown hb1 hrd hbb hbc
  cases hgv : gvB l with
  | false =>
    go_wp2_with fail
    (with_reducible refine (HA.out _).mono ?_); rintro e w2 ⟨rfl, hb2⟩
    have H2 := Lib.hid (H1.out.1.trans (hb2.mono H1.out.1.size))
    clear hb2
    go_wp2_with fail
    go_ret
    exact ⟨rfl, H2.out⟩
  | true =>
    obtain ⟨h40, hck⟩ := gv_yes l hgv
    have HV := Lib.hid (And.intro h40 hck)
    clear hgv hck
    by_cases h25 : 25 < l.length
    · have d1 : decide (25 < l.length) = true := decide_eq_true h25
      have d2 : decide ((25 : Int) < (l.length : Int)) = true := decide_eq_true (by omega)
      go_wp2_with fail
      (with_reducible refine (HA.out _).mono ?_); rintro e w2 ⟨rfl, hb2⟩
      have H2 := Lib.hid (H1.out.1.trans (hb2.mono H1.out.1.size))
      clear hb2
      go_wp2_with fail
      go_ret
      exact ⟨rfl, H2.out⟩
    · have d1 : decide (25 < l.length) = false := decide_eq_false h25
      have d2 : decide ((25 : Int) < (l.length : Int)) = false := decide_eq_false (by omega)
      by_cases h100 : 100 < cs.length
      · have d3 : decide (100 < cs.length) = true := decide_eq_true h100
        have d4 : decide ((100 : Int) < (cs.length : Int)) = true := decide_eq_true (by omega)
        go_wp2_with fail
        (with_reducible refine (HA.out _).mono ?_); rintro e w2 ⟨rfl, hb2⟩
        have H2 := Lib.hid (H1.out.1.trans (hb2.mono H1.out.1.size))
        clear hb2
        go_wp2_with fail
        go_ret
        exact ⟨rfl, H2.out⟩
      · have d3 : decide (100 < cs.length) = false := decide_eq_false h100
        have d4 : decide ((100 : Int) < (cs.length : Int)) = false := decide_eq_false (by omega)
        have hfc := first_calls l HR.out.2.1 B cp H1.out.2.2 w1 H1.out.2.1
        have HF := Lib.hid hfc
        clear hfc
        go_upto_region 4 with fail
        go_wp2_with fail
        (with_reducible refine (HF.out).mono ?_); rintro e w2 ⟨rfl, hb2⟩
        have H2 := Lib.hid (H1.out.1.trans (hb2.mono H1.out.1.size))
        have HB12 := Lib.hid hb2
        clear hb2
        obtain ⟨hz, hnr⟩ := first_zero l HV.out.2
        rw [hz]
        generalize (firstF l).1 = fi at *
        generalize (firstF l).2.1 = fj at *
        generalize (firstF l).2.2.1 = fb at *
        cases fb with
        | true =>
          go_wp2_with fail
          (with_reducible refine (HA.out _).mono ?_); rintro e w3 ⟨rfl, hb3⟩
          have hal : Below w2.heap.size w2 (w2.alloc (.cells #[.int .i64 fi, .int .i64 fj] 29)) := (Below.refl _ _).alloc (Nat.le_refl _) _
          have H3 := Lib.hid (H2.out.trans ((hal.trans (hb3.mono hal.size)).mono H2.out.size))
          clear hal hb3
          go_wp2_with fail
          go_ret
          exact ⟨rfl, H3.out⟩
        | false =>
          have hnr := hnr rfl
          obtain ⟨W3, hW3⟩ : ∃ W3, w2.alloc (.cells #[.int .i64 fi, .int .i64 fj] 29) = W3 := ⟨_, rfl⟩
          have hb3 : Below w.heap.size w W3 := by rw [← hW3]; exact H2.out.alloc H2.out.size _
          have hb13 : Rd encE 11 W3 B l := by
            have hl : Below w1.heap.size w1 W3 := by rw [← hW3]; exact HB12.out.alloc HB12.out.size _
            exact H1.out.2.1.below hl
          have HW3 := Lib.hid hW3
          have H3 := Lib.hid (And.intro hnr (And.intro hb3 hb13))
          clear hnr hW3 hb3 hb13
          go_upto_region 7 with fail
          rw [HW3.out]
          go_upto_region 8 with fail
          go_wp2_with fail
          go_loopg [10, 11, 53, 54, 55, 56, 57, 58, 59, 60] l.length (fun gk v10 v11 v53 v54 v55 v56 v57 v58 v59 v60 wr => ∃ (k : Nat) (S : Option Addr) (cq : Nat), k + gk = l.length ∧ v53 = .int .i64 (k : Int) ∧ v10 = .slice S k cq ∧ Own encN 1 3 wr W3.heap.size (.slice S k cq) (List.range k) ∧ Below W3.heap.size W3 wr)
          case atStart => exact ⟨0, none, 0, by omega, rfl, rfl, World.ownsRow_nil _ _ _ _, Below.refl _ _⟩
          case round =>
            obtain ⟨k, S, cq, hk, rfl, rfl, hown, hbl⟩ := hrel
            obtain ⟨wo, hwo⟩ : ∃ wo, wo = wr := ⟨_, rfl⟩
            subst hwo
            by_cases hkl : k < l.length
            · have hd : decide (k < l.length) = true := decide_eq_true hkl
              have hb6 : Below wo.heap.size wo (wo.alloc (.cells #[.int .i64 (k : Int)] 3)) := (Below.refl _ _).alloc (Nat.le_refl _) _
              have HU := Lib.hid (And.intro (hown.rest hb6) (And.intro (hbl.trans (hb6.mono hbl.size)) (And.intro (show (k + 1) * 8 ≤ 140737488355328 by omega) hown)))
              clear hown hbl hb6
              go_wp2_with (at_builtin; refine wpList_append_told lenN oneN _ rfl (.tmp 56) (.tmp 58) 33 rfl W3.heap.size 3 _ 8 Try.underlying33 info3 rfl (by decide) (by decide) (.slice S k cq) (List.range k) k (by simp) rfl HU.out.1 ⟨wo.heap.size, 0, none⟩ 1 1 [k] rfl rfl (by decide) (rd_one encN 1 _ k 3 _ rfl _ rfl) HU.out.2.2.1 (HU.out.2.1.size) ?_; intro g3 cap3 w6 hown6 hgr6 hl6; have HGG := Lib.hid (And.intro hown6 hgr6); clear hown6 hgr6 hl6)
              go_roundg (gk - 1)
              case measure => omega
              case rel => exact ⟨k + 1, _, _, by omega, by go_num, rfl, by rw [List.range_succ]; exact HGG.out.1, HU.out.2.1.grown HGG.out.2 HU.out.2.1.size (fun b hb => (HU.out.1.blk b hb).1)⟩
            · have hd : decide (k < l.length) = false := decide_eq_false hkl
              obtain rfl : k = l.length := by omega
              have hpm := permitted_calls l HR.out.2.1 HV.out.2 HV.out.1 B cp cs HR.out.2.2 C cc wo (H3.out.2.2.below hbl) (HR.out.1.below (H3.out.2.1.trans (hbl.mono H3.out.2.1.size)))
              have HP := Lib.hid hpm
              have HO := Lib.hid (And.intro hown hbl)
              clear hpm hown hbl
              go_upto_region 16 with ((with_reducible refine (HP.out).mono ?_); rintro e w5 ⟨o, v5, rfl, ho, hpi, hpl, hb5⟩; obtain ⟨S2, cq2, rfl, hc2, hrd2, hbb2⟩ := ho.form lenN; have H5 := Lib.hid (And.intro hrd2 (And.intro hc2 (And.intro hpi (And.intro hpl hb5)))); clear ho hrd2 hbb2 hc2 hpi hpl hb5)
              have hown5 := HO.out.1.rest H5.out.2.2.2.2
              obtain ⟨S', c', hv, hcr, hrdr, _⟩ := hown5.form lenN
              obtain ⟨rfl, hlen, rfl⟩ := Value.slice.inj hv
              clear hv
              rw [← hlen] at hcr
              have hlow5 : Below W3.heap.size W3 w5 := HO.out.2.trans (H5.out.2.2.2.2.mono HO.out.2.size)
              have hrdl5 := H3.out.2.2.below hlow5
              have hla := last_calls l HV.out.1 (List.range l.length) (fun j hj => by simpa using hj) List.nodup_range B cp S cq (by rw [← hlen]; exact hcr) w5 hrdl5 hrdr
              rw [← hlen] at hla
              have HLA := Lib.hid hla
              have H6 := Lib.hid (And.intro hlow5 hrdl5)
              clear hown5 hcr hrdr hlow5 hrdl5 hla hlen
              go_wp2_with fail
              (with_reducible refine (HLA.out).mono ?_); rintro e w6 ⟨outA, vA, rfl, hoA, hlA, hgA, hb6⟩
              obtain ⟨GA, cA, rfl, _, hrdA, _⟩ := hoA.form lenI
              have hlb := last_calls l HV.out.1 o H5.out.2.2.1.lt H5.out.2.2.1.nd B cp S2 cq2 H5.out.2.1 w6 (H6.out.2.below hb6) (H5.out.1.below hb6)
              have HLB := Lib.hid hlb
              have H7 := Lib.hid (And.intro hlA (And.intro hgA (And.intro hrdA hb6)))
              clear hoA hlA hgA hrdA hb6 hlb
              go_wp2_with fail
              (with_reducible refine (HLB.out).mono ?_); rintro e w7 ⟨outB, vB, rfl, hoB, hlB, hgB, hb7⟩
              obtain ⟨GB, cB, rfl, _, hrdB, _⟩ := hoB.form lenI
              have hlow7 := H6.out.1.trans ((H7.out.2.2.2.trans (hb7.mono H7.out.2.2.2.size)).mono H6.out.1.size)
              have H8 := Lib.hid (And.intro hlB (And.intro hgB (And.intro hrdB (And.intro (H7.out.2.2.1.below hb7) (And.intro hlow7 (H3.out.2.2.below hlow7))))))
              clear hoB hlB hgB hrdB hb7 hlow7
              go_upto_region 17 with fail
              go_wp2_with fail
              go_loopg [15, 16, 77, 78, 79, 80, 81, 82, 83, 84, 85, 86, 87, 88, 89, 90, 91, 92, 93, 94, 95, 96] l.length (fun gk v15 v16 v77 v78 v79 v80 v81 v82 v83 v84 v85 v86 v87 v88 v89 v90 v91 v92 v93 v94 v95 v96 wr => ∃ (i : Nat), i + gk = l.length ∧ v77 = .int .i64 (i : Int) ∧ Below w7.heap.size w7 wr)
              case atStart => exact ⟨0, by omega, rfl, Below.refl _ _⟩
              case round =>
                obtain ⟨i, hi, rfl, hbl⟩ := hrel
                obtain ⟨wq, hwq⟩ : ∃ wq, wq = wr := ⟨_, rfl⟩
                subst hwq
                by_cases hil : i < l.length
                · have hd : decide (i < l.length) = true := decide_eq_true hil
                  have hR := H8.out.2.2.2.2.2.below hbl
                  cases B with
                  | none =>
                    exfalso
                    obtain ⟨a, ha, _⟩ := hR.cell i hil
                    cases ha
                  | some a =>
                  have hcs := ev_cells hR i hil
                  obtain ⟨ga, hga, hca⟩ := (H8.out.2.2.2.1.below hbl).int i (by rw [H7.out.1]; exact hil)
                  obtain ⟨gb, hgb, hcb⟩ := (H8.out.2.2.1.below hbl).int i (by rw [H8.out.1]; exact hil)
                  subst hga hgb
                  have hlA : i < outA.length := by rw [H7.out.1]; exact hil
                  have hlB : i < outB.length := by rw [H8.out.1]; exact hil
                  obtain ⟨p, hp, hpe⟩ := perm_all l o H5.out.2.2.1 H5.out.2.2.2.1 i hil
                  have heq : (evA l i).k = 1 → outA[i] = outB[i] := fun h1 => by
                    have e1 := H7.out.2.1 i (by simpa using hil)
                    rw [List.getElem_range, getD_in _ _ hlA, List.take_range, Nat.min_eq_left (by omega)] at e1
                    have e2 := H8.out.2.1 p hp
                    rw [free_last l (chk_zero l HV.out.2).2 H3.out.1 o H5.out.2.2.1 p hp (by rw [hpe]; exact h1)] at e2
                    simp only [hpe] at e2
                    rw [getD_in _ _ hlB] at e2
                    rw [e1, e2]
                  rw [evA_eq l i hil] at heq
                  generalize l[i] = e at *
                  generalize outA[i] = xa at *
                  generalize outB[i] = xb at *
                  obtain ⟨W5, hW5⟩ : ∃ W5, wq.alloc (.cells e.cells 42) = W5 := ⟨_, rfl⟩
                  have hb5 : Below wq.heap.size wq W5 := by rw [← hW5]; exact (Below.refl _ _).alloc (Nat.le_refl _) _
                  have hbox : W5.heap[wq.heap.size]? = some (.cells e.cells 42 (0, 0)) := by rw [← hW5]; exact Go.heap_alloc_new wq _
                  have y0 : W5.cell? ⟨wq.heap.size, 0, none⟩ = some (.int .i64 e.k) := by rw [cell_of_row _ _ _ _ _ _ hbox]; rfl
                  have ya := (hb5.cell (World.block_lt_of_cell? _ _ hca)).trans hca
                  have yb := (hb5.cell (World.block_lt_of_cell? _ _ hcb)).trans hcb
                  have HX := Lib.hid (And.intro hcs (And.intro hW5 (And.intro (hbl.trans (hb5.mono hbl.size)) heq)))
                  have hia : (i : Int) < (outA.length : Int) := by omega
                  have hib : (i : Int) < (outB.length : Int) := by omega
                  clear hcs hW5 hb5 hbox hca hcb hbl heq hR hp hpe
                  go_upto_region 20 with (refine wpList_load_ev rfl _ 42 (Or.inl rfl) rfl (a.add (i * 11)) e rfl HX.out.1 ?_)
                  try rw [HX.out.2.1]
                  by_cases h1 : e.k = 1
                  · have k1 : (e.k == 1) = true := by simpa using h1
                    have hxx : (xa != xb) = false := by rw [HX.out.2.2.2 h1]; simp
                    clear h1
                    go_quiet (fail)
                    go_wp2_with fail
                    go_roundg (gk - 1)
                    case measure => omega
                    case rel => exact ⟨i + 1, by omega, by go_num, drewN_below HX.out.2.2.1 _⟩
                  · have k1 : (e.k == 1) = false := by simpa using h1
                    clear h1
                    go_quiet (fail)
                    go_wp2_with fail
                    go_roundg (gk - 1)
                    case measure => omega
                    case rel => exact ⟨i + 1, by omega, by go_num, drewN_below HX.out.2.2.1 _⟩
                · have hd : decide (i < l.length) = false := decide_eq_false hil
                  have HE := Lib.hid hbl
                  clear hbl
                  go_wp2_with fail
                  (with_reducible refine (HA.out _).mono ?_); rintro e w9 ⟨rfl, hb9⟩
                  have hl7 := HE.out.trans (hb9.mono HE.out.size)
                  have hlw := H3.out.2.1.trans ((H8.out.2.2.2.2.1.trans (hl7.mono H8.out.2.2.2.2.1.size)).mono H3.out.2.1.size)
                  have H9 := Lib.hid hlw
                  clear hb9 hl7 hlw
                  go_wp2_with fail
                  go_ret
                  exact ⟨rfl, H9.out⟩
end Go.Proofs.Ythebembnlmddoaa
