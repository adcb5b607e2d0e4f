import Derived.Test.YthebembnlmddoaaAR
namespace Go.Proofs.Ythebembnlmddoaa
open Go.RowKit
set_option maxHeartbeats 16000000
set_option maxRecDepth 100000
set_option linter.unusedSimpArgs false
set_option linter.unusedVariables false

theorem wtO_len (l : List Ev) (i j p q : Nat) : (wtO l i j p q).length = (wtA l i j l.length).length + 2 + (wtC l i j l.length).length := by unfold wtO; simp; omega
theorem wtO_at0 (l : List Ev) (i j p q : Nat) (h : (wtA l i j l.length).length < (wtO l i j p q).length) : (wtO l i j p q)[(wtA l i j l.length).length] = p := app3_mid _ _ p q 0 (by omega) h
theorem wtO_at1 (l : List Ev) (i j p q : Nat) (h : (wtA l i j l.length).length + 1 < (wtO l i j p q).length) : (wtO l i j p q)[(wtA l i j l.length).length + 1] = q := app3_mid _ _ p q 1 (by omega) h
theorem wtO_swap (l : List Ev) (i j p q : Nat) : ((wtO l i j p q).set (wtA l i j l.length).length q).set ((wtA l i j l.length).length + 1) p = wtO l i j q p := by
  unfold wtO
  rw [List.append_assoc, List.set_append_right _ _ (by omega), List.set_append_right _ _ (by omega)]
  simp
theorem wtO_idx (l : List Ev) (i j q : Nat) : idxF (fun x => decide ((i : Int) = x)) ((wtO l i j i q).map (fun (x : Nat) => (x : Int))) = ((wtA l i j l.length).length : Int) := by
  have hl := wtO_len l i j i q
  refine idxF_at _ _ _ (by rw [List.length_map]; omega) ?_ (fun m hm => ?_)
  · rw [List.getElem_map, wtO_at0]
    simp
  · rw [List.getElem_map]
    have e : (wtO l i j i q)[m]'(by omega) = (wtA l i j l.length)[m] := app3_lt _ _ _ _ m hm (by have := hl; unfold wtO at this; omega)
    rw [e]
    have := (wtA_mem l i j _ _).1 (List.getElem_mem hm)
    rw [decide_eq_false_iff_not]
    omega
theorem shown_calls (l : List Ev) (hok : ∀ e ∈ l, e.ok) (at_ : Nat) (hat : at_ ≤ 255) (A : Option Addr) (c : Nat) (w : World) (hA : Rd encE 11 w A l) (hb : l.length * 88 ≤ 140737488351232) :
    Calls Try.prog 9 #[.slice A l.length c, .int .u8 (at_ : Int)] w fun e w' => e = .returned (.bool true) ∧ Below w.heap.size w w' := by
  have hsm := hA.small
  have hg := given_calls l hok A c w hA hb
  have HG := Lib.hid hg
  have HR := Lib.hid hok
  have ha := fun w => awake_calls w
  have HA := Lib.hid ha
  clear ha hg hA hok hb
  go_enter Try.func9, Try.ntmps9
  go_wp2_with fail
  (with_reducible refine (HG.out).mono ?_); rintro e w1 ⟨v, rfl, hown, hb1⟩
  obtain ⟨B, cp, rfl, hbc, hrd, hbb⟩ := hown.form lenE
  have H1 := Lib.hid (And.intro hb1 (And.intro hrd hbc))
  clear hown hb1 hrd hbb hbc
  cases hgv : gvB l with
  | false =>
    go_wp2_with fail
    (with_reducible refine (HA.out _).mono ?_); rintro e w2 ⟨rfl, hb2⟩
    have H2 := Lib.hid (H1.out.1.trans (hb2.mono H1.out.1.size))
    clear hb2
    go_wp2_with fail
    go_ret
    exact ⟨rfl, H2.out⟩
  | true =>
    obtain ⟨h40, hck⟩ := gv_yes l hgv
    have HV := Lib.hid (And.intro h40 (And.intro hck (chk_zero l hck)))
    clear hgv hck
    have hra := allraces_calls l HR.out (by omega) B cp H1.out.2.2 w1 H1.out.2.1
    unfold RsPost at hra
    rw [HV.out.2.1, if_pos rfl] at hra
    have HRA := Lib.hid hra
    clear hra
    go_wp2_with fail
    (with_reducible refine (HRA.out).mono ?_); rintro e w2 ⟨v2, rfl, hr2, hb2⟩
    obtain ⟨SA, cA, rfl, _, hrA, _⟩ := hr2.form lenRC
    have hlo2 := H1.out.1.trans (hb2.mono H1.out.1.size)
    have hlx := hrA.small
    have hrl := races_len l (by omega)
    have hmx := fun (x : Nat × Nat) hx => (racesF_mem l x.1 x.2).1 (show (x.1, x.2) ∈ racesF l from hx)
    obtain ⟨xs, hxs⟩ : ∃ xs, racesF l = xs := ⟨_, rfl⟩
    rw [hxs] at hrA hmx hrl hlx
    rw [hxs]
    have H2 := Lib.hid (And.intro hlo2 (And.intro hrA (And.intro (H1.out.2.1.below hb2) hmx)))
    clear hr2 hb2 hrA hlo2 hmx hxs
    by_cases h0 : xs.length = 0
    · have e0 : (xs.length == 0) = true := by simpa using h0
      have e1 : ((xs.length : Int) == 0) = true := by rw [beq_iff_eq]; omega
      clear h0
      go_wp2_with fail
      (with_reducible refine (HA.out _).mono ?_); rintro e w3 ⟨rfl, hb3⟩
      have H3 := Lib.hid (H2.out.1.trans (hb3.mono H2.out.1.size))
      clear hb3
      go_wp2_with fail
      go_ret
      exact ⟨rfl, H3.out⟩
    · have e0 : (xs.length == 0) = false := by simpa using h0
      have e1 : ((xs.length : Int) == 0) = false := by rw [beq_eq_false_iff_ne]; omega
      obtain ⟨r, hr⟩ : ∃ r, at_ % xs.length = r := ⟨_, rfl⟩
      have hrx : r < xs.length := by rw [← hr]; exact Nat.mod_lt _ (by omega)
      have hri : (at_ : Int) % (xs.length : Int) = (r : Int) := by rw [← hr]; rfl
      have hx0 : ¬ (xs.length : Int) = 0 := by omega
      have hri2 : (r : Int) < (xs.length : Int) := by omega
      have hmem : xs[r] ∈ xs := List.getElem_mem hrx
      obtain ⟨h12, h2l, hrc⟩ := H2.out.2.2.2 xs[r] hmem
      obtain ⟨ab, rfl, hcb⟩ := H2.out.2.1.cell r hrx
      have c0 := hcb 0 _ rfl
      have c1 := hcb 1 _ rfl
      rw [Nat.add_zero] at c0
      rw [add_field _ _ _ (by decide)] at c1
      generalize xs[r] = x at *
      obtain ⟨i, j⟩ := x
      dsimp only at h12 h2l hrc c0 c1
      obtain ⟨r1, r2, r3, r4⟩ := (raB_iff l i j).1 hrc
      have hpf := wt_perm l HV.out.2.2.2 i j h12 h2l r4 i j (.inl ⟨rfl, rfl⟩)
      have hpg := wt_perm l HV.out.2.2.2 i j h12 h2l r4 j i (.inr ⟨rfl, rfl⟩)
      have hwe : witE l (i : Int) (j : Int) = 0 := by
        unfold witE raI
        rw [if_pos HV.out.2.1, if_pos ⟨by omega, by omega, by omega, by omega⟩, if_pos]
        simp only [Int.toNat_natCast, hrc, Bool.and_true, decide_eq_true_eq]
        omega
      obtain ⟨W3, hW3⟩ : ∃ W3, w2.alloc (.cells #[.int .i64 (i : Int), .int .i64 (j : Int)] 29) = W3 := ⟨_, rfl⟩
      have hb3 : Below w2.heap.size w2 W3 := by rw [← hW3]; exact (Below.refl _ _).alloc (Nat.le_refl _) _
      have hbx : W3.heap[w2.heap.size]? = some (.cells #[.int .i64 (i : Int), .int .i64 (j : Int)] 29 (0, 0)) := by rw [← hW3]; exact Go.heap_alloc_new w2 _
      have hlo3 := H2.out.1.trans (hb3.mono H2.out.1.size)
      have hrd3 := H2.out.2.2.1.below hb3
      have hwt := witness_calls l HR.out (by omega) (i : Int) (j : Int) B cp W3 hrd3
      unfold WtPost at hwt
      rw [hwe, if_pos rfl, Int.toNat_natCast, Int.toNat_natCast, witL_eq] at hwt
      have y0 := cell_of_row _ w2.heap.size 0 _ _ _ hbx
      have y1 := cell_of_row _ w2.heap.size 1 _ _ _ hbx
      simp at y0 y1
      have HWT := Lib.hid hwt
      have HP := Lib.hid (And.intro hpf (And.intro hpg (And.intro r3 (And.intro h12 h2l))))
      have H3 := Lib.hid (And.intro hlo3 (And.intro hrd3 hbx))
      have HW3 := Lib.hid hW3
      clear hmem h12 h2l hrc hcb r1 r2 r3 r4 hpf hpg hwe hb3 hbx hlo3 hrd3 hwt hW3 hr
      go_upto_region 10 with fail
      rw [HW3.out]
      clear c0 c1 hri hri2 hx0 hrx e0 e1 hlx hrl h0
      go_wp2_with fail
      (with_reducible refine (HWT.out).mono ?_); rintro e w4 ⟨v4, rfl, ho, hb4⟩
      obtain ⟨S4, c4, rfl, hc4, hr4, _⟩ := ho.form lenN
      have hol : (wtO l i j i j).length = l.length := HP.out.1.len
      have hrI : Rd encI 1 w4 S4 ((wtO l i j i j).map (fun (x : Nat) => (x : Int))) := by
        obtain ⟨S', c', hv, _, h, _⟩ := (own_IN ho).form lenI
        obtain ⟨rfl, _, _⟩ := Value.slice.inj hv
        exact h
      have hix := index_calls _ (i : Int) S4 c4 w4 hrI
      rw [wtO_idx, List.length_map, hol] at hix
      rw [hol] at ho hc4 ⊢
      have hkl := wtO_len l i j i j
      rw [hol] at hkl
      have hbx4 := (hb4.block _ (Array.getElem?_eq_some_iff.1 H3.out.2.2).1).trans H3.out.2.2
      have hlo4 := H3.out.1.trans (hb4.mono H3.out.1.size)
      have HIX := Lib.hid hix
      have H4 := Lib.hid (And.intro ho (And.intro hc4 (And.intro hr4 (And.intro hbx4 (And.intro hlo4 (And.intro (H3.out.2.1.below hb4) hol))))))
      have HB4 := Lib.hid hb4
      clear ho hc4 hrI hix hb4 hlo4 y0 y1
      have y0 := cell_of_row _ w2.heap.size 0 _ _ _ hbx4
      have y1 := cell_of_row _ w2.heap.size 1 _ _ _ hbx4
      simp at y0 y1
      obtain ⟨a4, rfl, h4a⟩ := hr4.cell (wtA l i j l.length).length (by omega)
      obtain ⟨a4', e4, h4b⟩ := hr4.cell ((wtA l i j l.length).length + 1) (by omega)
      cases e4
      have x0 : w4.cell? (a4.add (wtA l i j l.length).length) = some (.int .i64 (i : Int)) := by
        have := h4a 0 (.int .i64 (i : Int)) (by rw [wtO_at0]; rfl)
        simpa only [Nat.mul_one, Nat.add_zero] using this
      have x1 : w4.cell? (a4.add ((wtA l i j l.length).length + 1)) = some (.int .i64 (j : Int)) := by
        have := h4b 0 (.int .i64 (j : Int)) (by rw [wtO_at1]; rfl)
        simpa only [Nat.mul_one, Nat.add_zero] using this
      clear h4a h4b
      generalize hkk : (wtA l i j l.length).length = k at *
      have hkk1 : k + 1 < l.length := by omega
      have hkk2 : (k : Int) + 1 < (l.length : Int) := by omega
      have hkk3 : (k : Int) < (l.length : Int) := by omega
      have d1 : decide ((k : Int) < 0) = false := decide_eq_false (by omega)
      have d2 : decide (l.length ≤ k + 1) = false := decide_eq_false (by omega)
      have d3 : decide ((l.length : Int) ≤ (k : Int) + 1) = false := decide_eq_false (by omega)
      have HKK := Lib.hid hkk
      clear hkk hr4 hbx4 hkl hol
      have x1' : w4.cell? ⟨a4.block, a4.off + (k + 1), none⟩ = some (.int .i64 (j : Int)) := by
        rw [← x1]; congr 1
      clear x1
      have wr1 : wrap64 ((k : Int) + 1) = (k : Int) + 1 := wrap64_fit _ (by omega)
      have wr2 : IntKind.i64.wrap ((k : Int) + 1) = (k : Int) + 1 := by rw [IntKind.wrap_i64]; omega
      have wr3 : ((k : Int) + 1).toNat = k + 1 := by omega
      obtain ⟨bx, hbx⟩ : ∃ bx, w2.heap.size = bx := ⟨_, rfl⟩
      rw [hbx] at y0 y1 H4 ⊢
      have HBX := Lib.hid hbx
      clear hbx
      go_upto_region 14 with ((with_reducible refine (HIX.out).mono ?_); rintro e w5 ⟨rfl, rfl⟩)
      go_quiet (fail)
      have HWR := Lib.hid (And.intro wr1 (And.intro wr2 (And.intro wr3 (show (0 : Int) ≤ (k : Int) + 1 by omega))))
      clear wr1 wr2 wr3
      have hlo6 : Below w.heap.size w (w5.drewN nq) := drewN_below H4.out.2.2.2.2.1 nq
      have hro := reorder_calls l HR.out HV.out.2.1 HV.out.1 (wtO l i j i j) HP.out.1.lt HP.out.1.nd H4.out.2.2.2.2.2.2 B cp (some a4) c4 (by rw [H4.out.2.2.2.2.2.2]; exact H4.out.2.1) (w5.drewN nq) (H4.out.2.2.2.2.2.1.below (drewN_below (Below.refl _ _) nq)) (H4.out.2.2.1.below (drewN_below (Below.refl _ _) nq))
      unfold RoPost at hro
      rw [HP.out.1.pmA, if_pos rfl, if_pos rfl, H4.out.2.2.2.2.2.2] at hro
      obtain ⟨W6, hW6⟩ : ∃ W6, w5.drewN nq = W6 := ⟨_, rfl⟩
      have hb6 : Below w5.heap.size w5 W6 := by rw [← hW6]; exact drewN_below (Below.refl _ _) nq
      rw [hW6] at hlo6 hro ⊢
      have ho6 := H4.out.1.rest hb6
      have hbx6 := (hb6.block _ (Array.getElem?_eq_some_iff.1 H4.out.2.2.2.1).1).trans H4.out.2.2.2.1
      have hrd6 := H4.out.2.2.2.2.2.1.below hb6
      have HRO := Lib.hid hro
      have H6 := Lib.hid (And.intro ho6 (And.intro hbx6 (And.intro hrd6 hlo6)))
      have HB6 := Lib.hid (HB4.out.trans (hb6.mono HB4.out.size))
      clear hW6 hb6 hro ho6 hbx6 hrd6 hlo6 x0 x1' y0 y1
      go_wp2_with fail
      (with_reducible refine (HRO.out).mono ?_); rintro e w7 ⟨v7, rfl, hv7, hb7⟩
      have hb7' : Below W6.heap.size W6 w7 := hb7
      have ho7 := H6.out.1.rest hb7'
      have hbx7 := (hb7'.block _ (Array.getElem?_eq_some_iff.1 H6.out.2.1).1).trans H6.out.2.1
      have H7 := Lib.hid (And.intro ho7 (And.intro hbx7 (And.intro (H6.out.2.2.1.below hb7') (H6.out.2.2.2.trans (hb7'.mono H6.out.2.2.2.size)))))
      have HB7 := Lib.hid (HB6.out.trans (hb7'.mono HB6.out.size))
      clear hb7 hb7' hv7 ho7 hbx7
      go_upto_region 19 with fail
      obtain ⟨g4, c4', hv4, hg4, hgs4, _⟩ := H7.out.1.row lenN (by rw [H4.out.2.2.2.2.2.2]; omega)
      obtain ⟨e4, hq4, ec4⟩ := Value.slice.inj hv4
      cases e4
      subst ec4
      clear hq4 hv4
      have hlen := H4.out.2.2.2.2.2.2
      have ha0 : (wtO l i j i j)[k]'(by rw [hlen]; omega) = i := by
        have := wtO_at0 l i j i j (by rw [HKK.out, hlen]; omega)
        simp only [HKK.out] at this
        exact this
      have ha1 : (wtO l i j i j)[k + 1]'(by rw [hlen]; omega) = j := by
        have := wtO_at1 l i j i j (by rw [HKK.out, hlen]; omega)
        simp only [HKK.out] at this
        exact this
      obtain ⟨tc0, tf0⟩ := H7.out.1.cell lenN hlen k (by rw [hlen]; omega) 0 (.int .i64 (i : Int)) (by rw [ha0]; rfl)
      obtain ⟨tc1, tf1⟩ := H7.out.1.cell lenN hlen (k + 1) (by rw [hlen]; omega) 0 (.int .i64 (j : Int)) (by rw [ha1]; rfl)
      simp only [Nat.mul_one, Nat.add_zero] at tc0 tc1 tf0 tf1
      have s1 := H7.out.1.set lenN hlen k (by rw [hlen]; omega) 0 (by decide) (.int .i64 (j : Int)) j rfl
      have s2 := s1.1.set lenN (by rw [List.length_set, hlen]) (k + 1) (by rw [List.length_set, hlen]; omega) 0 (by decide) (.int .i64 (i : Int)) i rfl
      have q1 := H7.out.1.set lenN hlen (k + 1) (by rw [hlen]; omega) 0 (by decide) (.int .i64 (i : Int)) i rfl
      have q2 := q1.1.set lenN (by rw [List.length_set, hlen]) k (by rw [List.length_set, hlen]; omega) 0 (by decide) (.int .i64 (j : Int)) j rfl
      have hsw := wtO_swap l i j i j
      rw [HKK.out] at hsw
      rw [List.set_comm _ _ (by omega)] at q2
      rw [hsw] at s2 q2
      simp only [Nat.mul_one, Nat.add_zero] at s1 s2 q1 q2
      have hwg : W3.heap.size ≤ g4 := hg4
      have hbg : bx ≠ g4 := fun e => by
        have := (H7.out.1.blk g4 rfl).2.2
        obtain ⟨cur, hc⟩ := this
        rw [← e, H7.out.2.1] at hc
        cases hc
      have hsx : ∀ (m1 m2 : Nat) (v1 v2 : Value), ((w7.setCell ⟨g4, m1, none⟩ v1).setCell ⟨g4, m2, none⟩ v2).drew.heap[bx]? = some (.cells #[.int .i64 (i : Int), .int .i64 (j : Int)] 29 (0, 0)) := fun m1 m2 v1 v2 => by
        show ((w7.setCell ⟨g4, m1, none⟩ v1).setCell ⟨g4, m2, none⟩ v2).heap[bx]? = _
        rw [heap_setCell_other _ _ _ _ hbg, heap_setCell_other _ _ _ _ hbg]
        exact H7.out.2.1
      have HS := Lib.hid (And.intro s2.1 (And.intro q2.1 (And.intro hwg (And.intro (hsx k (k + 1) (.int .i64 (j : Int)) (.int .i64 (i : Int))) (hsx (k + 1) k (.int .i64 (i : Int)) (.int .i64 (j : Int)))))))
      clear s1 s2 q1 q2 ha0 ha1 hlen hsw hwg hbg hsx
      obtain ⟨wr1, wr2, wr3, wr4⟩ := HWR.out
      go_cut [88] (fun s88 wx => Own encN 1 3 wx W3.heap.size (.slice (some ⟨g4, 0, none⟩) l.length c4) (wtO l i j j i) ∧ wx.heap[bx]? = some (.cells #[.int .i64 (i : Int), .int .i64 (j : Int)] 29 (0, 0)) ∧ Below W3.heap.size W3 wx)
      case first =>
        go_region
        all_goals (
          go_wp2_with fail
          go_meet
          first
          | exact ⟨HS.out.1.rest (bb_drew (Below.refl _ _)), HS.out.2.2.2.1, bb_drew ((HB7.out.setCell HS.out.2.2.1 _).setCell HS.out.2.2.1 _)⟩
          | exact ⟨HS.out.2.1.rest (bb_drew (Below.refl _ _)), HS.out.2.2.2.2, bb_drew ((HB7.out.setCell HS.out.2.2.1 _).setCell HS.out.2.2.1 _)⟩)
      case rest =>
        obtain ⟨ho8, hbx8, hlo8⟩ := hcut
        have hrd8 := H3.out.2.1.below hlo8
        have hlw8 := H3.out.1.trans (hlo8.mono H3.out.1.size)
        obtain ⟨S9, c9, hv9, hc9, hr9, _⟩ := ho8.form lenN
        have hlen9 : (wtO l i j j i).length = l.length := HP.out.2.1.len
        rw [hlen9] at hv9 hc9
        obtain ⟨e9, _, e9'⟩ := Value.slice.inj hv9
        subst e9 e9'
        clear hv9
        have hro := reorder_calls l HR.out HV.out.2.1 HV.out.1 (wtO l i j j i) HP.out.2.1.lt HP.out.2.1.nd hlen9 B cp (some ⟨g4, 0, none⟩) c4 (by rw [hlen9]; exact hc9) wc hrd8 hr9
        unfold RoPost at hro
        rw [HP.out.2.1.pmA, if_pos rfl, if_pos rfl, hlen9] at hro
        have hlm : ((wtO l i j j i).map (evA l)).length = l.length := by rw [List.length_map, hlen9]
        have HRO2 := Lib.hid hro
        have H8 := Lib.hid (And.intro hbx8 (And.intro hrd8 (And.intro hlw8 hlm)))
        clear ho8 hbx8 hlo8 hrd8 hlw8 hc9 hr9 hlen9 hro hlm wr1 wr2 wr3 wr4 tc0 tc1 tf0 tf1 hg4 hgs4
        go_wp2_with fail
        (with_reducible refine (HRO2.out).mono ?_); rintro e w9 ⟨v9, rfl, hv9, hb9⟩
        obtain ⟨S10, c10, rfl, _, _, _⟩ := hv9.form lenE
        rw [H8.out.2.2.2]
        have hbx9 := (hb9.block _ (Array.getElem?_eq_some_iff.1 H8.out.1).1).trans H8.out.1
        have hrd9 := H8.out.2.1.below hb9
        have hlo9 := H8.out.2.2.1.trans (hb9.mono H8.out.2.2.1.size)
        have H9 := Lib.hid (And.intro hbx9 (And.intro hrd9 hlo9))
        clear hbx9 hrd9 hlo9 hv9 hb9
        go_upto_region 21 with fail
        have hil : i < l.length := by have := HP.out.2.2.2.1; have := HP.out.2.2.2.2; omega
        have hjl : j < l.length := HP.out.2.2.2.2
        cases B with
        | none =>
          exfalso
          obtain ⟨a, ha, _⟩ := H9.out.2.1.cell i hil
          cases ha
        | some a =>
        have hci := ev_cells H9.out.2.1 i hil
        have hcj := ev_cells H9.out.2.1 j hjl
        rw [← evA_eq l i hil] at hci
        rw [← evA_eq l j hjl] at hcj
        have hcf := HP.out.2.2.1
        obtain ⟨ei, hei⟩ : ∃ e, evA l i = e := ⟨_, rfl⟩
        obtain ⟨ej, hej⟩ : ∃ e, evA l j = e := ⟨_, rfl⟩
        rw [hei] at hci hcf
        rw [hej] at hcj hcf
        have hcc := conflict_calls ei ej w9.drew
        rw [hcf] at hcc
        have HCC := Lib.hid hcc
        have y0 := cell_of_row _ bx 0 _ _ _ H9.out.1
        have y1 := cell_of_row _ bx 1 _ _ _ H9.out.1
        simp at y0 y1
        have hS : ∀ w', Below w9.heap.size w9 w' → (w'.cell? ⟨bx, 0, none⟩ = some (.int .i64 (i : Int)) ∧ w'.cell? ⟨bx, 1, none⟩ = some (.int .i64 (j : Int)) ∧ w'.cell? ⟨(a.add (i * 11)).block, (a.add (i * 11)).off + 1, none⟩ = some (.int .i64 ei.t) ∧ w'.cell? ⟨(a.add (i * 11)).block, (a.add (i * 11)).off + 2, none⟩ = some (.int .i64 ei.p) ∧ w'.cell? ⟨(a.add (i * 11)).block, (a.add (i * 11)).off + 3, none⟩ = some (.int .i64 ei.q) ∧ w'.cell? ⟨(a.add (i * 11)).block, (a.add (i * 11)).off + 4, none⟩ = some (.int .i64 ei.r) ∧ w'.cell? ⟨(a.add (i * 11)).block, (a.add (i * 11)).off + 5, none⟩ = some (.int .i64 ei.m) ∧ w'.cell? ⟨(a.add (i * 11)).block, (a.add (i * 11)).off + 6, none⟩ = some (.int .i64 ei.f) ∧ w'.cell? ⟨(a.add (i * 11)).block, (a.add (i * 11)).off + 7, none⟩ = some (.int .i64 ei.a) ∧ w'.cell? ⟨(a.add (j * 11)).block, (a.add (j * 11)).off + 1, none⟩ = some (.int .i64 ej.t) ∧ w'.cell? ⟨(a.add (j * 11)).block, (a.add (j * 11)).off + 2, none⟩ = some (.int .i64 ej.p) ∧ w'.cell? ⟨(a.add (j * 11)).block, (a.add (j * 11)).off + 3, none⟩ = some (.int .i64 ej.q) ∧ w'.cell? ⟨(a.add (j * 11)).block, (a.add (j * 11)).off + 4, none⟩ = some (.int .i64 ej.r) ∧ w'.cell? ⟨(a.add (j * 11)).block, (a.add (j * 11)).off + 5, none⟩ = some (.int .i64 ej.m) ∧ w'.cell? ⟨(a.add (j * 11)).block, (a.add (j * 11)).off + 6, none⟩ = some (.int .i64 ej.f) ∧ w'.cell? ⟨(a.add (j * 11)).block, (a.add (j * 11)).off + 7, none⟩ = some (.int .i64 ej.a)) := fun w' hb => by
          have kc := fun (p : Addr) (v : Value) (h : w9.cell? p = some v) => (hb.cell (World.block_lt_of_cell? _ _ h)).trans h
          obtain ⟨p0, p1, p2, p3, p4, p5, p6, p7, p8, p9, p10⟩ := ev_eleven hci
          obtain ⟨q0, q1, q2, q3, q4, q5, q6, q7, q8, q9, q10⟩ := ev_eleven hcj
          exact ⟨kc _ _ y0, kc _ _ y1, kc _ _ p1, kc _ _ p2, kc _ _ p3, kc _ _ p4, kc _ _ p5, kc _ _ p6, kc _ _ p7, kc _ _ q1, kc _ _ q2, kc _ _ q3, kc _ _ q4, kc _ _ q5, kc _ _ q6, kc _ _ q7⟩
        have HSK := Lib.hid hS
        have hii : (i : Int) < (l.length : Int) := by omega
        have hjj : (j : Int) < (l.length : Int) := by omega
        clear hS y0 y1 hci hcj hcf hcc hei hej
        go_region_held3 (fun w' => w'.cell? ⟨bx, 0, none⟩ = some (.int .i64 (i : Int)) ∧ w'.cell? ⟨bx, 1, none⟩ = some (.int .i64 (j : Int)) ∧ w'.cell? ⟨(a.add (i * 11)).block, (a.add (i * 11)).off + 1, none⟩ = some (.int .i64 ei.t) ∧ w'.cell? ⟨(a.add (i * 11)).block, (a.add (i * 11)).off + 2, none⟩ = some (.int .i64 ei.p) ∧ w'.cell? ⟨(a.add (i * 11)).block, (a.add (i * 11)).off + 3, none⟩ = some (.int .i64 ei.q) ∧ w'.cell? ⟨(a.add (i * 11)).block, (a.add (i * 11)).off + 4, none⟩ = some (.int .i64 ei.r) ∧ w'.cell? ⟨(a.add (i * 11)).block, (a.add (i * 11)).off + 5, none⟩ = some (.int .i64 ei.m) ∧ w'.cell? ⟨(a.add (i * 11)).block, (a.add (i * 11)).off + 6, none⟩ = some (.int .i64 ei.f) ∧ w'.cell? ⟨(a.add (i * 11)).block, (a.add (i * 11)).off + 7, none⟩ = some (.int .i64 ei.a) ∧ w'.cell? ⟨(a.add (j * 11)).block, (a.add (j * 11)).off + 1, none⟩ = some (.int .i64 ej.t) ∧ w'.cell? ⟨(a.add (j * 11)).block, (a.add (j * 11)).off + 2, none⟩ = some (.int .i64 ej.p) ∧ w'.cell? ⟨(a.add (j * 11)).block, (a.add (j * 11)).off + 3, none⟩ = some (.int .i64 ej.q) ∧ w'.cell? ⟨(a.add (j * 11)).block, (a.add (j * 11)).off + 4, none⟩ = some (.int .i64 ej.r) ∧ w'.cell? ⟨(a.add (j * 11)).block, (a.add (j * 11)).off + 5, none⟩ = some (.int .i64 ej.m) ∧ w'.cell? ⟨(a.add (j * 11)).block, (a.add (j * 11)).off + 6, none⟩ = some (.int .i64 ej.f) ∧ w'.cell? ⟨(a.add (j * 11)).block, (a.add (j * 11)).off + 7, none⟩ = some (.int .i64 ej.a)) (first | with_reducible exact HSK.out _ (Below.refl _ _) | with_reducible exact HSK.out _ (bb_drew (Below.refl _ _)) | with_reducible exact HSK.out _ HB10.out | with_reducible exact HSK.out _ HB11.out | fail) (first | (go_at_call 24; (with_reducible refine (HCC.out).mono ?_); rintro e w10 ⟨rfl, hb10⟩; have HB10 := Lib.hid (show Below w9.heap.size w9 w10 from (bb_drew (Below.refl w9.heap.size w9)).trans hb10); clear hb10) | (go_at_call 11; (with_reducible refine (HA.out _).mono ?_); rintro e w11 ⟨rfl, hb11⟩; have HB11 := Lib.hid (HB10.out.trans (hb11.mono HB10.out.size)); clear hb11) | fail)
        all_goals (
          go_wp2_with fail
          go_ret
          refine ⟨rfl, ?_⟩
          exact H9.out.2.2.trans (HB11.out.mono H9.out.2.2.size))
end Go.Proofs.Ythebembnlmddoaa
