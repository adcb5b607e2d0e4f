import Derived.Test.YthebembnlmddoaaD
namespace Go.Proofs.Ythebembnlmddoaa
open Go.RowKit
set_option maxHeartbeats 8000000
set_option maxRecDepth 100000
set_option linter.unusedSimpArgs false
set_option linter.unusedVariables false

theorem check_long (n c : Nat) (h : 2000 < n) (hm : n ≤ maxLen) (A : Option Addr) (w : World) : Calls Try.prog 20 #[.slice A n c] w fun e w' => e = .returned (.int .i64 5) ∧ Below w.heap.size w w' := by
  unfold maxLen at hm
  go_enter Try.func20, Try.ntmps20
  go_wp2_with fail
  go_ret
  exact ⟨rfl, Below.refl _ _⟩
theorem check_calls (l : List Ev) (hok : ∀ e ∈ l, e.ok) (A : Option Addr) (c : Nat) (w : World) (hA : Rd encE 11 w A l) :
    Calls Try.prog 20 #[.slice A l.length c] w fun e w' => e = .returned (.int .i64 (chkF l)) ∧ Below w.heap.size w w' := by
  by_cases h0 : 2000 < l.length
  · have hc : chkF l = 5 := by unfold chkF; rw [if_pos h0]
    rw [hc]
    exact check_long _ _ h0 hA.small A w
  have hl : l.length ≤ 2000 := by omega
  have hsm := hA.small
  have HI := Lib.hid (And.intro hA hok)
  have hmm := @run_makeMap Try.prog
  have h230 : ∀ i, i < l.length → okAt l i = false → chkF l = 230 := fun i hi hb => by
    unfold chkF
    rw [if_neg h0, if_neg]
    rw [rtB_no l i hi hb]; decide
  have h00 : (∀ i, i < l.length → okAt l i = true) → chkF l = 0 := fun h => by
    unfold chkF
    rw [if_neg h0, if_pos (rtB_yes l h)]
  have HC := Lib.hid (And.intro h230 h00)
  clear hA hok h230 h00 h0
  go_enter Try.func20, Try.ntmps20
  go_wp2_with fail
  have hs0 := StM.made w
  have hb0 : Below w.heap.size w (w.alloc (.map #[] 0)) := (Below.refl _ _).alloc (Nat.le_refl _) _
  have H0 := Lib.hid (And.intro hs0 hb0)
  clear hs0 hb0 hmm
  go_loopg [2, 4, 5, 6, 13, 14, 15, 16, 17, 18, 19, 20, 21, 22, 23, 24, 25, 26, 27, 28, 29, 30, 31, 32, 33, 34, 35, 36, 37, 38, 39, 40, 41, 42, 43, 44, 45, 46, 47, 48, 49, 50, 51, 52, 53, 54, 55, 56, 57, 58, 59, 60, 61, 62, 63, 64, 65, 66, 67, 68, 69, 70, 71, 72, 73, 74, 75, 76, 77, 78, 79, 80, 81, 82, 83, 84, 85, 86, 87, 88, 89, 90] l.length (fun gk v2 v4 v5 v6 v13 v14 v15 v16 v17 v18 v19 v20 v21 v22 v23 v24 v25 v26 v27 v28 v29 v30 v31 v32 v33 v34 v35 v36 v37 v38 v39 v40 v41 v42 v43 v44 v45 v46 v47 v48 v49 v50 v51 v52 v53 v54 v55 v56 v57 v58 v59 v60 v61 v62 v63 v64 v65 v66 v67 v68 v69 v70 v71 v72 v73 v74 v75 v76 v77 v78 v79 v80 v81 v82 v83 v84 v85 v86 v87 v88 v89 v90 wr => ∃ i : Nat, i + gk = l.length ∧ v13 = .int .i64 (i : Int) ∧ (∀ j, j < i → okAt l j = true) ∧ StM wr w.heap.size (2 * i) (stF (l.take i)) ∧ Below w.heap.size w wr)
  case atStart => exact ⟨0, by omega, rfl, fun j hj => by omega, by rw [List.take_zero]; exact H0.out.1, H0.out.2⟩
  case round =>
    obtain ⟨i, hi, rfl, hall, hst, hbl⟩ := hrel
    clear H0
    by_cases hil : i < l.length
    · have hd : decide (i < l.length) = true := decide_eq_true hil
      cases A with
      | none =>
        exfalso
        obtain ⟨a, ha, _⟩ := HI.out.1.cell i hil
        cases ha
      | some a =>
      have hRA := HI.out.1.below hbl
      have hcs := ev_cells hRA i hil
      have hroot := root_cell hRA (by omega)
      have hoke := HI.out.2 _ (List.getElem_mem hil)
      have hoa := okAt_eq l i hil
      have hsn := take_snoc l i hil
      have HX := Lib.hid (And.intro hall (And.intro hst (And.intro hbl (And.intro hcs (And.intro hoa (And.intro hsn hoke))))))
      generalize l[i] = e at *
      obtain ⟨W5, hW5⟩ : ∃ W5, wr.alloc (.cells e.cells 42) = W5 := ⟨_, rfl⟩
      have hb5 : Below wr.heap.size wr W5 := by rw [← hW5]; exact (Below.refl _ _).alloc (Nat.le_refl _) _
      have hbox : W5.heap[wr.heap.size]? = some (.cells e.cells 42 (0, 0)) := by rw [← hW5]; exact Go.heap_alloc_new wr _
      have H5 := Lib.hid (And.intro hb5 (And.intro hbox hroot))
      clear hRA hcs hroot hoke hoa hsn hall hst hbl hb5 hbox
      go_upto_region 7 with (refine wpList_load_ev rfl _ 42 (Or.inl rfl) rfl (a.add (i * 11)) e rfl HX.out.2.2.2.1 ?_)
      try rw [hW5]
      clear hW5
      have y0 : W5.cell? ⟨wr.heap.size, 0, none⟩ = some (.int .i64 e.k) := by rw [cell_of_row _ _ _ _ _ _ H5.out.2.1]; rfl
      have y1 : W5.cell? ⟨wr.heap.size, 1, none⟩ = some (.int .i64 e.t) := by rw [cell_of_row _ _ _ _ _ _ H5.out.2.1]; rfl
      have y8 : W5.cell? ⟨wr.heap.size, 8, none⟩ = some (.int .i64 e.o) := by rw [cell_of_row _ _ _ _ _ _ H5.out.2.1]; rfl
      have hcb : ∀ j v, (encE e)[j]? = some v → W5.cell? ((⟨wr.heap.size, 0, none⟩ : Addr).add j) = some v := fun j v hv => by
        rw [add_at, cell_of_row _ _ _ _ _ _ H5.out.2.1]
        simpa using hv
      have hrt5 := (H5.out.1.cell (World.block_lt_of_cell? _ _ H5.out.2.2)).trans H5.out.2.2
      have hst5 := HX.out.2.1.rest H5.out.1
      have HY := Lib.hid (And.intro y0 (And.intro y1 (And.intro y8 (And.intro hcb (And.intro hrt5 hst5)))))
      have hfm := formed_calls e W5
      have HF := Lib.hid hfm
      clear y0 y8 hcb hrt5 hst5 hfm
      go_upto_region 8 with fail
      obtain ⟨ms, hms⟩ : ∃ ms, l.take i = ms := ⟨_, rfl⟩
      rw [hms] at HX HY
      have hme : ms.isEmpty = decide (i = 0) := by
        rw [← hms, Bool.eq_iff_iff]
        simp only [List.isEmpty_iff, decide_eq_true_eq, List.take_eq_nil_iff]
        constructor
        · rintro (h | h)
          · exact h
          · subst h; simp at hil
        · intro h; exact Or.inl h
      have HMS := Lib.hid (And.intro hms hme)
      clear hms hme
      obtain ⟨B0, hB0⟩ : ∃ B, (fmB e && (ms.isEmpty || decide (e.t = rootF l) || fkB ms e.t) && !jnB ms e.t) = B := ⟨_, rfl⟩
      have HB0 := Lib.hid hB0
      have hti := HX.out.2.2.2.2.2.2.t
      clear hB0
      go_cut [50] (fun s50 wx => s50 = .bool (!B0) ∧ Below W5.heap.size W5 wx)
      case first =>
        cases hf : fmB e with
        | false =>
          obtain rfl : B0 = false := by rw [← HB0.out, hf]; rfl
          rw [hf] at HF
          clear hf
          go_wp2_with (first | (refine wpList_load_ev rfl _ 42 (Or.inl rfl) rfl ⟨wr.heap.size, 0, none⟩ e rfl HY.out.2.2.2.1 ?_) | ((with_reducible refine (HF.out).mono ?_); rintro x w2 ⟨rfl, hb2⟩))
          go_meet
          exact ⟨rfl, hb2⟩
        | true =>
          rw [hf] at HF
          have HFM := Lib.hid hf
          clear hf
          have hlk := fun w2 (hb2 : Below W5.heap.size W5 w2) => (HY.out.2.2.2.2.2.rest hb2).look e.t hti
          have hs1 := bits_and1 (stF ms e.t)
          have hs4 := bits_and4 (stF ms e.t)
          have hrc := fun w2 (hb2 : Below W5.heap.size W5 w2) => (hb2.cell (World.block_lt_of_cell? _ _ HY.out.2.2.2.2.1)).trans HY.out.2.2.2.2.1
          have h1f : (stF ms e.t).f = fkB ms e.t := rfl
          have h1j : (stF ms e.t).j = jnB ms e.t := rfl
          rw [h1f] at hs1
          rw [h1j] at hs4
          have HLK := Lib.hid (And.intro hlk hrc)
          generalize bv (stF ms e.t) = sv at *
          clear hlk hrc h1f h1j
          by_cases hi0 : i = 0
          · have hd0 : decide (0 < i) = false := decide_eq_false (by omega)
            have HI0 := Lib.hid hi0
            clear hi0
            cases hj : jnB ms e.t with
            | true =>
              rw [hj] at hs4
              obtain rfl : B0 = false := by rw [← HB0.out, HFM.out, HMS.out.2]; simp [HI0.out, hj]
              go_wp2_with (first | (refine wpList_load_ev rfl _ 42 (Or.inl rfl) rfl ⟨wr.heap.size, 0, none⟩ e rfl HY.out.2.2.2.1 ?_) | fail)
              (with_reducible refine (HF.out).mono ?_); rintro x w2 ⟨rfl, hb2⟩
              have hlk := HLK.out.1 w2 hb2
              have hrc := HLK.out.2 w2 hb2
              have HB2 := Lib.hid hb2
              clear hb2
              go_wp2_with fail
              go_meet
              exact ⟨rfl, HB2.out⟩
            | false =>
              rw [hj] at hs4
              obtain rfl : B0 = true := by rw [← HB0.out, HFM.out, HMS.out.2]; simp [HI0.out, hj]
              go_wp2_with (first | (refine wpList_load_ev rfl _ 42 (Or.inl rfl) rfl ⟨wr.heap.size, 0, none⟩ e rfl HY.out.2.2.2.1 ?_) | fail)
              (with_reducible refine (HF.out).mono ?_); rintro x w2 ⟨rfl, hb2⟩
              have hlk := HLK.out.1 w2 hb2
              have hrc := HLK.out.2 w2 hb2
              have HB2 := Lib.hid hb2
              clear hb2
              go_wp2_with fail
              go_meet
              exact ⟨rfl, HB2.out⟩
          · have hd0 : decide (0 < i) = true := decide_eq_true (by omega)
            by_cases ht : e.t = rootF l
            · have htn : (e.t != rootF l) = false := by simpa using ht
              have HTE := Lib.hid ht
              clear ht
              cases hj : jnB ms e.t with
              | true =>
                rw [hj] at hs4
                obtain rfl : B0 = false := by rw [← HB0.out, HFM.out, HMS.out.2]; simp [decide_eq_true HTE.out, hj]
                go_wp2_with (first | (refine wpList_load_ev rfl _ 42 (Or.inl rfl) rfl ⟨wr.heap.size, 0, none⟩ e rfl HY.out.2.2.2.1 ?_) | fail)
                (with_reducible refine (HF.out).mono ?_); rintro x w2 ⟨rfl, hb2⟩
                have hlk := HLK.out.1 w2 hb2
                have hrc := HLK.out.2 w2 hb2
                have HB2 := Lib.hid hb2
                clear hb2
                go_wp2_with fail
                go_meet
                exact ⟨rfl, HB2.out⟩
              | false =>
                rw [hj] at hs4
                obtain rfl : B0 = true := by rw [← HB0.out, HFM.out, HMS.out.2]; simp [decide_eq_true HTE.out, hj]
                go_wp2_with (first | (refine wpList_load_ev rfl _ 42 (Or.inl rfl) rfl ⟨wr.heap.size, 0, none⟩ e rfl HY.out.2.2.2.1 ?_) | fail)
                (with_reducible refine (HF.out).mono ?_); rintro x w2 ⟨rfl, hb2⟩
                have hlk := HLK.out.1 w2 hb2
                have hrc := HLK.out.2 w2 hb2
                have HB2 := Lib.hid hb2
                clear hb2
                go_wp2_with fail
                go_meet
                exact ⟨rfl, HB2.out⟩
            · have htn : (e.t != rootF l) = true := by simpa using ht
              cases hk : fkB ms e.t with
              | true =>
                rw [hk] at hs1
                cases hj : jnB ms e.t with
                | true =>
                  rw [hj] at hs4
                  obtain rfl : B0 = false := by rw [← HB0.out, HFM.out, HMS.out.2]; simp [hk, hj]
                  go_wp2_with (first | (refine wpList_load_ev rfl _ 42 (Or.inl rfl) rfl ⟨wr.heap.size, 0, none⟩ e rfl HY.out.2.2.2.1 ?_) | fail)
                  (with_reducible refine (HF.out).mono ?_); rintro x w2 ⟨rfl, hb2⟩
                  have hlk := HLK.out.1 w2 hb2
                  have hrc := HLK.out.2 w2 hb2
                  have HB2 := Lib.hid hb2
                  clear hb2
                  go_wp2_with fail
                  go_meet
                  exact ⟨rfl, HB2.out⟩
                | false =>
                  rw [hj] at hs4
                  obtain rfl : B0 = true := by rw [← HB0.out, HFM.out, HMS.out.2]; simp [hk, hj]
                  go_wp2_with (first | (refine wpList_load_ev rfl _ 42 (Or.inl rfl) rfl ⟨wr.heap.size, 0, none⟩ e rfl HY.out.2.2.2.1 ?_) | fail)
                  (with_reducible refine (HF.out).mono ?_); rintro x w2 ⟨rfl, hb2⟩
                  have hlk := HLK.out.1 w2 hb2
                  have hrc := HLK.out.2 w2 hb2
                  have HB2 := Lib.hid hb2
                  clear hb2
                  go_wp2_with fail
                  go_meet
                  exact ⟨rfl, HB2.out⟩
              | false =>
                rw [hk] at hs1
                obtain rfl : B0 = false := by rw [← HB0.out, HFM.out, HMS.out.2]; simp [hk, ht, hi0]
                go_wp2_with (first | (refine wpList_load_ev rfl _ 42 (Or.inl rfl) rfl ⟨wr.heap.size, 0, none⟩ e rfl HY.out.2.2.2.1 ?_) | fail)
                (with_reducible refine (HF.out).mono ?_); rintro x w2 ⟨rfl, hb2⟩
                have hlk := HLK.out.1 w2 hb2
                have hrc := HLK.out.2 w2 hb2
                have HB2 := Lib.hid hb2
                clear hb2
                go_wp2_with fail
                go_meet
                exact ⟨rfl, HB2.out⟩
      case rest =>
        obtain ⟨rfl, hbc⟩ := hcut
        have HBC := Lib.hid hbc
        have z0 := (hbc.cell (World.block_lt_of_cell? _ _ HY.out.1)).trans HY.out.1
        have z1 := (hbc.cell (World.block_lt_of_cell? _ _ HY.out.2.1)).trans HY.out.2.1
        have z8 := (hbc.cell (World.block_lt_of_cell? _ _ HY.out.2.2.1)).trans HY.out.2.2.1
        have zr := (hbc.cell (World.block_lt_of_cell? _ _ HY.out.2.2.2.2.1)).trans HY.out.2.2.2.2.1
        have zst := HY.out.2.2.2.2.2.rest hbc
        clear hbc y1
        cases hB : B0 with
        | false =>
          have h230 := HC.out.1 i hil (by
            rw [HX.out.2.2.2.2.1]
            unfold okE
            rw [HB0.out, hB]
            rfl)
          have H230 := Lib.hid h230
          have HLW := Lib.hid (HX.out.2.2.1.trans ((H5.out.1.trans (HBC.out.mono H5.out.1.size)).mono HX.out.2.2.1.size))
          subst hB
          clear h230 z0 z1 z8 zr zst
          go_wp2_with fail
          go_ret
          exact ⟨ret_int (H230.out).symm, HLW.out⟩
        | true =>
          subst hB
          have hb := HB0.out
          simp only [Bool.and_eq_true, Bool.not_eq_true'] at hb
          obtain ⟨⟨hfm, hc2⟩, hjn⟩ := hb
          have hlow : Below w.heap.size w wc := HX.out.2.2.1.trans ((H5.out.1.trans (HBC.out.mono H5.out.1.size)).mono HX.out.2.2.1.size)
          have hlk := zst.look e.t hti
          have hor := bits_or2 (stF ms e.t)
          obtain ⟨w6, hup, hst6, hg6⟩ := zst.put (by omega) e.t hti { stF ms e.t with b := true }
          have hmlt := HX.out.2.1.lt
          have hoi := HX.out.2.2.2.2.2.2.o
          have hne6 : w.heap.size ≠ wr.heap.size := by omega
          have hab : a.block < w.heap.size := by
            have := World.block_lt_of_cell? _ _ (root_cell HI.out.1 (by omega))
            exact this
          have u0 := hg6.cell z0 (fun e => hne6 (Option.some.inj e).symm)
          have u8 := hg6.cell z8 (fun e => hne6 (Option.some.inj e).symm)
          have ur := hg6.cell zr (fun e => by have := Option.some.inj e; simp at this; omega)
          have hlow6 := hlow.grown hg6 hlow.size (fun k hk => by cases hk; exact Nat.le_refl _)
          have HU := Lib.hid (And.intro hfm (And.intro hc2 (And.intro hjn (And.intro hst6 (And.intro hlow6 (And.intro u0 (And.intro u8 ur)))))))
          have hkind := fmB_kind e hfm
          have HNE := Lib.hid (And.intro hne6 hab)
          generalize bv (stF ms e.t) = sv at *
          generalize bv { stF ms e.t with b := true } = sv2 at *
          clear hfm hc2 hjn hst6 hlow6 u0 u8 ur z8 zr hg6 zst hlow hne6 hab hmlt
          go_upto_region 11 with fail
          clear hlk hor hup z0 z1
          have u0 := HU.out.2.2.2.2.2.1
          by_cases hk1 : e.k = 1
          · have k2 : (e.k == 2) = false := by rw [hk1]; rfl
            have k3 : (e.k == 3) = false := by rw [hk1]; rfl
            have hoa : okAt l i = true := by
              rw [HX.out.2.2.2.2.1]
              unfold okE
              rw [HB0.out, if_neg (by omega), if_neg (by omega)]
              rfl
            have hsF := HU.out.2.2.2.1.congr (G := stF (l.take (i + 1))) (fun t => by
              rw [HX.out.2.2.2.2.2.1]
              exact st_act ms e (by omega) (by omega) t)
            have HE := Lib.hid (And.intro hoa (hsF.mono (n' := 2 * (i + 1)) (by omega)))
            clear hk1 hoa hsF
            go_wp2_with fail
            go_roundg (gk - 1)
            case measure => omega
            case rel => exact ⟨i + 1, by omega, by go_num, fun j hj => by
              by_cases ej : j = i
              · subst ej; exact HE.out.1
              · exact HX.out.1 j (by omega), HE.out.2, HU.out.2.2.2.2.1⟩
          · have hne : e.o ≠ e.t := fmB_other e HU.out.1 (by rcases hkind with h | h; exact absurd h hk1; exact h)
            have hlo := fun n => (HU.out.2.2.2.1.rest (drewN_below (Below.refl _ _) n)).look e.o hoi
            simp only [if_neg hne] at hlo
            by_cases hk2 : e.k = 2
            · have k2 : (e.k == 2) = true := by rw [hk2]; rfl
              have k3 : (e.k == 3) = false := by rw [hk2]; rfl
              have hz := bv_zero (stF ms e.o)
              have hfo : (stF ms e.o).f = fkB ms e.o := rfl
              have hbo : (stF ms e.o).b = bgB ms e.o := rfl
              have hjo : (stF ms e.o).j = jnB ms e.o := rfl
              rw [hfo, hbo, hjo] at hz
              have hoa : okAt l i = (!fkB ms e.o && !bgB ms e.o && !jnB ms e.o && !decide (e.o = rootF l)) := by
                rw [HX.out.2.2.2.2.1]
                unfold okE
                rw [HB0.out, if_pos hk2]
                rfl
              by_cases hzo : bv (stF ms e.o) = 0
              · have hzz := hz.1 hzo
                by_cases hro : e.o = rootF l
                · have h230 := HC.out.1 i hil (by rw [hoa]; simp [hro])
                  have hd3 : (e.o == rootF l) = true := by simpa using hro
                  have H230 := Lib.hid h230
                  simp only [hzo] at hlo
                  have u8 := HU.out.2.2.2.2.2.2.1
                  have ur := HU.out.2.2.2.2.2.2.2
                  clear h230 hz hzo hzz hro hoa hk2 hfo hbo hjo
                  go_upto_region 13 with fail
                  go_quiet (fail)
                  go_wp2_with fail
                  go_ret
                  exact ⟨ret_int (H230.out).symm, drewN_below HU.out.2.2.2.2.1 nq⟩
                · have hd3 : (e.o == rootF l) = false := by simpa using hro
                  have hot : okAt l i = true := by rw [hoa, hzz.1, hzz.2.1, hzz.2.2]; simp [hro]
                  simp only [hzo] at hlo
                  have u8 := HU.out.2.2.2.2.2.2.1
                  have ur := HU.out.2.2.2.2.2.2.2
                  have HZ := Lib.hid (And.intro hzz (And.intro hot hk2))
                  clear hz hzo hzz hro hoa hk2 hfo hbo hjo hot
                  go_upto_region 13 with fail
                  go_quiet (fail)
                  obtain ⟨W7, hW7⟩ : ∃ W7, w6.drewN nq = W7 := ⟨_, rfl⟩
                  have hb7 : Below w6.heap.size w6 W7 := by rw [← hW7]; exact drewN_below (Below.refl _ _) nq
                  have hst7 := HU.out.2.2.2.1.rest hb7
                  obtain ⟨w8, hup8, hst8, hg8⟩ := hst7.put (by omega) e.o hoi ⟨true, false, false⟩
                  rw [show bv ⟨true, false, false⟩ = 1 by rfl] at hup8
                  have v8 := (hb7.cell (World.block_lt_of_cell? _ _ u8)).trans u8
                  have hlow7 := HU.out.2.2.2.2.1.trans (hb7.mono HU.out.2.2.2.2.1.size)
                  have hlow8 := hlow7.grown hg8 hlow7.size (fun k hk => by cases hk; exact Nat.le_refl _)
                  have hsF := hst8.congr (G := stF (l.take (i + 1))) (fun t => by
                    rw [HX.out.2.2.2.2.2.1]
                    exact st_fork ms e HZ.out.2.2 hne HZ.out.1.1 HZ.out.1.2.1 HZ.out.1.2.2 t)
                  have HE := Lib.hid (And.intro (hsF.mono (n' := 2 * (i + 1)) (by omega)) hlow8)
                  rw [hW7]
                  clear hW7 hb7 hst7 hst8 hg8 hlow7 hlow8 hsF u8 ur hlo
                  go_wp2_with fail
                  go_roundg (gk - 1)
                  case measure => omega
                  case rel => exact ⟨i + 1, by omega, by go_num, fun j hj => by
                    by_cases ej : j = i
                    · subst ej; exact HZ.out.2.1
                    · exact HX.out.1 j (by omega), HE.out.1, HE.out.2⟩
              · have h230 := HC.out.1 i hil (by
                  rw [hoa, Bool.eq_false_iff]
                  intro h
                  simp only [Bool.and_eq_true, Bool.not_eq_true'] at h
                  exact hzo (hz.2 ⟨h.1.1.1, h.1.1.2, h.1.2⟩))
                have hd3 : (bv (stF ms e.o) != 0) = true := by simpa using hzo
                have H230 := Lib.hid h230
                have u8 := HU.out.2.2.2.2.2.2.1
                have ur := HU.out.2.2.2.2.2.2.2
                generalize bv (stF ms e.o) = so at *
                clear h230 hz hzo hoa hk2 hfo hbo hjo
                go_upto_region 13 with fail
                go_quiet (fail)
                go_wp2_with fail
                go_ret
                exact ⟨ret_int (H230.out).symm, drewN_below HU.out.2.2.2.2.1 nq⟩
            · have hk3 : e.k = 3 := by omega
              have k2 : (e.k == 2) = false := by rw [hk3]; rfl
              have k3 : (e.k == 3) = true := by rw [hk3]; rfl
              clear hlo
              have hlo := HU.out.2.2.2.1.look e.o hoi
              rw [if_neg hne] at hlo
              have h1 := bits_and1 (stF ms e.o)
              have h4 := bits_or4 (stF ms e.o)
              have hfo : (stF ms e.o).f = fkB ms e.o := rfl
              rw [hfo] at h1
              have hoa : okAt l i = fkB ms e.o := by
                rw [HX.out.2.2.2.2.1]
                unfold okE
                rw [HB0.out, if_neg hk2, if_pos hk3]
                rfl
              have u8 := HU.out.2.2.2.2.2.2.1
              obtain ⟨w8, hup8, hst8, hg8⟩ := HU.out.2.2.2.1.put (by omega) e.o hoi { stF ms e.o with j := true }
              have hlow8 := HU.out.2.2.2.2.1.grown hg8 HU.out.2.2.2.2.1.size (fun k hk => by cases hk; exact Nat.le_refl _)
              have hsF := hst8.congr (G := stF (l.take (i + 1))) (fun t => by
                rw [HX.out.2.2.2.2.2.1]
                exact st_join ms e hk3 hne t)
              have HE := Lib.hid (And.intro (hsF.mono (n' := 2 * (i + 1)) (by omega)) (And.intro hlow8 (And.intro hoa hk3)))
              cases hfk : fkB ms e.o with
              | false =>
                rw [hfk] at h1 hoa
                have h230 := HC.out.1 i hil hoa
                have H230 := Lib.hid h230
                generalize bv (stF ms e.o) = so at *
                clear h230 hoa hk3 hk2 hfo hfk hst8 hg8 hlow8 hsF hup8
                go_wp2_with fail
                go_ret
                exact ⟨ret_int (H230.out).symm, HU.out.2.2.2.2.1⟩
              | true =>
                rw [hfk] at h1 hoa
                have HOA := Lib.hid hoa
                generalize bv (stF ms e.o) = so at *
                generalize bv { stF ms e.o with j := true } = so2 at *
                clear hoa hk3 hk2 hfo hfk hst8 hg8 hlow8 hsF
                go_wp2_with fail
                go_roundg (gk - 1)
                case measure => omega
                case rel => exact ⟨i + 1, by omega, by go_num, fun j hj => by
                  by_cases ej : j = i
                  · subst ej; exact HOA.out
                  · exact HX.out.1 j (by omega), HE.out.1, HE.out.2.1⟩
    · have hd : decide (i < l.length) = false := decide_eq_false hil
      have h0 := HC.out.2 (fun j hj => hall j (by omega))
      have HE := Lib.hid (And.intro h0 hbl)
      clear h0 hall hst hbl
      go_wp2_with fail
      go_ret
      exact ⟨ret_int (HE.out.1).symm, HE.out.2⟩
end Go.Proofs.Ythebembnlmddoaa
