import Derived.Test.YthebembnlmddoaaAW
namespace Go.Proofs.Ythebembnlmddoaa
open Go.RowKit
set_option maxHeartbeats 8000000
set_option maxRecDepth 100000
set_option linter.unusedSimpArgs false
set_option linter.unusedVariables false

/-! ### the reference's Check says the same -/
def q1B (l : List Ev) (i : Nat) : Bool := !decide ((evA l i).t = rootF l) && !decide (fkN l (evA l i).t i = 1)
def q2B (l : List Ev) (i : Nat) : Bool := decide ((evA l i).k = 2) && (decide ((evA l i).o = rootF l) || decide (0 < fkN l (evA l i).o i))
def q3B (l : List Ev) (i : Nat) : Bool := decide ((evA l i).k = 3) && (!decide (fkN l (evA l i).o i = 1) || acB l (evA l i).o i l.length)
def rkB (l : List Ev) (i : Nat) : Bool := fmB (evA l i) && !q1B l i && !q2B l i && !q3B l i
theorem fkB_pos (l : List Ev) (t : Int) (m : Nat) : fkB (l.take m) t = true ↔ 0 < fkN l t m := by
  unfold fkB fkN
  rw [List.countP_pos_iff, List.any_eq_true]
theorem fkN_mono (l : List Ev) (t : Int) (m n : Nat) (h : m ≤ n) (hn : n ≤ l.length) : fkN l t m ≤ fkN l t n := by
  induction n with
  | zero =>
    obtain rfl : m = 0 := by omega
    exact Nat.le_refl _
  | succ n ih =>
    by_cases e : m = n + 1
    · subst e; exact Nat.le_refl _
    · have := ih (by omega) (by omega)
      rw [fkN_succ l t n (by omega)]
      omega
theorem fk_one (l : List Ev) (hr : rtB l = true) (t : Int) (m : Nat) (hm : m ≤ l.length) : fkN l t m ≤ 1 := by
  induction m with
  | zero => simp [fkN]
  | succ m ih =>
    rw [fkN_succ l t m (by omega)]
    by_cases hc : (decide ((evA l m).k = 2) && decide ((evA l m).o = t)) = true
    · rw [if_pos hc]
      simp only [Bool.and_eq_true, decide_eq_true_eq] at hc
      have h1 := (ok_fork l hr m (by omega) hc.1).1
      rw [hc.2] at h1
      have : ¬ 0 < fkN l t m := fun h => by rw [(fkB_pos l t m).2 h] at h1; cases h1
      omega
    · rw [if_neg hc]
      exact ih (by omega)
theorem root_at (l : List Ev) (h : 0 < l.length) : (evA l 0).t = rootF l := by
  rw [evA_eq l 0 h]
  cases l with
  | nil => simp at h
  | cons e l => rfl
theorem rk_of (l : List Ev) (hr : rtB l = true) (i : Nat) (hi : i < l.length) : rkB l i = true := by
  have hfm : fmB (evA l i) = true := rtB_fm l hr _ (by rw [evA_eq l i hi]; exact List.getElem_mem hi)
  have one : ∀ t, fkB (l.take i) t = true → fkN l t i = 1 := fun t h => by
    have h1 := (fkB_pos l t i).1 h
    have h2 := fk_one l hr t i (by omega)
    omega
  have h1 : q1B l i = false := by
    unfold q1B
    rcases (ok_task l hr i hi).1 with h | h | h
    · subst h
      rw [root_at l hi]; simp
    · rw [h]; simp
    · rw [one _ h]; simp
  have h2 : q2B l i = false := by
    unfold q2B
    by_cases hk : (evA l i).k = 2
    · obtain ⟨f1, _, _, f4⟩ := ok_fork l hr i hi hk
      have : ¬ 0 < fkN l (evA l i).o i := fun h => by rw [(fkB_pos l _ i).2 h] at f1; cases f1
      rw [decide_eq_false f4, decide_eq_false this]; simp
    · rw [decide_eq_false hk]; rfl
  have h3 : q3B l i = false := by
    unfold q3B
    by_cases hk : (evA l i).k = 3
    · rw [one _ (ok_join l hr i hi hk)]
      have : acB l (evA l i).o i l.length = false := by
        rw [Bool.eq_false_iff]
        intro h
        obtain ⟨x, g1, g2, g3⟩ := (acB_iff l _ _ _).1 h
        by_cases e : x = i
        · subst e
          exact fmB_other _ hfm (.inr hk) g3.symm
        · have := (ok_task l hr x g2).2
          rw [g3, jn_take l i x (by omega) (by omega) hk] at this
          cases this
      rw [this]; simp
    · rw [decide_eq_false hk]; rfl
  unfold rkB
  rw [hfm, h1, h2, h3]
  rfl
theorem rk_parts (l : List Ev) (i : Nat) (h : rkB l i = true) : fmB (evA l i) = true ∧ ((evA l i).t = rootF l ∨ fkN l (evA l i).t i = 1) ∧ ((evA l i).k = 2 → (evA l i).o ≠ rootF l ∧ fkN l (evA l i).o i = 0) ∧ ((evA l i).k = 3 → fkN l (evA l i).o i = 1 ∧ acB l (evA l i).o i l.length = false) := by
  unfold rkB q1B q2B q3B at h
  simp only [Bool.and_eq_true, Bool.not_eq_true', Bool.and_eq_false_iff, Bool.or_eq_false_iff, Bool.not_eq_false', decide_eq_true_eq, decide_eq_false_iff_not] at h
  obtain ⟨⟨⟨h1, h2⟩, h3⟩, h4⟩ := h
  refine ⟨h1, h2, fun hk => ?_, fun hk => ?_⟩
  · rcases h3 with h3 | h3
    · exact (h3 hk).elim
    · exact ⟨h3.1, by omega⟩
  · rcases h4 with h4 | h4
    · exact (h4 hk).elim
    · exact h4
theorem rk_all (l : List Ev) (h : ∀ i, i < l.length → rkB l i = true) : rtB l = true := by
  refine rtB_yes l fun m hm => ?_
  rw [okAt_eq l m hm, ← evA_eq l m hm]
  obtain ⟨h1, h2, h3, h4⟩ := rk_parts l m (h m hm)
  have a1 : (((l.take m).isEmpty || decide ((evA l m).t = rootF l)) || fkB (l.take m) (evA l m).t) = true := by
    rcases h2 with h2 | h2
    · rw [decide_eq_true h2]; simp
    · rw [(fkB_pos l _ m).2 (by omega)]; simp
  have a2 : jnB (l.take m) (evA l m).t = false := by
    rw [Bool.eq_false_iff]
    intro hj
    obtain ⟨i, hi, g1, g2⟩ := (jn_iff l m (by omega) _).1 hj
    have := ((rk_parts l i (h i (by omega))).2.2.2 g1).2
    rw [(acB_iff l _ _ _).2 ⟨m, by omega, hm, g2.symm⟩] at this
    cases this
  unfold okE
  rw [h1, a1, a2]
  simp only [Bool.not_false, Bool.and_true, Bool.true_and]
  by_cases hk2 : (evA l m).k = 2
  · rw [if_pos hk2]
    obtain ⟨f1, f2⟩ := h3 hk2
    have b1 : fkB (l.take m) (evA l m).o = false := by
      rw [Bool.eq_false_iff]
      intro hf
      have := (fkB_pos l _ m).1 hf
      omega
    have b2 : bgB (l.take m) (evA l m).o = false := by
      rw [Bool.eq_false_iff]
      intro hb
      obtain ⟨x, hx, g⟩ := (bg_iff l m (by omega) _).1 hb
      rcases (rk_parts l x (h x (by omega))).2.1 with e | e
      · exact f1 (g.symm.trans e)
      · rw [g] at e
        have := fkN_mono l (evA l m).o x m (by omega) (by omega)
        omega
    have b3 : jnB (l.take m) (evA l m).o = false := by
      rw [Bool.eq_false_iff]
      intro hj
      obtain ⟨x, hx, g1, g2⟩ := (jn_iff l m (by omega) _).1 hj
      have e := ((rk_parts l x (h x (by omega))).2.2.2 g1).1
      rw [g2] at e
      have := fkN_mono l (evA l m).o x m (by omega) (by omega)
      omega
    rw [b1, b2, b3, decide_eq_false f1]
    rfl
  · rw [if_neg hk2]
    by_cases hk3 : (evA l m).k = 3
    · rw [if_pos hk3]
      exact (fkB_pos l _ m).2 (by have := (h4 hk3).1; omega)
    · rw [if_neg hk3]
theorem checkR_calls (l : List Ev) (A : Option Addr) (c : Nat) (w : World) (hA : Rd encE 11 w A l) :
    Calls Try.prog 21 #[.slice A l.length c] w fun e w' => e = .returned (.int .i64 (chkF l)) ∧ Below w.heap.size w w' := by
  have hsm := hA.small
  by_cases h0 : 2000 < l.length
  · have hc : chkF l = 5 := by unfold chkF; rw [if_pos h0]
    rw [hc]
    have d1 : decide (2000 < l.length) = true := decide_eq_true h0
    have d2 : decide ((2000 : Int) < (l.length : Int)) = true := decide_eq_true (by omega)
    clear hA hc h0
    go_enter Try.func21, Try.ntmps21
    go_wp2_with fail
    go_ret
    exact ⟨rfl, Below.refl _ _⟩
  · have d1 : decide (2000 < l.length) = false := decide_eq_false h0
    have d2 : decide ((2000 : Int) < (l.length : Int)) = false := decide_eq_false (by omega)
    have h230 : ∀ i, i < l.length → rkB l i = false → chkF l = 230 := fun i hi hb => by
      unfold chkF
      rw [if_neg h0, if_neg]
      intro hr
      rw [rk_of l hr i hi] at hb
      cases hb
    have h00 : (∀ i, i < l.length → rkB l i = true) → chkF l = 0 := fun h => by
      unfold chkF
      rw [if_neg h0, if_pos (rk_all l h)]
    have HC := Lib.hid (And.intro h230 h00)
    have HA := Lib.hid hA
    have hl20 : l.length ≤ 2000 := by omega
    clear hA h230 h00 h0
    go_enter Try.func21, Try.ntmps21
    go_wp2_with fail
    go_loopg [2, 3, 4, 5, 9, 10, 11, 12, 13, 14, 15, 16, 17, 18, 19, 20, 21, 22, 23, 24, 25, 26, 27, 28, 29, 30, 31, 32, 33, 34, 35, 36, 37, 38, 39, 40, 41, 42, 43, 44, 45, 46, 47, 48, 49, 50, 51, 52, 53, 54, 55, 56, 57, 58, 59, 60, 61, 62, 63, 64, 65, 66, 67, 68, 69, 70, 71, 72, 73, 74, 75, 76, 77] l.length (fun gk v2 v3 v4 v5 v9 v10 v11 v12 v13 v14 v15 v16 v17 v18 v19 v20 v21 v22 v23 v24 v25 v26 v27 v28 v29 v30 v31 v32 v33 v34 v35 v36 v37 v38 v39 v40 v41 v42 v43 v44 v45 v46 v47 v48 v49 v50 v51 v52 v53 v54 v55 v56 v57 v58 v59 v60 v61 v62 v63 v64 v65 v66 v67 v68 v69 v70 v71 v72 v73 v74 v75 v76 v77 wr => ∃ i : Nat, i + gk = l.length ∧ v3 = .int .i64 (i : Int) ∧ (∀ x, x < i → rkB l x = true) ∧ Below w.heap.size w wr)
    case atStart => exact ⟨0, by omega, rfl, fun x h => by omega, Below.refl _ _⟩
    case round =>
      obtain ⟨i, hi, rfl, hall, hbl⟩ := hrel
      by_cases hil : i < l.length
      · have hd : decide (i < l.length) = true := decide_eq_true hil
        cases A with
        | none =>
          exfalso
          obtain ⟨a, ha, _⟩ := HA.out.cell i hil
          cases ha
        | some a =>
        have hR := HA.out.below hbl
        have hcs := ev_cells hR i hil
        have hroot := root_cell hR (by omega)
        rw [← evA_eq l i hil] at hcs
        obtain ⟨W5, hW5⟩ : ∃ W5, wr.alloc (.cells (evA l i).cells 93) = W5 := ⟨_, rfl⟩
        have hb5 : Below wr.heap.size wr W5 := by rw [← hW5]; exact (Below.refl _ _).alloc (Nat.le_refl _) _
        have hbox : W5.heap[wr.heap.size]? = some (.cells (evA l i).cells 93 (0, 0)) := by rw [← hW5]; exact Go.heap_alloc_new wr _
        have hlow5 := hbl.trans (hb5.mono hbl.size)
        have hrk : rkB l i = (fmB (evA l i) && !q1B l i && !q2B l i && !q3B l i) := rfl
        obtain ⟨e, he⟩ : ∃ e, evA l i = e := ⟨_, rfl⟩
        have hq1 : q1B l i = (!decide (e.t = rootF l) && !decide (fkN l e.t i = 1)) := by unfold q1B; rw [he]
        have hq2 : q2B l i = (decide (e.k = 2) && (decide (e.o = rootF l) || decide (0 < fkN l e.o i))) := by unfold q2B; rw [he]
        have hq3 : q3B l i = (decide (e.k = 3) && (!decide (fkN l e.o i = 1) || acB l e.o i l.length)) := by unfold q3B; rw [he]
        rw [he] at hcs hW5 hbox hrk
        have hfo := fun t w' (hb : Below W5.heap.size W5 w') => forks_calls l t i (by omega) (some a) c w' ((hR.below hb5).below hb)
        have hac := fun t w' (hb : Below W5.heap.size W5 w') => acts_calls l t i l.length (by omega) (Nat.le_refl _) (some a) c w' ((hR.below hb5).below hb)
        have HFO := Lib.hid (And.intro hfo hac)
        have hfm := formedR_calls e W5
        have HFM := Lib.hid hfm
        have HX := Lib.hid (And.intro hcs (And.intro hW5 (And.intro hbox (And.intro hlow5 (And.intro hall ((hb5.cell (World.block_lt_of_cell? _ _ hroot)).trans hroot))))))
        have HQ := Lib.hid (And.intro hrk (And.intro hq1 (And.intro hq2 hq3)))
        obtain ⟨p0, p1, p2, p3, p4, p5, p6, p7, p8, p9, p10⟩ := ev_eleven (ev_box hbox)
        simp only [Nat.zero_add] at p1 p2 p3 p4 p5 p6 p7 p8 p9 p10
        obtain ⟨bx, hbx⟩ : ∃ bx, wr.heap.size = bx := ⟨_, rfl⟩
        rw [hbx] at p0 p1 p2 p3 p4 p5 p6 p7 p8 p9 p10 HX
        have HBX := Lib.hid hbx
        clear hR hcs hroot hW5 hb5 hbox hlow5 hrk hq1 hq2 hq3 hfo hac hfm hall hbl he hbx
        go_upto_region 7 with (refine wpList_load_ev rfl _ 93 (Or.inr rfl) rfl (a.add (i * 11)) e rfl HX.out.1 ?_)
        rw [HBX.out, HX.out.2.1]
        cases hf : fmB e with
        | false =>
          rw [hf] at HFM
          have hr := HC.out.1 i hil (by rw [HQ.out.1, hf]; rfl)
          have HV := Lib.hid hr
          clear hf hr
          go_wp2_with ((with_reducible refine (HFM.out).mono ?_); rintro x w6 ⟨rfl, hb6⟩; have HB6 := Lib.hid hb6; clear hb6)
          go_ret
          exact ⟨ret_int HV.out.symm, HX.out.2.2.2.1.trans (HB6.out.mono HX.out.2.2.2.1.size)⟩
        | true =>
          rw [hf] at HFM
          have HF := Lib.hid hf
          clear hf
          go_upto_region 9 with ((with_reducible refine (HFM.out).mono ?_); rintro x w6 ⟨rfl, hb6⟩)
          have hb6' : Below W5.heap.size W5 w6 := hb6
          have hrt6 := (hb6.cell (World.block_lt_of_cell? _ _ HX.out.2.2.2.2.2)).trans HX.out.2.2.2.2.2
          have hbx6 := (hb6.block _ (Array.getElem?_eq_some_iff.1 HX.out.2.2.1).1).trans HX.out.2.2.1
          obtain ⟨p0, p1, p2, p3, p4, p5, p6, p7, p8, p9, p10⟩ := ev_eleven (ev_box hbx6)
          simp only [Nat.zero_add] at p1 p2 p3 p4 p5 p6 p7 p8 p9 p10
          have hi0 : (0 : Int) < (l.length : Int) := by omega
          have H6 := Lib.hid (And.intro hb6 (HX.out.2.2.2.1.trans (hb6.mono HX.out.2.2.2.1.size)))
          clear hb6 hb6' hbx6
          go_upto_region 10 with fail
          clear hrt6 hi0
          obtain ⟨rt, hrt⟩ : ∃ rt, rootF l = rt := ⟨_, rfl⟩
          rw [hrt] at HQ ⊢
          clear hrt
          have hf1 := HFO.out.1 e.t w6 H6.out.1
          have hf2 := HFO.out.1 e.o w6 H6.out.1
          have ha2 := HFO.out.2 e.o w6 H6.out.1
          have hn1 := fkN_le l e.t i
          have hn2 := fkN_le l e.o i
          obtain ⟨n1, hn1e⟩ : ∃ n, fkN l e.t i = n := ⟨_, rfl⟩
          obtain ⟨n2, hn2e⟩ : ∃ n, fkN l e.o i = n := ⟨_, rfl⟩
          obtain ⟨ab, habe⟩ : ∃ b, acB l e.o i l.length = b := ⟨_, rfl⟩
          rw [hn1e] at hf1 hn1 HQ
          rw [hn2e] at hf2 hn2 HQ
          rw [habe] at ha2 HQ
          have HF1 := Lib.hid hf1
          have HF2 := Lib.hid hf2
          have HA2 := Lib.hid ha2
          clear hf1 hf2 ha2 hn1e hn2e habe HFO
          go_cut [40] (fun s40 wx => s40 = .bool (!decide (e.t = rt) && !decide (n1 = 1)) ∧ w6 = wx)
          case first =>
            by_cases ht : e.t = rt
            · have g1 : (e.t != rt) = false := by simpa using ht
              have HT := Lib.hid ht
              clear ht
              go_wp2_with fail
              go_meet
              exact ⟨by rw [decide_eq_true HT.out]; rfl, rfl⟩
            · have g1 : (e.t != rt) = true := by simpa using ht
              have HT := Lib.hid ht
              clear ht
              by_cases h1 : n1 = 1
              · have g2 : (n1 != 1) = false := by simpa using h1
                have g3 : ((n1 : Int) != 1) = false := by simp [h1]
                have HN := Lib.hid h1
                clear h1
                go_wp2_with ((with_reducible refine (HF1.out).mono ?_); rintro x w7 ⟨rfl, rfl⟩)
                go_meet
                exact ⟨by rw [decide_eq_true HN.out, decide_eq_false HT.out]; rfl, rfl⟩
              · have g2 : (n1 != 1) = true := by simpa using h1
                have g3 : ((n1 : Int) != 1) = true := by rw [bne_iff_ne]; omega
                have HN := Lib.hid h1
                clear h1
                go_wp2_with ((with_reducible refine (HF1.out).mono ?_); rintro x w7 ⟨rfl, rfl⟩)
                go_meet
                exact ⟨by rw [decide_eq_false HN.out, decide_eq_false HT.out]; rfl, rfl⟩
          case rest =>
            obtain ⟨rfl, rfl⟩ := hcut
            obtain ⟨c1, hc1⟩ : ∃ c1, (!decide (e.t = rt) && !decide (n1 = 1)) = c1 := ⟨_, rfl⟩
            rw [hc1] at HQ ⊢
            clear hc1
            cases c1 with
            | true =>
              have HV := Lib.hid (HC.out.1 i hil (by rw [HQ.out.1, HQ.out.2.1]; simp))
              go_wp2_with fail
              go_ret
              exact ⟨ret_int HV.out.symm, H6.out.2⟩
            | false =>
              go_upto_region 12 with fail
              go_cut [57] (fun s57 wx => s57 = .bool (decide (e.k = 2) && (decide (e.o = rt) || decide (0 < n2))) ∧ w6 = wx)
              case first =>
                by_cases hk : e.k = 2
                · have g1 : (e.k == 2) = true := by simpa using hk
                  have HK := Lib.hid hk
                  clear hk
                  by_cases ho : e.o = rt
                  · have g2 : (e.o == rt) = true := by simpa using ho
                    have HO := Lib.hid ho
                    clear ho
                    go_wp2_with fail
                    go_meet
                    exact ⟨by rw [decide_eq_true HK.out, decide_eq_true HO.out]; rfl, rfl⟩
                  · have g2 : (e.o == rt) = false := by simpa using ho
                    have HO := Lib.hid ho
                    clear ho
                    by_cases h1 : 0 < n2
                    · have g3 : decide (0 < n2) = true := decide_eq_true h1
                      have g4 : decide ((0 : Int) < (n2 : Int)) = true := decide_eq_true (by omega)
                      go_wp2_with ((with_reducible refine (HF2.out).mono ?_); rintro x w7 ⟨rfl, rfl⟩)
                      go_meet
                      exact ⟨by rw [decide_eq_true HK.out, decide_eq_false HO.out, g3]; rfl, rfl⟩
                    · have g3 : decide (0 < n2) = false := decide_eq_false h1
                      have g4 : decide ((0 : Int) < (n2 : Int)) = false := decide_eq_false (by omega)
                      go_wp2_with ((with_reducible refine (HF2.out).mono ?_); rintro x w7 ⟨rfl, rfl⟩)
                      go_meet
                      exact ⟨by rw [decide_eq_true HK.out, decide_eq_false HO.out, g3]; rfl, rfl⟩
                · have g1 : (e.k == 2) = false := by simpa using hk
                  have HK := Lib.hid hk
                  clear hk
                  go_wp2_with fail
                  go_meet
                  exact ⟨by rw [decide_eq_false HK.out]; rfl, rfl⟩
              case rest =>
                obtain ⟨rfl, rfl⟩ := hcut
                obtain ⟨c2, hc2⟩ : ∃ c2, (decide (e.k = 2) && (decide (e.o = rt) || decide (0 < n2))) = c2 := ⟨_, rfl⟩
                rw [hc2] at HQ ⊢
                clear hc2
                cases c2 with
                | true =>
                  have HV := Lib.hid (HC.out.1 i hil (by rw [HQ.out.1, HQ.out.2.2.1]; simp))
                  go_wp2_with fail
                  go_ret
                  exact ⟨ret_int HV.out.symm, H6.out.2⟩
                | false =>
                  go_upto_region 14 with fail
                  go_cut [77] (fun s77 wx => s77 = .bool (decide (e.k = 3) && (!decide (n2 = 1) || ab)) ∧ w6 = wx)
                  case first =>
                    by_cases hk : e.k = 3
                    · have g1 : (e.k == 3) = true := by simpa using hk
                      have HK := Lib.hid hk
                      clear hk
                      by_cases h1 : n2 = 1
                      · have g3 : (n2 != 1) = false := by simpa using h1
                        have g4 : ((n2 : Int) != 1) = false := by simp [h1]
                        have HN := Lib.hid h1
                        clear h1
                        go_wp2_with (first | ((with_reducible refine (HF2.out).mono ?_); rintro x w7 ⟨rfl, rfl⟩) | ((with_reducible refine (HA2.out).mono ?_); rintro x w7 ⟨rfl, rfl⟩))
                        go_meet
                        exact ⟨by rw [decide_eq_true HK.out, decide_eq_true HN.out]; simp, rfl⟩
                      · have g3 : (n2 != 1) = true := by simpa using h1
                        have g4 : ((n2 : Int) != 1) = true := by rw [bne_iff_ne]; omega
                        have HN := Lib.hid h1
                        clear h1
                        go_wp2_with ((with_reducible refine (HF2.out).mono ?_); rintro x w7 ⟨rfl, rfl⟩)
                        go_meet
                        exact ⟨by rw [decide_eq_true HK.out, decide_eq_false HN.out]; simp, rfl⟩
                    · have g1 : (e.k == 3) = false := by simpa using hk
                      have HK := Lib.hid hk
                      clear hk
                      go_wp2_with fail
                      go_meet
                      exact ⟨by rw [decide_eq_false HK.out]; rfl, rfl⟩
                  case rest =>
                    obtain ⟨rfl, rfl⟩ := hcut
                    obtain ⟨c3, hc3⟩ : ∃ c3, (decide (e.k = 3) && (!decide (n2 = 1) || ab)) = c3 := ⟨_, rfl⟩
                    rw [hc3] at HQ ⊢
                    clear hc3
                    cases c3 with
                    | true =>
                      have HV := Lib.hid (HC.out.1 i hil (by rw [HQ.out.1, HQ.out.2.2.2]; simp))
                      go_wp2_with fail
                      go_ret
                      exact ⟨ret_int HV.out.symm, H6.out.2⟩
                    | false =>
                      have HV := Lib.hid (show rkB l i = true by rw [HQ.out.1, HQ.out.2.1, HQ.out.2.2.1, HQ.out.2.2.2, HF.out]; rfl)
                      go_wp2_with fail
                      go_roundg (gk - 1)
                      case measure => omega
                      case rel => exact ⟨i + 1, by omega, by go_num, fun x hx => by
                        by_cases ex : x = i
                        · subst ex; exact HV.out
                        · exact HX.out.2.2.2.2.1 x (by omega), H6.out.2⟩
      · have hd : decide (i < l.length) = false := decide_eq_false hil
        obtain rfl : i = l.length := by omega
        have HV := Lib.hid (HC.out.2 hall)
        have HB := Lib.hid hbl
        clear hall hbl
        go_wp2_with fail
        go_ret
        exact ⟨ret_int HV.out.symm, HB.out⟩
end Go.Proofs.Ythebembnlmddoaa
