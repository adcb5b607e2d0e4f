import Derived.Test.YthpcipfloofbcaaBA
import Derived.Deep.DeepCutAuto
namespace Go.Proofs.Ythpcipfloofbcaa
open Go.RowKit
set_option maxHeartbeats 4000000
set_option maxRecDepth 100000
set_option linter.unusedSimpArgs false
set_option linter.unusedVariables false

theorem check_bad (s : St) (h : ¬ Fine s) : checkF s = 360 := by
  unfold checkF
  split
  · exact absurd ((fine_iff s).1 (by assumption)) h
  · rfl
theorem check_good (s : St) (h : Fine s) : checkF s = 0 := (check_iff s).2 h
theorem wI_true {n m : Int} (h : wI n m = true) : 0 ≤ n ∧ n ≤ m := by unfold wI at h; simp at h; exact h
theorem wI_false {n m : Int} (h : wI n m = false) : ¬ (0 ≤ n ∧ n ≤ m) := by
  unfold wI at h; intro hh; rw [decide_eq_true hh.1, decide_eq_true hh.2] at h; simp at h

theorem rcheck_calls (s : St) (A : Option Addr) (c : Nat) (B : Option Addr) (d : Nat) (w : World) (h : RdS w A B s) :
    Calls Try.prog 21 #[s.v A c B d] w fun e w' => e = .returned (.int .i64 (checkF s)) ∧ Below w.heap.size w w' := by
  obtain ⟨W, hW⟩ : ∃ W, w.alloc (.cells (cellsS s (.slice A s.ms.length c) (.slice B s.fl.length d)) 44) = W := ⟨_, rfl⟩
  have hb : Below w.heap.size w W := by rw [← hW]; exact (Below.refl _ _).alloc (Nat.le_refl _) _
  have hr0 : W.heap[w.heap.size]? = some (.cells (cellsS s (.slice A s.ms.length c) (.slice B s.fl.length d)) 44 (0, 0)) := by rw [← hW]; exact heap_alloc_new w _
  obtain ⟨z0, z1, z2, z3, z4, z5, z6, z7, z8⟩ := nineT hr0
  have hl := h.ms.small
  have hl2 := h.fl.small
  have hwi := rwithin_calls
  have HWI := Lib.hid hwi
  have HW := Lib.hid (And.intro hW (And.intro hb (h.below hb)))
  clear hW hb hr0 h hwi
  go_enter Try.func21, Try.ntmps21
  go_upto_region 1 with fail
  rw [HW.out.1]
  go_upto_region 2 with fail
  go_cut [23] (fun s23 wx => s23 = .bool (!s.ok1) ∧ W = wx)
  case first =>
    by_cases h1 : (s.ms.length : Int) < 1
    · have b1 : decide ((s.ms.length : Int) < 1) = true := decide_eq_true h1
      have H1 := Lib.hid h1
      clear h1
      go_wp2_with fail
      all_goals go_meet
      all_goals exact ⟨by have := H1.out; simp [St.ok1]; omega, rfl⟩
    · by_cases h2 : (10 : Int) < (s.ms.length : Int)
      · have b2 : decide ((10 : Int) < (s.ms.length : Int)) = true := decide_eq_true h2
        have H1 := Lib.hid (And.intro h1 h2)
        go_wp2_with fail
        all_goals go_meet
        all_goals exact ⟨by have := H1.out; simp [St.ok1]; omega, rfl⟩
      · by_cases h3 : (100 : Int) < (s.fl.length : Int)
        · have H1 := Lib.hid (And.intro h1 (And.intro h2 h3))
          go_wp2_with fail
          all_goals go_meet
          all_goals exact ⟨by have := H1.out; simp [St.ok1]; omega, rfl⟩
        · have H1 := Lib.hid (And.intro h1 (And.intro h2 h3))
          go_wp2_with fail
          all_goals go_meet
          all_goals exact ⟨by have := H1.out; simp [St.ok1]; omega, rfl⟩
  case rest =>
    obtain ⟨rfl, rfl⟩ := hcut
    cases ho1 : s.ok1 with
    | false =>
      have HO := Lib.hid (check_bad s (fun hf => by have := hf.n0; have := hf.n1; have := hf.fl; simp [St.ok1] at ho1; omega))
      clear ho1
      go_wp2_with fail
      go_ret
      exact ⟨ret_int HO.out.symm, HW.out.2.1⟩
    | true =>
      have ho : 1 ≤ s.ms.length ∧ s.ms.length ≤ 10 ∧ s.fl.length ≤ 100 := by simp [St.ok1] at ho1; omega
      have HO := Lib.hid ho
      clear ho1 ho
      go_wp2_with fail
      go_loopg [2, 4, 24, 25, 26, 27, 28, 29, 30, 31, 32, 33, 34, 35, 36, 37, 38, 39, 40, 41, 42, 43, 44, 45, 46] (s.ms.length) (fun g v2 v4 v24 v25 v26 v27 v28 v29 v30 v31 v32 v33 v34 v35 v36 v37 v38 v39 v40 v41 v42 v43 v44 v45 v46 wr => ∃ k : Nat, k + g = s.ms.length ∧ v4 = .int .i64 k ∧ (∀ j (h : j < k) (h' : j < s.ms.length), (0 ≤ s.ms[j].sent ∧ s.ms[j].sent ≤ 1000000) ∧ 0 ≤ s.ms[j].recv ∧ s.ms[j].recv ≤ 1000000) ∧ W = wr)
      case atStart => exact ⟨0, by omega, rfl, fun j h => by omega, rfl⟩
      case round =>
        obtain ⟨k, hk, rfl, hall, rfl⟩ := hrel
        have HA := Lib.hid hall
        have HL := Lib.hid HW.out.2.1
        clear hall
        by_cases hlt : k < s.ms.length
        · have hb1 : decide (k < s.ms.length) = true := decide_eq_true hlt
          obtain ⟨a, rfl, q0, q1, q2⟩ := HW.out.2.2.ms.mem k hlt
          cases h1 : wI s.ms[k].sent 1000000 with
          | false =>
            have HF := Lib.hid (check_bad s (fun hf => wI_false h1 (by have := hf.mem _ (List.getElem_mem hlt); exact ⟨this.1, this.2.1⟩)))
            go_wp2_with (go_at_call 40; (with_reducible refine (HWI.out _ _ _).mono ?_); rintro e w' ⟨rfl, rfl⟩)
            go_ret
            exact ⟨ret_int HF.out.symm, HL.out⟩
          | true =>
            cases h2 : wI s.ms[k].recv 1000000 with
            | false =>
              have HF := Lib.hid (check_bad s (fun hf => wI_false h2 (by have := hf.mem _ (List.getElem_mem hlt); exact this.2.2)))
              go_wp2_with (go_at_call 40; (with_reducible refine (HWI.out _ _ _).mono ?_); rintro e w' ⟨rfl, rfl⟩)
              go_ret
              exact ⟨ret_int HF.out.symm, HL.out⟩
            | true =>
              have HT := Lib.hid (And.intro (wI_true h1) (wI_true h2))
              go_wp2_with (go_at_call 40; (with_reducible refine (HWI.out _ _ _).mono ?_); rintro e w' ⟨rfl, rfl⟩)
              go_roundg (gk - 1)
              case measure => omega
              case rel => exact ⟨k + 1, by omega, by go_num, fun j h h' => by
                by_cases e : j = k
                · subst e; exact HT.out
                · exact HA.out j (by omega) h', rfl⟩
        · have hb1 : decide (k < s.ms.length) = false := decide_eq_false hlt
          have HM : ∀ x ∈ s.ms, 0 ≤ x.sent ∧ x.sent ≤ 1000000 ∧ 0 ≤ x.recv ∧ x.recv ≤ 1000000 := fun x hx => by
            obtain ⟨j, hj, rfl⟩ := List.mem_iff_getElem.1 hx
            have := HA.out j (by omega) hj
            omega
          have HM := Lib.hid HM
          have hn0 : 1 ≤ s.ms.length := HO.out.1
          have hn1 : s.ms.length ≤ 10 := HO.out.2.1
          clear hk
          go_wp2_with fail
          go_loopg [2, 5, 47, 48, 49, 50, 51, 52, 53, 54, 55, 56, 57, 58, 59, 60, 61, 62] (s.fl.length) (fun g v2 v5 v47 v48 v49 v50 v51 v52 v53 v54 v55 v56 v57 v58 v59 v60 v61 v62 wr => ∃ k : Nat, k + g = s.fl.length ∧ v5 = .int .i64 k ∧ (∀ j (h : j < k) (h' : j < s.fl.length), 0 ≤ s.fl[j] ∧ s.fl[j] ≤ (s.ms.length : Int) - 1) ∧ W = wr)
          case atStart => exact ⟨0, by omega, rfl, fun j h => by omega, rfl⟩
          case round =>
            obtain ⟨k, hk, rfl, hall, rfl⟩ := hrel
            have HA := Lib.hid hall
            clear hall
            by_cases hlt : k < s.fl.length
            · have hb1 : decide (k < s.fl.length) = true := decide_eq_true hlt
              obtain ⟨a, rfl, q0⟩ := HW.out.2.2.fl.int k hlt
              cases h1 : wI s.fl[k] ((s.ms.length : Int) - 1) with
              | false =>
                have HF := Lib.hid (check_bad s (fun hf => wI_false h1 (by have := hf.flt _ (List.getElem_mem hlt); omega)))
                go_wp2_with (go_at_call 40; (with_reducible refine (HWI.out _ _ _).mono ?_); rintro e w' ⟨rfl, rfl⟩)
                go_ret
                exact ⟨ret_int HF.out.symm, HL.out⟩
              | true =>
                have HT := Lib.hid (wI_true h1)
                go_wp2_with (go_at_call 40; (with_reducible refine (HWI.out _ _ _).mono ?_); rintro e w' ⟨rfl, rfl⟩)
                go_roundg (gk - 1)
                case measure => omega
                case rel => exact ⟨k + 1, by omega, by have := HO.out.2.2; go_num, fun j h h' => by
                  by_cases e : j = k
                  · subst e; exact HT.out
                  · exact HA.out j (by omega) h', rfl⟩
            · have hb1 : decide (k < s.fl.length) = false := decide_eq_false hlt
              have HN : ∀ x ∈ s.fl, 0 ≤ x ∧ x < (s.ms.length : Int) := fun x hx => by
                obtain ⟨j, hj, rfl⟩ := List.mem_iff_getElem.1 hx
                have := HA.out j (by omega) hj
                omega
              have HN := Lib.hid HN
              clear hk
              obtain ⟨W2, hW2⟩ : ∃ W2, W.alloc (.cells #[.int .i64 s.wn, .int .i64 s.ws, .int .i64 s.wr] 42) = W2 := ⟨_, rfl⟩
              have hb2 : Below W.heap.size W W2 := by rw [← hW2]; exact (Below.refl _ _).alloc (Nat.le_refl _) _
              have hr2 : W2.heap[W.heap.size]? = some (.cells #[.int .i64 s.wn, .int .i64 s.ws, .int .i64 s.wr] 42 (0, 0)) := by rw [← hW2]; exact heap_alloc_new W _
              have c0 := cell_of_row _ _ 0 _ _ _ hr2
              have c1 := cell_of_row _ _ 1 _ _ _ hr2
              have c2 := cell_of_row _ _ 2 _ _ _ hr2
              simp at c0 c1 c2
              have HL2 := Lib.hid (And.intro hW2 (HW.out.2.1.trans (hb2.mono HW.out.2.1.size)))
              have y5 := (hb2.cell (World.block_lt_of_cell? _ _ z5)).trans z5
              have y6 := (hb2.cell (World.block_lt_of_cell? _ _ z6)).trans z6
              have y7 := (hb2.cell (World.block_lt_of_cell? _ _ z7)).trans z7
              clear hW2 hb2 hr2
              go_upto_region 15 with fail
              rw [HL2.out.1]
              clear z0 z1 z2 z3 z4 z5 z6 z7 z8
              go_upto_region 16 with fail
              go_cut [99] (fun s99 wx => s99 = .bool (!(wI s.wn ((s.ms.length : Int) - 1) && wI s.ws 10000000 && wI s.wr 10000000 && (!(s.wn == 0) || ((s.ws == 0) && (s.wr == 0))))) ∧ W2 = wx)
              case first =>
                cases h1 : wI s.wn ((s.ms.length : Int) - 1) with
                | false =>
                  go_wp2_with (go_at_call 40; (with_reducible refine (HWI.out _ _ _).mono ?_); rintro e w' ⟨rfl, rfl⟩)
                  go_meet
                  exact ⟨by simp [*], rfl⟩
                | true =>
                  cases h2 : wI s.ws 10000000 with
                  | false =>
                    go_wp2_with (go_at_call 40; (with_reducible refine (HWI.out _ _ _).mono ?_); rintro e w' ⟨rfl, rfl⟩)
                    go_meet
                    exact ⟨by simp [*], rfl⟩
                  | true =>
                    cases h3 : wI s.wr 10000000 with
                    | false =>
                      go_wp2_with (go_at_call 40; (with_reducible refine (HWI.out _ _ _).mono ?_); rintro e w' ⟨rfl, rfl⟩)
                      go_meet
                      exact ⟨by simp [*], rfl⟩
                    | true =>
                      cases h4 : (s.wn == 0) with
                      | false =>
                        go_wp2_with (go_at_call 40; (with_reducible refine (HWI.out _ _ _).mono ?_); rintro e w' ⟨rfl, rfl⟩)
                        go_meet
                        exact ⟨by simp [*], rfl⟩
                      | true =>
                        cases h5 : (s.ws == 0) with
                        | false =>
                          have h5' : (s.ws != 0) = true := by unfold bne; rw [h5]; rfl
                          go_wp2_with (go_at_call 40; (with_reducible refine (HWI.out _ _ _).mono ?_); rintro e w' ⟨rfl, rfl⟩)
                          go_meet
                          exact ⟨by simp [*], rfl⟩
                        | true =>
                          have h5' : (s.ws != 0) = false := by unfold bne; rw [h5]; rfl
                          cases h6 : (s.wr == 0) with
                          | false =>
                            have h6' : (s.wr != 0) = true := by unfold bne; rw [h6]; rfl
                            go_wp2_with (go_at_call 40; (with_reducible refine (HWI.out _ _ _).mono ?_); rintro e w' ⟨rfl, rfl⟩)
                            go_meet
                            exact ⟨by simp [*], rfl⟩
                          | true =>
                            have h6' : (s.wr != 0) = false := by unfold bne; rw [h6]; rfl
                            go_wp2_with (go_at_call 40; (with_reducible refine (HWI.out _ _ _).mono ?_); rintro e w' ⟨rfl, rfl⟩)
                            go_meet
                            exact ⟨by simp [*], rfl⟩
              case rest =>
                obtain ⟨rfl, rfl⟩ := hcut
                cases hw : (wI s.wn ((s.ms.length : Int) - 1) && wI s.ws 10000000 && wI s.wr 10000000 && (!(s.wn == 0) || ((s.ws == 0) && (s.wr == 0)))) with
                | false =>
                  have HF := Lib.hid (check_bad s (fun hf => by
                    have a1 := hf.wn
                    have a2 := hf.ws
                    have a3 := hf.w0
                    have e1 : wI s.wn ((s.ms.length : Int) - 1) = true := by unfold wI; rw [decide_eq_true a1.1, decide_eq_true (by omega)]; rfl
                    have e2 : wI s.ws 10000000 = true := by unfold wI; rw [decide_eq_true a2.1, decide_eq_true a2.2.1]; rfl
                    have e3 : wI s.wr 10000000 = true := by unfold wI; rw [decide_eq_true a2.2.2.1, decide_eq_true a2.2.2.2]; rfl
                    rw [e1, e2, e3] at hw
                    simp at hw
                    omega))
                  clear hw
                  go_wp2_with (go_at_call 40; (with_reducible refine (HWI.out _ _ _).mono ?_); rintro e w' ⟨rfl, rfl⟩)
                  go_ret
                  exact ⟨ret_int HF.out.symm, HL2.out.2⟩
                | true =>
                  have HW2 := Lib.hid (show (0 ≤ s.wn ∧ s.wn < s.ms.length) ∧ (0 ≤ s.ws ∧ s.ws ≤ 10000000 ∧ 0 ≤ s.wr ∧ s.wr ≤ 10000000) ∧ (0 < s.wn ∨ (s.ws = 0 ∧ s.wr = 0)) by
                    simp only [Bool.and_eq_true] at hw
                    have a1 := wI_true hw.1.1.1
                    have a2 := wI_true hw.1.1.2
                    have a3 := wI_true hw.1.2
                    have a4 := hw.2
                    simp at a4
                    omega)
                  clear hw
                  go_upto_region 18 with fail
                  go_cut [8] (fun s8 wx => s8 = .bool ((s.ls == -1) && (s.lr == -1)) ∧ W2 = wx)
                  case first =>
                    cases h1 : (s.ls == -1) with
                    | false =>
                      go_wp2_with (go_at_call 40; (with_reducible refine (HWI.out _ _ _).mono ?_); rintro e w' ⟨rfl, rfl⟩)
                      go_meet
                      exact ⟨by simp [*], rfl⟩
                    | true =>
                      go_wp2_with (go_at_call 40; (with_reducible refine (HWI.out _ _ _).mono ?_); rintro e w' ⟨rfl, rfl⟩)
                      go_meet
                      exact ⟨by simp [*], rfl⟩
                  case rest =>
                    obtain ⟨rfl, rfl⟩ := hcut
                    go_upto_region 19 with fail
                    go_cut [8, 129] (fun s8 s129 wx => s129 = .bool (!((((s.ls == -1) && (s.lr == -1)) || (wI s.ls 10000000 && wI s.lr 10000000)) && wI s.wv 1000000)) ∧ W2 = wx)
                    case first =>
                      cases h0 : ((s.ls == -1) && (s.lr == -1)) with
                      | false =>
                        cases h1 : wI s.ls 10000000 with
                        | false =>
                          go_wp2_with (go_at_call 40; (with_reducible refine (HWI.out _ _ _).mono ?_); rintro e w' ⟨rfl, rfl⟩)
                          go_meet
                          exact ⟨by simp [*], rfl⟩
                        | true =>
                          cases h2 : wI s.lr 10000000 with
                          | false =>
                            go_wp2_with (go_at_call 40; (with_reducible refine (HWI.out _ _ _).mono ?_); rintro e w' ⟨rfl, rfl⟩)
                            go_meet
                            exact ⟨by simp [*], rfl⟩
                          | true =>
                            cases h3 : wI s.wv 1000000 with
                            | false =>
                              go_wp2_with (go_at_call 40; (with_reducible refine (HWI.out _ _ _).mono ?_); rintro e w' ⟨rfl, rfl⟩)
                              go_meet
                              exact ⟨by simp [*], rfl⟩
                            | true =>
                              go_wp2_with (go_at_call 40; (with_reducible refine (HWI.out _ _ _).mono ?_); rintro e w' ⟨rfl, rfl⟩)
                              go_meet
                              exact ⟨by simp [*], rfl⟩
                      | true =>
                        cases h3 : wI s.wv 1000000 with
                        | false =>
                          go_wp2_with (go_at_call 40; (with_reducible refine (HWI.out _ _ _).mono ?_); rintro e w' ⟨rfl, rfl⟩)
                          go_meet
                          exact ⟨by simp [*], rfl⟩
                        | true =>
                          go_wp2_with (go_at_call 40; (with_reducible refine (HWI.out _ _ _).mono ?_); rintro e w' ⟨rfl, rfl⟩)
                          go_meet
                          exact ⟨by simp [*], rfl⟩
                    case rest =>
                      obtain ⟨rfl, rfl⟩ := hcut
                      cases hv : ((((s.ls == -1) && (s.lr == -1)) || (wI s.ls 10000000 && wI s.lr 10000000)) && wI s.wv 1000000) with
                      | false =>
                        have HF := Lib.hid (check_bad s (fun hf => by
                          have a1 := hf.ls
                          have a2 := hf.wv
                          have e3 : wI s.wv 1000000 = true := by unfold wI; rw [decide_eq_true a2.1, decide_eq_true a2.2]; rfl
                          rw [e3] at hv
                          rcases a1 with ⟨b1, b2⟩ | ⟨b1, b2, b3, b4⟩
                          · rw [b1, b2] at hv; simp at hv
                          · have e1 : wI s.ls 10000000 = true := by unfold wI; rw [decide_eq_true b1, decide_eq_true b2]; rfl
                            have e2 : wI s.lr 10000000 = true := by unfold wI; rw [decide_eq_true b3, decide_eq_true b4]; rfl
                            rw [e1, e2] at hv; simp at hv))
                        clear hv
                        go_wp2_with (go_at_call 40; (with_reducible refine (HWI.out _ _ _).mono ?_); rintro e w' ⟨rfl, rfl⟩)
                        go_ret
                        exact ⟨ret_int HF.out.symm, HL2.out.2⟩
                      | true =>
                        have HF := Lib.hid (check_good s ⟨HO.out.1, HO.out.2.1, HO.out.2.2, HM.out, HN.out, HW2.out.1, HW2.out.2.1, HW2.out.2.2, by
                          simp only [Bool.and_eq_true, Bool.or_eq_true] at hv
                          rcases hv.1 with ⟨b1, b2⟩ | ⟨b1, b2⟩
                          · left; simp at b1 b2; exact ⟨b1, b2⟩
                          · right; have := wI_true b1; have := wI_true b2; omega, by
                          simp only [Bool.and_eq_true] at hv
                          exact wI_true hv.2⟩)
                        clear hv
                        go_wp2_with (go_at_call 40; (with_reducible refine (HWI.out _ _ _).mono ?_); rintro e w' ⟨rfl, rfl⟩)
                        go_ret
                        exact ⟨ret_int HF.out.symm, HL2.out.2⟩
end Go.Proofs.Ythpcipfloofbcaa
