import Derived.Test.YtggidakiflnhhaaBG
import Derived.Test.YtggidakiflnhhaaBJ
import Derived.Test.YtggidakiflnhhaaAF
namespace Go.Proofs.Ytggidakiflnhhaa
open Go.RowKit
set_option maxHeartbeats 16000000
set_option maxRecDepth 100000
set_option linter.unusedSimpArgs false
set_option linter.unusedVariables false

theorem drF_W {c c' : Cf} (h : c'.W = c.W) (l : List Op) (n : Nat) : drF c' l n = drF c l n := by unfold drF; rw [h]
theorem fenced_rfree {c : Cf} {l : List Op} (hk : chkF c l = 0) : rfree (fnF l).tr := by
  obtain ⟨hc, ho⟩ := chk_parts hk
  exact (fnF_all (fun o h => op_gd hc (ho o h))).2.1
theorem rn_dr {c : Cf} {l : List Op} (hk : chkF c l = 0) (hf : rfree l) : rnV c l = (drF c l l.length).2 ∧ rnM c l = (drF c l l.length).1 := by
  unfold rnV rnM
  rw [if_pos hk, if_pos hk]
  exact gi_end hk hf
theorem run_oneF {c : Cf} {l : List Op} (hk : chkF c l = 0) {w : World} {e : Ending} {w' : World} (h : RunPostF c l w e w') : ∃ V cV M cM, e = .returned (.tuple #[.slice V (rnV c l).length cV, .slice M (rnM c l).length cM, .agg #[.int .i64 ((rnC c l).1 : Int), .int .i64 ((rnC c l).2.1 : Int), .int .i64 ((rnC c l).2.2 : Int)], .int .i64 0]) ∧ Rd encI 1 w' V (rnV c l) ∧ Rd encI 1 w' M (rnM c l) ∧ Below w.heap.size w w' ∧ (∀ a, V = some a → w.heap.size ≤ a.block) ∧ (∀ a, M = some a → w.heap.size ≤ a.block) := by
  unfold RunPostF at h
  unfold rnV rnM rnC
  rw [if_pos hk] at h
  simp only [if_pos hk]
  obtain ⟨V, cV, M, rfl, h1, h2, h3, h4, h5⟩ := h
  exact ⟨V, cV, some M, (runA c l).m.length, rfl, h1, h2, h3, h4, fun a ha => by obtain rfl := Option.some.inj ha; exact h5⟩
theorem race_free {c : Cf} {l : List Op} (hk : chkF c l = 0) (hf : rfree l) : raceT c l = (0, 0, false, 0) := by
  obtain ⟨hc, ho⟩ := chk_parts hk
  unfold raceT
  rw [if_pos hk, (rcR_none (fun o h => op_gd hc (ho o h))).2 hf]
theorem race_not {c : Cf} {l : List Op} (hk : chkF c l = 0) : ∃ (p q : Int) (b : Bool), raceT c l = (p, q, b, 0) ∧ (b = false → rfree l) := by
  obtain ⟨hc, ho⟩ := chk_parts hk
  unfold raceT
  rw [if_pos hk]
  cases h : rcR l l.length with
  | none => exact ⟨0, 0, false, rfl, fun _ => (rcR_none (fun o h => op_gd hc (ho o h))).1 h⟩
  | some x => exact ⟨_, _, true, rfl, fun e => by cases e⟩
def diV (c : Cf) (l : List Op) : List Int := if chkF c l = 0 then (drF c l l.length).2 else []
def diM (c : Cf) (l : List Op) : List Int := if chkF c l = 0 then (drF c l l.length).1 else []
theorem di_one {c : Cf} {l : List Op} {w : World} {e : Ending} {w' : World} (h : DiPost c l w e w') : ∃ V cV M cM, e = .returned (.tuple #[.slice V (diV c l).length cV, .slice M (diM c l).length cM, .int .i64 (chkF c l)]) ∧ Rd encI 1 w' V (diV c l) ∧ Rd encI 1 w' M (diM c l) ∧ Below w.heap.size w w' := by
  unfold DiPost at h
  unfold diV diM
  split at h
  · rename_i hk
    obtain ⟨V, cV, M, rfl, h1, h2, h3⟩ := h
    refine ⟨V, cV, some M, (drF c l l.length).1.length, ?_, ?_, ?_, h3⟩
    · simp only [if_pos hk, hk, if_true]
    · rw [if_pos hk]; exact h1
    · rw [if_pos hk]; exact h2
  · rename_i hk
    obtain ⟨rfl, h3⟩ := h
    refine ⟨none, 0, none, 0, ?_, ?_, ?_, h3⟩
    · simp only [if_neg hk]; rfl
    · rw [if_neg hk]; exact Rd.nil _ _ _ _
    · rw [if_neg hk]; exact Rd.nil _ _ _ _
theorem cacheEqual_calls (c : Cf) (l : List Op) (A : Option Addr) (cp : Nat) (hbd : l.length * 32 ≤ 140737488351232) (w : World) (hA : Rd encP 4 w A l) :
    Calls Try.prog 7 #[c.val, .slice A l.length cp] w fun e w' => e = .returned (.bool true) ∧ Below w.heap.size w w' := by
  have hsm := hA.small
  obtain ⟨n0, hn0⟩ : ∃ n, w.heap.size = n := ⟨_, rfl⟩
  obtain ⟨W1, hW1⟩ : ∃ W1, w.alloc (.cells c.cells 23) = W1 := ⟨_, rfl⟩
  have hb1 : Below w.heap.size w W1 := by rw [← hW1]; exact (Below.refl _ w).alloc (Nat.le_refl _) _
  have hx1' : W1.heap[n0]? = some (.cells c.cells 23 (0, 0)) := by rw [← hW1, ← hn0]; exact Go.heap_alloc_new w _
  have H1 := Lib.hid (And.intro hx1' (And.intro hb1 (hA.below hb1)))
  have HW := Lib.hid (And.intro hW1 hn0)
  have HL := Lib.hid hbd
  clear hb1 hx1' hA hW1 hn0 hbd
  go_enter Try.func7, Try.ntmps7
  go_upto_region 1 with fail
  rw [HW.out.1]
  rw [HW.out.2]
  go_upto_region 2 with (first | (refine wpList_load_row rfl 23 (.tmp 2) rfl n0 rfl 23 _ (0, 0) _ H1.out.1 Try.underlying23 rfl info23s ?_) | ((with_reducible refine (config_calls c _).mono ?_); rintro e w6 ⟨rfl, hb6⟩; have H6 := Lib.hid (And.intro (H1.out.2.1.trans (hb6.mono H1.out.2.1.size)) (H1.out.2.2.below hb6)); clear hb6) | ((with_reducible refine (ops_copy l A cp _ H6.out.2 HL.out).mono ?_); rintro e w7 ⟨v7, rfl, ho7, hb7⟩; obtain ⟨A7, c7, rfl, _, hr7, _⟩ := ho7.form lenP; have H7 := Lib.hid (And.intro (H6.out.1.trans (hb7.mono H6.out.1.size)) hr7); clear hb7 ho7 hr7))
  obtain ⟨W8, hW8⟩ : ∃ W, w7.alloc (.cells c.cells 25) = W := ⟨_, rfl⟩
  obtain ⟨n5, hn5⟩ : ∃ n, w7.heap.size = n := ⟨_, rfl⟩
  have hb8 : Below w7.heap.size w7 W8 := by rw [← hW8]; exact (Below.refl _ _).alloc (Nat.le_refl _) _
  have hx8 : W8.heap[n5]? = some (.cells c.cells 25 (0, 0)) := by rw [← hW8, ← hn5]; exact Go.heap_alloc_new _ _
  have hall : ∀ u, Below W8.heap.size W8 u → u.heap[n5]? = some (.cells c.cells 25 (0, 0)) ∧ Rd encP 4 u A7 l ∧ Below w.heap.size w u := fun u hu => by
    have h1 := hb8.trans (hu.mono hb8.size)
    exact ⟨(hu.block _ (blk_lt hx8)).trans hx8, H7.out.2.below h1, H7.out.1.trans (h1.mono H7.out.1.size)⟩
  rw [hW8, hn5]
  have H8 := Lib.hid hall
  have hck := check_calls c l A7 c7 W8 (hall W8 (Below.refl _ _)).2.1
  have HC := Lib.hid hck
  have q0 : W8.cell? ⟨n5, 0, none⟩ = some (.int .i64 c.L) := by rw [cell_of_row _ _ _ _ _ _ hx8]; rfl
  have q1 : W8.cell? ⟨n5, 1, none⟩ = some (.int .i64 c.W) := by rw [cell_of_row _ _ _ _ _ _ hx8]; rfl
  have q2 : W8.cell? ⟨n5, 2, none⟩ = some (.int .i64 c.N) := by rw [cell_of_row _ _ _ _ _ _ hx8]; rfl
  have q3 : W8.cell? ⟨n5, 3, none⟩ = some (.int .i64 c.H) := by rw [cell_of_row _ _ _ _ _ _ hx8]; rfl
  clear hb8 hx8 hall hW8 hn5 hck
  by_cases hl : l.length ≤ 60
  case neg =>
    have hd : decide (60 < l.length) = true := decide_eq_true (by omega)
    have hdI : (60 : Int) < (l.length : Int) := by omega
    go_wp2_with ((with_reducible refine (awake_calls _).mono ?_); rintro e w9 ⟨rfl, hb⟩; have HV := Lib.hid hb; clear hb)
    go_ret
    exact ⟨rfl, (H8.out _ (Below.refl _ _)).2.2.trans (HV.out.mono (H8.out _ (Below.refl _ _)).2.2.size)⟩
  case pos =>
    have hd : decide (60 < l.length) = false := decide_eq_false (by omega)
    have hdI : ¬ (60 : Int) < (l.length : Int) := by omega
    by_cases hk : chkF c l = 0
    case neg =>
      have hkb : (chkF c l != 0) = true := by rw [bne_iff_ne]; exact hk
      clear hk
      go_wp2_with (first | ((with_reducible refine (HC.out).mono ?_); rintro e w9 ⟨rfl, hb⟩; have HV := Lib.hid hb; clear hb) | ((with_reducible refine (awake_calls _).mono ?_); rintro e w10 ⟨rfl, hb⟩; have HV2 := Lib.hid (HV.out.trans (hb.mono HV.out.size)); clear hb))
      go_ret
      exact ⟨rfl, (H8.out _ HV2.out).2.2⟩
    case pos =>
      have hkb : (chkF c l != 0) = false := by rw [bne_eq_false_iff_eq]; exact hk
      have hkL := fn_chk hk (show l.length ≤ 200 by omega)
      have hfL := fenced_rfree hk
      have hwo := wo_all l
      obtain ⟨L, hL⟩ : ∃ L, (fnF l).tr = L := ⟨_, rfl⟩
      rw [hL] at hkL hfL hwo
      have hfen := fun u (hu : Below W8.heap.size W8 u) => (fence_calls c l (fun _ => by omega) A7 c7 u (H8.out u hu).2.1).mono (fun e w' h => (show ∃ B cB, e = .returned (.tuple #[.slice B L.length cB, .int .i64 0]) ∧ Rd encP 4 w' B L ∧ Below u.heap.size u w' by
        obtain ⟨h1, _, h3⟩ := h
        obtain ⟨v, rfl, ho⟩ := h1 hk
        rw [hL] at ho
        obtain ⟨B, cB, rfl, _, hr, _⟩ := ho.form lenP
        exact ⟨B, cB, rfl, hr, h3⟩))
      have hii := fun (xs : List Int) (B C : Option Addr) (cb cc : Nat) (u : World) (h1 : Rd encI 1 u B xs) (h2 : Rd encI 1 u C xs) => ints_calls xs xs B C cb cc u h1 h2
      simp only [decide_true] at hii
      have HII := Lib.hid hii
      have HF := Lib.hid hfen
      have HK := Lib.hid (And.intro hk (And.intro hkL (And.intro hfL hwo)))
      clear hfen hii hk hkL hfL hwo hL
      go_upto_region 4 with ((with_reducible refine (HC.out).mono ?_); rintro e v1 ⟨rfl, hb⟩; have HV1 := Lib.hid hb; clear hb)
      clear q0 q1 q2 q3
      go_upto_region 7 with (first | (refine wpList_load_row rfl 25 (.tmp 5) rfl n5 rfl 25 _ (0, 0) _ (H8.out _ HV1.out).1 Try.underlying25 rfl info25s ?_) | ((with_reducible refine (HF.out _ HV1.out).mono ?_); rintro e v2 ⟨B, cB, rfl, hr, hb⟩; have HV2 := Lib.hid (And.intro (HV1.out.trans (hb.mono HV1.out.size)) hr); clear hb hr) | ((with_reducible refine (without_calls L l B A7 cB c7 _ HV2.out.2 (H8.out _ HV2.out.1).2.1 HK.out.2.2.2).mono ?_); rintro e v3 ⟨rfl, hb⟩; have HV3 := Lib.hid (And.intro (HV2.out.1.trans (hb.mono HV2.out.1.size)) (HV2.out.2.below hb)); clear hb))
      go_upto_block 0 with fail
      obtain ⟨Wt, hWt⟩ : ∃ W, v3.alloc (.cells #[.slice B L.length cB, .slice A7 l.length c7] 27) = W := ⟨_, rfl⟩
      obtain ⟨bt, hbt⟩ : ∃ n, v3.heap.size = n := ⟨_, rfl⟩
      have hbw : Below v3.heap.size v3 Wt := by rw [← hWt]; exact (Below.refl _ _).alloc (Nat.le_refl _) _
      have hxt : Wt.heap[bt]? = some (.cells #[.slice B L.length cB, .slice A7 l.length c7] 27 (0, 0)) := by rw [← hWt, ← hbt]; exact Go.heap_alloc_new _ _
      rw [hWt, hbt]
      have hallT : ∀ u, Below Wt.heap.size Wt u → u.heap[n5]? = some (.cells c.cells 25 (0, 0)) ∧ u.cell? ⟨bt, 0, none⟩ = some (.slice B L.length cB) ∧ u.cell? ⟨bt, 1, none⟩ = some (.slice A7 l.length c7) ∧ Rd encP 4 u B L ∧ Rd encP 4 u A7 l ∧ Below w.heap.size w u := fun u hu => by
        have h1 := hbw.trans (hu.mono hbw.size)
        have h2 := H8.out u (HV3.out.1.trans (h1.mono HV3.out.1.size))
        have h3 := (hu.block _ (blk_lt hxt)).trans hxt
        exact ⟨h2.1, by rw [cell_of_row _ _ _ _ _ _ h3]; rfl, by rw [cell_of_row _ _ _ _ _ _ h3]; rfl, HV3.out.2.below h1, h2.2.1, h2.2.2⟩
      have HA := Lib.hid hallT
      clear hallT hbw hxt hWt hbt
      have hWt2 : (0 : Int) ≤ 2 := by decide
      go_wp2_with fail
      go_loopg [10, 11, 12, 13, 14, 15, 16, 17, 18, 19, 20, 52, 53, 54, 55, 56, 57, 58, 59, 60, 61, 62, 63, 64, 65, 66, 67, 68, 69, 70, 71, 72, 73, 74, 75, 76, 77, 78, 79, 80, 81, 82, 83, 84, 85, 86, 87, 88, 89, 90, 91, 92, 93, 94, 95, 96, 97, 98, 99, 100, 101, 102, 103, 104, 105, 106, 107, 108, 109, 110, 111, 112, 113, 114, 115, 116, 117] 2 (fun gk v10 v11 v12 v13 v14 v15 v16 v17 v18 v19 v20 v52 v53 v54 v55 v56 v57 v58 v59 v60 v61 v62 v63 v64 v65 v66 v67 v68 v69 v70 v71 v72 v73 v74 v75 v76 v77 v78 v79 v80 v81 v82 v83 v84 v85 v86 v87 v88 v89 v90 v91 v92 v93 v94 v95 v96 v97 v98 v99 v100 v101 v102 v103 v104 v105 v106 v107 v108 v109 v110 v111 v112 v113 v114 v115 v116 v117 wr => ∃ i : Nat, i + gk = 2 ∧ v10 = .int .i64 (i : Int) ∧ Below Wt.heap.size Wt wr)
      case atStart => exact ⟨0, rfl, rfl, Below.refl _ _⟩
      case round =>
        obtain ⟨i, hi, rfl, hb⟩ := hrel
        by_cases hlt : i < 2
        · have hd2 : decide (i < 2) = true := decide_eq_true hlt
          have hi2 : (i : Int) < 2 := by omega
          obtain ⟨T, X, cX, hkT, hfT, hcell, hRX⟩ : ∃ (T : List Op) (X : Option Addr) (cX : Nat), chkF c T = 0 ∧ (i = 0 → rfree T) ∧ (∀ u, Below Wt.heap.size Wt u → u.cell? ⟨bt, i, none⟩ = some (.slice X T.length cX)) ∧ (∀ u, Below Wt.heap.size Wt u → Rd encP 4 u X T) := by
            have : i = 0 ∨ i = 1 := by omega
            rcases this with rfl | rfl
            · exact ⟨L, B, cB, HK.out.2.1, fun _ => HK.out.2.2.1, fun u hu => (HA.out u hu).2.1, fun u hu => (HA.out u hu).2.2.2.1⟩
            · exact ⟨l, A7, c7, HK.out.1, fun h => by omega, fun u hu => (HA.out u hu).2.2.1, fun u hu => (HA.out u hu).2.2.2.2.1⟩
          obtain ⟨rp, rq, rb, hrt, hrf⟩ := race_not hkT
          have hb0 : i = 0 → rb = false := fun h => by rw [race_free hkT (hfT h)] at hrt; exact (congrArg (fun x => x.2.2.1) hrt).symm
          have hrace := fun u (hu : Below Wt.heap.size Wt u) => race_calls c T X cX u (hRX u hu)
          unfold RacePost at hrace
          rw [hrt] at hrace
          have HRC := Lib.hid hrace
          have HB := Lib.hid hb
          have HT := Lib.hid (And.intro hkT (And.intro hrf (And.intro hcell hRX)))
          clear hrace hb hkT hrf hcell hRX hrt hfT
          go_upto_region 11 with fail
          refine wp_region_held_drew (S := (fun w' => w'.heap[n5]? = some (.cells c.cells 25 (0, 0)) ∧ w'.cell? ⟨bt, i, none⟩ = some (.slice X T.length cX))) (by kernel_rfl) ?_ (fun hHelda => ?_)
          · (try dsimp only); exact ⟨(HA.out _ (HB.out.drew)).1, HT.out.2.2.1 _ (HB.out.drew)⟩
          refine wpAnyH_take (i := 0) (oi := _) (v := ?va1) rfl (by kernel_rfl) (by kernel_rfl) (by kernel_rfl) (fun _ _ _ h => h) (Or.inl ⟨by rfl, ?hya1⟩) (by assumption) ?resta1
          case hya1 => (intro w hSw; (try dsimp only at hSw); (refine exec_load_row 25 (.tmp 5) ?_ n5 ?_ 25 _ (0, 0) _ hSw.1 Try.underlying25 rfl info25s) <;> rfl)
          try simp only [Act.put, List.getElem_toArray, List.getElem_cons_zero, List.getElem_cons_succ, List.setIfInBounds_toArray, List.set_cons_zero, List.set_cons_succ]
          refine wpAnyH_take (i := 1) (oi := _) (v := ?va2) rfl (by kernel_rfl) (by kernel_rfl) (by kernel_rfl) (fun _ _ _ h => h) (Or.inl ⟨by rfl, ?hya2⟩) (by assumption) ?resta2
          case hya2 => (intro w hSw; (try dsimp only at hSw); go_simp; all_goals with_reducible rfl)
          try simp only [Act.put, List.getElem_toArray, List.getElem_cons_zero, List.getElem_cons_succ, List.setIfInBounds_toArray, List.set_cons_zero, List.set_cons_succ]
          refine wpAnyH_take (i := 2) (oi := _) (v := ?va3) rfl (by kernel_rfl) (by kernel_rfl) (by kernel_rfl) (fun _ _ _ h => h) (Or.inl ⟨by rfl, ?hya3⟩) (by assumption) ?resta3
          case hya3 => (intro w hSw; (try dsimp only at hSw); go_simp; all_goals with_reducible rfl)
          try simp only [Act.put, List.getElem_toArray, List.getElem_cons_zero, List.getElem_cons_succ, List.setIfInBounds_toArray, List.set_cons_zero, List.set_cons_succ]
          refine wpAnyH_take (i := 3) (oi := _) (v := ?va4) rfl (by kernel_rfl) (by kernel_rfl) (by kernel_rfl) (fun _ _ _ h => h) (Or.inl ⟨by rfl, ?hya4⟩) (by assumption) ?resta4
          case hya4 => (intro w hSw; (try dsimp only at hSw); go_simp; all_goals with_reducible rfl)
          try simp only [Act.put, List.getElem_toArray, List.getElem_cons_zero, List.getElem_cons_succ, List.setIfInBounds_toArray, List.set_cons_zero, List.set_cons_succ]
          refine wpAnyH_take (i := 4) (oi := _) (v := ?va5) rfl (by kernel_rfl) (by kernel_rfl) (by kernel_rfl) (fun _ _ _ h => h) (Or.inl ⟨by rfl, ?hya5⟩) (by assumption) ?resta5
          case hya5 => (intro w hSw; (try dsimp only at hSw); go_simp; all_goals with_reducible rfl)
          try simp only [Act.put, List.getElem_toArray, List.getElem_cons_zero, List.getElem_cons_succ, List.setIfInBounds_toArray, List.set_cons_zero, List.set_cons_succ]
          refine wpAnyH_ready (rs := [5]) (by kernel_rfl) (by simp) ?_
          refine AllReadyH.cons (o := _) rfl (fun K hK => ?_) AllReadyH.nil
          go_simp
          try go_wp2_with fail
          (with_reducible refine (HRC.out _ HB.out.drew).mono ?_); rintro y w9 ⟨rfl, hb9⟩
          have HB1 := Lib.hid (HB.out.drew.trans (hb9.mono HB.out.size))
          clear hb9
          refine hK.out _ _ ?_ (fun hHelda6 => ?_)
          · (try dsimp only); exact ⟨(HA.out _ (HB1.out)).1, HT.out.2.2.1 _ (HB1.out)⟩
          clear hK K hHelda
          try simp only [Act.put, List.getElem_toArray, List.getElem_cons_zero, List.getElem_cons_succ, List.setIfInBounds_toArray, List.set_cons_zero, List.set_cons_succ]
          refine wpAnyH_take (i := 6) (oi := _) (v := ?va7) rfl (by kernel_rfl) (by kernel_rfl) (by kernel_rfl) (fun _ _ _ h => h) (Or.inl ⟨by rfl, ?hya7⟩) (by assumption) ?resta7
          case hya7 => (intro w hSw; (try dsimp only at hSw); go_simp; all_goals with_reducible rfl)
          try simp only [Act.put, List.getElem_toArray, List.getElem_cons_zero, List.getElem_cons_succ, List.setIfInBounds_toArray, List.set_cons_zero, List.set_cons_succ]
          refine wpAnyH_take (i := 7) (oi := _) (v := ?va8) rfl (by kernel_rfl) (by kernel_rfl) (by kernel_rfl) (fun _ _ _ h => h) (Or.inl ⟨by rfl, ?hya8⟩) (by assumption) ?resta8
          case hya8 => (intro w hSw; (try dsimp only at hSw); go_simp; all_goals with_reducible rfl)
          try simp only [Act.put, List.getElem_toArray, List.getElem_cons_zero, List.getElem_cons_succ, List.setIfInBounds_toArray, List.set_cons_zero, List.set_cons_succ]
          refine wpAnyH_take (i := 8) (oi := _) (v := ?va9) rfl (by kernel_rfl) (by kernel_rfl) (by kernel_rfl) (fun _ _ _ h => h) (Or.inl ⟨by rfl, ?hya9⟩) (by assumption) ?resta9
          case hya9 => (intro w hSw; (try dsimp only at hSw); go_simp; all_goals with_reducible rfl)
          try simp only [Act.put, List.getElem_toArray, List.getElem_cons_zero, List.getElem_cons_succ, List.setIfInBounds_toArray, List.set_cons_zero, List.set_cons_succ]
          refine wpAnyH_take (i := 9) (oi := _) (v := ?va10) rfl (by kernel_rfl) (by kernel_rfl) (by kernel_rfl) (fun _ _ _ h => h) (Or.inl ⟨by rfl, ?hya10⟩) (by assumption) ?resta10
          case hya10 => (intro w hSw; (try dsimp only at hSw); go_simp; all_goals with_reducible rfl)
          try simp only [Act.put, List.getElem_toArray, List.getElem_cons_zero, List.getElem_cons_succ, List.setIfInBounds_toArray, List.set_cons_zero, List.set_cons_succ]
          refine wpAnyH_take (i := 10) (oi := _) (v := ?va11) rfl (by kernel_rfl) (by kernel_rfl) (by kernel_rfl) (fun _ _ _ h => h) (Or.inl ⟨by rfl, ?hya11⟩) (by assumption) ?resta11
          case hya11 => (intro w hSw; (try dsimp only at hSw); go_simp; all_goals with_reducible rfl)
          try simp only [Act.put, List.getElem_toArray, List.getElem_cons_zero, List.getElem_cons_succ, List.setIfInBounds_toArray, List.set_cons_zero, List.set_cons_succ]
          refine wpAnyH_take (i := 11) (oi := _) (v := ?va12) rfl (by kernel_rfl) (by kernel_rfl) (by kernel_rfl) (fun _ _ _ h => h) (Or.inl ⟨by rfl, ?hya12⟩) (by assumption) ?resta12
          case hya12 => (intro w hSw; (try dsimp only at hSw); go_simp; all_goals with_reducible rfl)
          try simp only [Act.put, List.getElem_toArray, List.getElem_cons_zero, List.getElem_cons_succ, List.setIfInBounds_toArray, List.set_cons_zero, List.set_cons_succ]
          refine wpAnyH_take (i := 12) (oi := _) (v := ?va13) rfl (by kernel_rfl) (by kernel_rfl) (by kernel_rfl) (fun _ _ _ h => h) (Or.inl ⟨by rfl, ?hya13⟩) (by assumption) ?resta13
          case hya13 => (intro w hSw; (try dsimp only at hSw); go_simp; all_goals with_reducible rfl)
          try simp only [Act.put, List.getElem_toArray, List.getElem_cons_zero, List.getElem_cons_succ, List.setIfInBounds_toArray, List.set_cons_zero, List.set_cons_succ]
          refine wpAnyH_take (i := 13) (oi := _) (v := ?va14) rfl (by kernel_rfl) (by kernel_rfl) (by kernel_rfl) (fun _ _ _ h => h) (Or.inl ⟨by rfl, ?hya14⟩) (by assumption) ?resta14
          case hya14 => (intro w hSw; (try dsimp only at hSw); go_simp; all_goals with_reducible rfl)
          try simp only [Act.put, List.getElem_toArray, List.getElem_cons_zero, List.getElem_cons_succ, List.setIfInBounds_toArray, List.set_cons_zero, List.set_cons_succ]
          refine wpAnyH_take (i := 14) (oi := _) (v := ?va15) rfl (by kernel_rfl) (by kernel_rfl) (by kernel_rfl) (fun _ _ _ h => h) (Or.inl ⟨by rfl, ?hya15⟩) (by assumption) ?resta15
          case hya15 => (intro w hSw; (try dsimp only at hSw); go_simp; all_goals with_reducible rfl)
          try simp only [Act.put, List.getElem_toArray, List.getElem_cons_zero, List.getElem_cons_succ, List.setIfInBounds_toArray, List.set_cons_zero, List.set_cons_succ]
          refine wpAnyH_done (by kernel_rfl) ?_ _
          skip
          have hz : i = 0 ∨ i = 1 := by omega
          cases rb with
          | true =>
            obtain rfl : i = 1 := by rcases hz with rfl | rfl; exact absurd (hb0 rfl) (by decide); rfl
            clear hz hb0
            go_wp2_with fail
            go_roundg (2 - 2)
            case measure => omega
            case rel => exact ⟨2, by omega, by go_num, HB1.out⟩
          | false =>
            have hfr : rfree T := HT.out.2.1 rfl
            obtain ⟨e1, e2⟩ := rn_dr HT.out.1 hfr
            obtain ⟨rv, hrv⟩ : ∃ rv, rnV c T = rv := ⟨_, rfl⟩
            obtain ⟨rm, hrm⟩ : ∃ rm, rnM c T = rm := ⟨_, rfl⟩
            obtain ⟨⟨d1, d2, d3⟩, hrd⟩ : ∃ rc, rnC c T = rc := ⟨_, rfl⟩
            have hrun := fun u (hu : Below Wt.heap.size Wt u) => (run_callsF c T X cX u (HT.out.2.2.2 u hu)).mono (fun e w' h => run_oneF HT.out.1 h)
            have hdir := fun u (hu : Below Wt.heap.size Wt u) => (direct_calls c T X cX u (HT.out.2.2.2 u hu)).mono (fun e w' h => di_one h)
            have hdv : diV c T = rv := by unfold diV; rw [if_pos HT.out.1, ← e1, hrv]
            have hdm : diM c T = rm := by unfold diM; rw [if_pos HT.out.1, ← e2, hrm]
            rw [hrv, hrm, hrd] at hrun
            rw [HT.out.1, hdv, hdm] at hdir
            have HRN := Lib.hid hrun
            have HDI := Lib.hid hdir
            clear hrun hdir hdv hdm hrv hrm hrd e1 e2 hfr
            obtain ⟨zb, hzb⟩ : ∃ zb, (i == 0) = zb := ⟨_, rfl⟩
            have hzbI : ((i : Int) == 0) = zb := by rw [← hzb]; rcases hz with rfl | rfl <;> rfl
            clear hb0 hz
            cases zb with
            | false =>
              go_upto_region 15 with fail
              refine wp_region_held_drew (S := (fun w' => w'.heap[n5]? = some (.cells c.cells 25 (0, 0)) ∧ w'.cell? ⟨bt, i, none⟩ = some (.slice X T.length cX))) (by kernel_rfl) ?_ (fun hHeldfb => ?_)
              · (try dsimp only); exact ⟨(HA.out _ (HB1.out.drew)).1, HT.out.2.2.1 _ (HB1.out.drew)⟩
              refine wpAnyH_take (i := 0) (oi := _) (v := ?vfb1) rfl (by kernel_rfl) (by kernel_rfl) (by kernel_rfl) (fun _ _ _ h => h) (Or.inl ⟨by rfl, ?hyfb1⟩) (by assumption) ?restfb1
              case hyfb1 => (intro w hSw; (try dsimp only at hSw); (refine exec_load_row 25 (.tmp 5) ?_ n5 ?_ 25 _ (0, 0) _ hSw.1 Try.underlying25 rfl info25s) <;> rfl)
              try simp only [Act.put, List.getElem_toArray, List.getElem_cons_zero, List.getElem_cons_succ, List.setIfInBounds_toArray, List.set_cons_zero, List.set_cons_succ]
              refine wpAnyH_take (i := 1) (oi := _) (v := ?vfb2) rfl (by kernel_rfl) (by kernel_rfl) (by kernel_rfl) (fun _ _ _ h => h) (Or.inl ⟨by rfl, ?hyfb2⟩) (by assumption) ?restfb2
              case hyfb2 => (intro w hSw; (try dsimp only at hSw); go_simp; all_goals with_reducible rfl)
              try simp only [Act.put, List.getElem_toArray, List.getElem_cons_zero, List.getElem_cons_succ, List.setIfInBounds_toArray, List.set_cons_zero, List.set_cons_succ]
              refine wpAnyH_take (i := 2) (oi := _) (v := ?vfb3) rfl (by kernel_rfl) (by kernel_rfl) (by kernel_rfl) (fun _ _ _ h => h) (Or.inl ⟨by rfl, ?hyfb3⟩) (by assumption) ?restfb3
              case hyfb3 => (intro w hSw; (try dsimp only at hSw); go_simp; all_goals with_reducible rfl)
              try simp only [Act.put, List.getElem_toArray, List.getElem_cons_zero, List.getElem_cons_succ, List.setIfInBounds_toArray, List.set_cons_zero, List.set_cons_succ]
              refine wpAnyH_take (i := 3) (oi := _) (v := ?vfb4) rfl (by kernel_rfl) (by kernel_rfl) (by kernel_rfl) (fun _ _ _ h => h) (Or.inl ⟨by rfl, ?hyfb4⟩) (by assumption) ?restfb4
              case hyfb4 => (intro w hSw; (try dsimp only at hSw); go_simp; all_goals with_reducible rfl)
              try simp only [Act.put, List.getElem_toArray, List.getElem_cons_zero, List.getElem_cons_succ, List.setIfInBounds_toArray, List.set_cons_zero, List.set_cons_succ]
              refine wpAnyH_take (i := 4) (oi := _) (v := ?vfb5) rfl (by kernel_rfl) (by kernel_rfl) (by kernel_rfl) (fun _ _ _ h => h) (Or.inl ⟨by rfl, ?hyfb5⟩) (by assumption) ?restfb5
              case hyfb5 => (intro w hSw; (try dsimp only at hSw); go_simp; all_goals with_reducible rfl)
              try simp only [Act.put, List.getElem_toArray, List.getElem_cons_zero, List.getElem_cons_succ, List.setIfInBounds_toArray, List.set_cons_zero, List.set_cons_succ]
              refine wpAnyH_ready (rs := [5, 11]) (by kernel_rfl) (by simp) ?_
              refine AllReadyH.cons (o := _) rfl (fun K hK => ?_) ?_
              · go_simp
                try go_wp2_with fail
                (with_reducible refine (HRN.out _ (HB1.out.drew)).mono ?_); rintro y v15r ⟨V1, e1, M1, g1, rfl, hv, hm, hb9, hfv, hfm⟩
                have Hv15r := Lib.hid (And.intro (Below.trans (HB1.out.drew) (hb9.mono (Below.size (HB1.out.drew)))) (And.intro (hv) (hm)))
                clear hb9 hv hm hfv hfm
                refine hK.out _ _ ?_ (fun hHeldfb6 => ?_)
                · (try dsimp only); exact ⟨(HA.out _ (Hv15r.out.1)).1, HT.out.2.2.1 _ (Hv15r.out.1)⟩
                clear hK K hHeldfb
                try simp only [Act.put, List.getElem_toArray, List.getElem_cons_zero, List.getElem_cons_succ, List.setIfInBounds_toArray, List.set_cons_zero, List.set_cons_succ]
                refine wpAnyH_take (i := 6) (oi := _) (v := ?vfb7) rfl (by kernel_rfl) (by kernel_rfl) (by kernel_rfl) (fun _ _ _ h => h) (Or.inl ⟨by rfl, ?hyfb7⟩) (by assumption) ?restfb7
                case hyfb7 => (intro w hSw; (try dsimp only at hSw); go_simp; all_goals with_reducible rfl)
                try simp only [Act.put, List.getElem_toArray, List.getElem_cons_zero, List.getElem_cons_succ, List.setIfInBounds_toArray, List.set_cons_zero, List.set_cons_succ]
                refine wpAnyH_take (i := 7) (oi := _) (v := ?vfb8) rfl (by kernel_rfl) (by kernel_rfl) (by kernel_rfl) (fun _ _ _ h => h) (Or.inl ⟨by rfl, ?hyfb8⟩) (by assumption) ?restfb8
                case hyfb8 => (intro w hSw; (try dsimp only at hSw); go_simp; all_goals with_reducible rfl)
                try simp only [Act.put, List.getElem_toArray, List.getElem_cons_zero, List.getElem_cons_succ, List.setIfInBounds_toArray, List.set_cons_zero, List.set_cons_succ]
                refine wpAnyH_take (i := 8) (oi := _) (v := ?vfb9) rfl (by kernel_rfl) (by kernel_rfl) (by kernel_rfl) (fun _ _ _ h => h) (Or.inl ⟨by rfl, ?hyfb9⟩) (by assumption) ?restfb9
                case hyfb9 => (intro w hSw; (try dsimp only at hSw); go_simp; all_goals with_reducible rfl)
                try simp only [Act.put, List.getElem_toArray, List.getElem_cons_zero, List.getElem_cons_succ, List.setIfInBounds_toArray, List.set_cons_zero, List.set_cons_succ]
                refine wpAnyH_take (i := 9) (oi := _) (v := ?vfb10) rfl (by kernel_rfl) (by kernel_rfl) (by kernel_rfl) (fun _ _ _ h => h) (Or.inl ⟨by rfl, ?hyfb10⟩) (by assumption) ?restfb10
                case hyfb10 => (intro w hSw; (try dsimp only at hSw); go_simp; all_goals with_reducible rfl)
                try simp only [Act.put, List.getElem_toArray, List.getElem_cons_zero, List.getElem_cons_succ, List.setIfInBounds_toArray, List.set_cons_zero, List.set_cons_succ]
                refine wpAnyH_take (i := 10) (oi := _) (v := ?vfb11) rfl (by kernel_rfl) (by kernel_rfl) (by kernel_rfl) (fun _ _ _ h => h) (Or.inl ⟨by rfl, ?hyfb11⟩) (by assumption) ?restfb11
                case hyfb11 => (intro w hSw; (try dsimp only at hSw); go_simp; all_goals with_reducible rfl)
                try simp only [Act.put, List.getElem_toArray, List.getElem_cons_zero, List.getElem_cons_succ, List.setIfInBounds_toArray, List.set_cons_zero, List.set_cons_succ]
                refine wpAnyH_ready (rs := [11]) (by kernel_rfl) (by simp) ?_
                refine AllReadyH.cons (o := _) rfl (fun K hK => ?_) AllReadyH.nil
                go_simp
                obtain ⟨v15ra, hu⟩ : ∃ u, World.alloc v15r (.cells #[.int .i64 0, .int .i64 0, .int .i64 0] 34) = u := ⟨_, rfl⟩
                have hbu : Below v15r.heap.size v15r v15ra := by rw [← hu]; exact (Below.refl _ _).alloc (Nat.le_refl _) _
                have hnx : v15ra.heap[v15r.heap.size]? = some (.cells #[.int .i64 0, .int .i64 0, .int .i64 0] 34 (0, 0)) := by rw [← hu]; exact Go.heap_alloc_new v15r _
                obtain ⟨nb, hnb⟩ : ∃ nb, v15r.heap.size = nb := ⟨_, rfl⟩
                first | rw [hu] | (rw [show World.alloc _ _ = _ from hu])
                try rw [hnb]
                have hle : Wt.heap.size ≤ nb := by rw [← hnb]; exact Below.size (Hv15r.out.1)
                rw [hnb] at hnx
                have Hv15ra := Lib.hid (And.intro (Below.trans (Hv15r.out.1) (hbu.mono (by rw [hnb]; exact hle))) (And.intro (Rx.new (Hv15r.out.2.1) hnb hbu) (And.intro (Rx.new (Hv15r.out.2.2) hnb hbu) (And.intro (hnx) (hle)))))
                clear hu hbu hnx hnb hle
                refine hK.out _ _ ?_ (fun hHeldfb12 => ?_)
                · (try dsimp only); exact ⟨(HA.out _ (Hv15ra.out.1)).1, HT.out.2.2.1 _ (Hv15ra.out.1)⟩
                clear hK K hHeldfb6
                try simp only [Act.put, List.getElem_toArray, List.getElem_cons_zero, List.getElem_cons_succ, List.setIfInBounds_toArray, List.set_cons_zero, List.set_cons_succ]
                refine wpAnyH_take (i := 12) (oi := _) (v := ?vfb13) rfl (by kernel_rfl) (by kernel_rfl) (by kernel_rfl) (fun _ _ _ h => h) (Or.inl ⟨by rfl, ?hyfb13⟩) (by assumption) ?restfb13
                case hyfb13 => (intro w hSw; (try dsimp only at hSw); go_simp; all_goals with_reducible rfl)
                try simp only [Act.put, List.getElem_toArray, List.getElem_cons_zero, List.getElem_cons_succ, List.setIfInBounds_toArray, List.set_cons_zero, List.set_cons_succ]
                refine wpAnyH_take (i := 13) (oi := _) (v := ?vfb14) rfl (by kernel_rfl) (by kernel_rfl) (by kernel_rfl) (fun _ _ _ h => h) (Or.inl ⟨by rfl, ?hyfb14⟩) (by assumption) ?restfb14
                case hyfb14 => (intro w hSw; (try dsimp only at hSw); go_simp; all_goals with_reducible rfl)
                try simp only [Act.put, List.getElem_toArray, List.getElem_cons_zero, List.getElem_cons_succ, List.setIfInBounds_toArray, List.set_cons_zero, List.set_cons_succ]
                refine wpAnyH_ready (rs := [14]) (by kernel_rfl) (by simp) ?_
                refine AllReadyH.cons (o := _) rfl (fun K hK => ?_) AllReadyH.nil
                have f0 := frozen_of_row v15ra nb 0 _ _ (Hv15ra.out.2.2.2.1)
                have f1 := frozen_of_row v15ra nb 1 _ _ (Hv15ra.out.2.2.2.1)
                have f2 := frozen_of_row v15ra nb 2 _ _ (Hv15ra.out.2.2.2.1)
                have k0 : v15ra.cell? ⟨nb, 0, none⟩ = some (.int .i64 0) := by rw [cell_of_row _ _ _ _ _ _ (Hv15ra.out.2.2.2.1)]; rfl
                have k1 : v15ra.cell? ⟨nb, 1, none⟩ = some (.int .i64 0) := by rw [cell_of_row _ _ _ _ _ _ (Hv15ra.out.2.2.2.1)]; rfl
                have k2 : v15ra.cell? ⟨nb, 2, none⟩ = some (.int .i64 0) := by rw [cell_of_row _ _ _ _ _ _ (Hv15ra.out.2.2.2.1)]; rfl
                go_simp
                clear f0 f1 f2 k0 k1 k2
                obtain ⟨v15ras, hu⟩ : ∃ u, ((v15ra.setCell ⟨nb, 0, none⟩ (.int .i64 (d1 : Int))).setCell ⟨nb, 1, none⟩ (.int .i64 (d2 : Int))).setCell ⟨nb, 2, none⟩ (.int .i64 (d3 : Int)) = u := ⟨_, rfl⟩
                rw [hu]
                have hbn : Below nb v15ra v15ras := by rw [← hu]; exact (((show Below nb v15ra v15ra from ⟨rfl, rfl, rfl, Nat.le_refl _, fun _ _ => rfl⟩).setCell (Nat.le_refl _) _).setCell (Nat.le_refl _) _).setCell (Nat.le_refl _) _
                have hoth : ∀ k, k ≠ nb → v15ras.heap[k]? = v15ra.heap[k]? := fun k hk => by rw [← hu, heap_setCell_other _ _ _ _ (by simpa using hk), heap_setCell_other _ _ _ _ (by simpa using hk), heap_setCell_other _ _ _ _ (by simpa using hk)]
                have HC15 := Lib.hid (And.intro (Below.trans (Hv15ra.out.1) (hbn.mono (Hv15ra.out.2.2.2.2))) (And.intro (Rx.turn (Hv15ra.out.2.1) hoth) (Rx.turn (Hv15ra.out.2.2.1) hoth)))
                clear hu hbn hoth
                obtain ⟨v16, hv16⟩ : ∃ v, v15ras = v := ⟨_, rfl⟩
                rw [hv16]
                rw [hv16] at HC15
                clear hv16
                refine hK.out _ _ ?_ (fun hHeldfb15 => ?_)
                · (try dsimp only); exact ⟨(HA.out _ HC15.out.1).1, HT.out.2.2.1 _ HC15.out.1⟩
                clear hK K hHeldfb12
                try simp only [Act.put, List.getElem_toArray, List.getElem_cons_zero, List.getElem_cons_succ, List.setIfInBounds_toArray, List.set_cons_zero, List.set_cons_succ]
                refine wpAnyH_take (i := 15) (oi := _) (v := ?vfb16) rfl (by kernel_rfl) (by kernel_rfl) (by kernel_rfl) (fun _ _ _ h => h) (Or.inl ⟨by rfl, ?hyfb16⟩) (by assumption) ?restfb16
                case hyfb16 => (intro w hSw; (try dsimp only at hSw); go_simp; all_goals with_reducible rfl)
                try simp only [Act.put, List.getElem_toArray, List.getElem_cons_zero, List.getElem_cons_succ, List.setIfInBounds_toArray, List.set_cons_zero, List.set_cons_succ]
                refine wpAnyH_done (by kernel_rfl) ?_ _
                go_upto_region 16 with fail
                refine wp_region_held_drew (S := (fun w' => w'.heap[n5]? = some (.cells c.cells 25 (0, 0)) ∧ w'.cell? ⟨bt, i, none⟩ = some (.slice X T.length cX))) (by kernel_rfl) ?_ (fun hHeldfc => ?_)
                · (try dsimp only); exact ⟨(HA.out _ (HC15.out.1.drew)).1, HT.out.2.2.1 _ (HC15.out.1.drew)⟩
                refine wpAnyH_take (i := 0) (oi := _) (v := ?vfc1) rfl (by kernel_rfl) (by kernel_rfl) (by kernel_rfl) (fun _ _ _ h => h) (Or.inl ⟨by rfl, ?hyfc1⟩) (by assumption) ?restfc1
                case hyfc1 => (intro w hSw; (try dsimp only at hSw); (refine exec_load_row 25 (.tmp 5) ?_ n5 ?_ 25 _ (0, 0) _ hSw.1 Try.underlying25 rfl info25s) <;> rfl)
                try simp only [Act.put, List.getElem_toArray, List.getElem_cons_zero, List.getElem_cons_succ, List.setIfInBounds_toArray, List.set_cons_zero, List.set_cons_succ]
                refine wpAnyH_take (i := 1) (oi := _) (v := ?vfc2) rfl (by kernel_rfl) (by kernel_rfl) (by kernel_rfl) (fun _ _ _ h => h) (Or.inl ⟨by rfl, ?hyfc2⟩) (by assumption) ?restfc2
                case hyfc2 => (intro w hSw; (try dsimp only at hSw); go_simp; all_goals with_reducible rfl)
                try simp only [Act.put, List.getElem_toArray, List.getElem_cons_zero, List.getElem_cons_succ, List.setIfInBounds_toArray, List.set_cons_zero, List.set_cons_succ]
                refine wpAnyH_take (i := 2) (oi := _) (v := ?vfc3) rfl (by kernel_rfl) (by kernel_rfl) (by kernel_rfl) (fun _ _ _ h => h) (Or.inl ⟨by rfl, ?hyfc3⟩) (by assumption) ?restfc3
                case hyfc3 => (intro w hSw; (try dsimp only at hSw); go_simp; all_goals with_reducible rfl)
                try simp only [Act.put, List.getElem_toArray, List.getElem_cons_zero, List.getElem_cons_succ, List.setIfInBounds_toArray, List.set_cons_zero, List.set_cons_succ]
                refine wpAnyH_take (i := 3) (oi := _) (v := ?vfc4) rfl (by kernel_rfl) (by kernel_rfl) (by kernel_rfl) (fun _ _ _ h => h) (Or.inl ⟨by rfl, ?hyfc4⟩) (by assumption) ?restfc4
                case hyfc4 => (intro w hSw; (try dsimp only at hSw); go_simp; all_goals with_reducible rfl)
                try simp only [Act.put, List.getElem_toArray, List.getElem_cons_zero, List.getElem_cons_succ, List.setIfInBounds_toArray, List.set_cons_zero, List.set_cons_succ]
                refine wpAnyH_take (i := 4) (oi := _) (v := ?vfc5) rfl (by kernel_rfl) (by kernel_rfl) (by kernel_rfl) (fun _ _ _ h => h) (Or.inl ⟨by rfl, ?hyfc5⟩) (by assumption) ?restfc5
                case hyfc5 => (intro w hSw; (try dsimp only at hSw); go_simp; all_goals with_reducible rfl)
                try simp only [Act.put, List.getElem_toArray, List.getElem_cons_zero, List.getElem_cons_succ, List.setIfInBounds_toArray, List.set_cons_zero, List.set_cons_succ]
                refine wpAnyH_ready (rs := [5]) (by kernel_rfl) (by simp) ?_
                refine AllReadyH.cons (o := _) rfl (fun K hK => ?_) AllReadyH.nil
                go_simp
                try go_wp2_with fail
                (with_reducible refine (HDI.out _ HC15.out.1.drew).mono ?_); rintro y w17 ⟨V2, e2, M2, g2, rfl, hv, hm, hb9⟩
                have HD2 := Lib.hid (And.intro (Below.trans HC15.out.1.drew (hb9.mono (Below.size HC15.out.1.drew))) (And.intro hv (And.intro hm (And.intro (HC15.out.2.1.drew.below hb9) (HC15.out.2.2.drew.below hb9)))))
                clear hb9 hv hm
                refine hK.out _ _ ?_ (fun hHeldfc6 => ?_)
                · (try dsimp only); exact ⟨(HA.out _ (HD2.out.1)).1, HT.out.2.2.1 _ (HD2.out.1)⟩
                clear hK K hHeldfc
                try simp only [Act.put, List.getElem_toArray, List.getElem_cons_zero, List.getElem_cons_succ, List.setIfInBounds_toArray, List.set_cons_zero, List.set_cons_succ]
                refine wpAnyH_take (i := 6) (oi := _) (v := ?vfc7) rfl (by kernel_rfl) (by kernel_rfl) (by kernel_rfl) (fun _ _ _ h => h) (Or.inl ⟨by rfl, ?hyfc7⟩) (by assumption) ?restfc7
                case hyfc7 => (intro w hSw; (try dsimp only at hSw); go_simp; all_goals with_reducible rfl)
                try simp only [Act.put, List.getElem_toArray, List.getElem_cons_zero, List.getElem_cons_succ, List.setIfInBounds_toArray, List.set_cons_zero, List.set_cons_succ]
                refine wpAnyH_take (i := 7) (oi := _) (v := ?vfc8) rfl (by kernel_rfl) (by kernel_rfl) (by kernel_rfl) (fun _ _ _ h => h) (Or.inl ⟨by rfl, ?hyfc8⟩) (by assumption) ?restfc8
                case hyfc8 => (intro w hSw; (try dsimp only at hSw); go_simp; all_goals with_reducible rfl)
                try simp only [Act.put, List.getElem_toArray, List.getElem_cons_zero, List.getElem_cons_succ, List.setIfInBounds_toArray, List.set_cons_zero, List.set_cons_succ]
                refine wpAnyH_take (i := 8) (oi := _) (v := ?vfc9) rfl (by kernel_rfl) (by kernel_rfl) (by kernel_rfl) (fun _ _ _ h => h) (Or.inl ⟨by rfl, ?hyfc9⟩) (by assumption) ?restfc9
                case hyfc9 => (intro w hSw; (try dsimp only at hSw); go_simp; all_goals with_reducible rfl)
                try simp only [Act.put, List.getElem_toArray, List.getElem_cons_zero, List.getElem_cons_succ, List.setIfInBounds_toArray, List.set_cons_zero, List.set_cons_succ]
                refine wpAnyH_take (i := 9) (oi := _) (v := ?vfc10) rfl (by kernel_rfl) (by kernel_rfl) (by kernel_rfl) (fun _ _ _ h => h) (Or.inl ⟨by rfl, ?hyfc10⟩) (by assumption) ?restfc10
                case hyfc10 => (intro w hSw; (try dsimp only at hSw); go_simp; all_goals with_reducible rfl)
                try simp only [Act.put, List.getElem_toArray, List.getElem_cons_zero, List.getElem_cons_succ, List.setIfInBounds_toArray, List.set_cons_zero, List.set_cons_succ]
                refine wpAnyH_take (i := 10) (oi := _) (v := ?vfc11) rfl (by kernel_rfl) (by kernel_rfl) (by kernel_rfl) (fun _ _ _ h => h) (Or.inl ⟨by rfl, ?hyfc11⟩) (by assumption) ?restfc11
                case hyfc11 => (intro w hSw; (try dsimp only at hSw); go_simp; all_goals with_reducible rfl)
                try simp only [Act.put, List.getElem_toArray, List.getElem_cons_zero, List.getElem_cons_succ, List.setIfInBounds_toArray, List.set_cons_zero, List.set_cons_succ]
                refine wpAnyH_take (i := 11) (oi := _) (v := ?vfc12) rfl (by kernel_rfl) (by kernel_rfl) (by kernel_rfl) (fun _ _ _ h => h) (Or.inl ⟨by rfl, ?hyfc12⟩) (by assumption) ?restfc12
                case hyfc12 => (intro w hSw; (try dsimp only at hSw); go_simp; all_goals with_reducible rfl)
                try simp only [Act.put, List.getElem_toArray, List.getElem_cons_zero, List.getElem_cons_succ, List.setIfInBounds_toArray, List.set_cons_zero, List.set_cons_succ]
                refine wpAnyH_take (i := 12) (oi := _) (v := ?vfc13) rfl (by kernel_rfl) (by kernel_rfl) (by kernel_rfl) (fun _ _ _ h => h) (Or.inl ⟨by rfl, ?hyfc13⟩) (by assumption) ?restfc13
                case hyfc13 => (intro w hSw; (try dsimp only at hSw); go_simp; all_goals with_reducible rfl)
                try simp only [Act.put, List.getElem_toArray, List.getElem_cons_zero, List.getElem_cons_succ, List.setIfInBounds_toArray, List.set_cons_zero, List.set_cons_succ]
                refine wpAnyH_done (by kernel_rfl) ?_ _
                skip
                go_wp2_with (first | ((with_reducible refine (HII.out rv V1 V2 e1 e2 _ HD2.out.2.2.2.1 HD2.out.2.1).mono ?_); rintro e v9 ⟨rfl, hb⟩; have HV9 := Lib.hid (And.intro (HD2.out.1.trans (hb.mono HD2.out.1.size)) (And.intro (HD2.out.2.2.2.2.below hb) (HD2.out.2.2.1.below hb))); clear hb) | ((with_reducible refine (HII.out rm M1 M2 g1 g2 _ HV9.out.2.1 HV9.out.2.2).mono ?_); rintro e v10 ⟨rfl, hb⟩; have HV10 := Lib.hid (HV9.out.1.trans (hb.mono HV9.out.1.size)); clear hb))
                go_roundg (2 - (i + 1))
                case measure => omega
                case rel => exact ⟨i + 1, by omega, by go_num, HV10.out⟩
              refine AllReadyH.cons (o := _) rfl (fun K hK => ?_) AllReadyH.nil
              go_simp
              obtain ⟨v15a, hu⟩ : ∃ u, (World.alloc w9 (.cells #[.int .i64 0, .int .i64 0, .int .i64 0] 34)).drew = u := ⟨_, rfl⟩
              have hbu : Below w9.heap.size w9.drew v15a := by rw [← hu]; exact (fun (h : Below w9.heap.size w9 (World.alloc w9 (.cells #[.int .i64 0, .int .i64 0, .int .i64 0] 34))) => (⟨h.os, h.tape, h.output, h.size, h.block⟩ : Below w9.heap.size w9.drew (World.alloc w9 (.cells #[.int .i64 0, .int .i64 0, .int .i64 0] 34)).drew)) ((Below.refl _ _).alloc (Nat.le_refl _) _)
              have hnx : v15a.heap[w9.heap.size]? = some (.cells #[.int .i64 0, .int .i64 0, .int .i64 0] 34 (0, 0)) := by rw [← hu]; exact Go.heap_alloc_new w9 _
              obtain ⟨nb, hnb⟩ : ∃ nb, w9.heap.size = nb := ⟨_, rfl⟩
              first | rw [hu] | (rw [show World.alloc _ _ = _ from hu])
              try rw [hnb]
              have hle : Wt.heap.size ≤ nb := by rw [← hnb]; exact Below.size (HB1.out)
              rw [hnb] at hnx
              have Hv15a := Lib.hid (And.intro (Below.trans (HB1.out.drew) (hbu.mono (by rw [hnb]; exact hle))) (And.intro (hnx) (hle)))
              clear hu hbu hnx hnb hle
              refine hK.out _ _ ?_ (fun hHeldfb17 => ?_)
              · (try dsimp only); exact ⟨(HA.out _ (Hv15a.out.1)).1, HT.out.2.2.1 _ (Hv15a.out.1)⟩
              clear hK K hHeldfb
              try simp only [Act.put, List.getElem_toArray, List.getElem_cons_zero, List.getElem_cons_succ, List.setIfInBounds_toArray, List.set_cons_zero, List.set_cons_succ]
              refine wpAnyH_ready (rs := [5]) (by kernel_rfl) (by simp) ?_
              refine AllReadyH.cons (o := _) rfl (fun K hK => ?_) AllReadyH.nil
              go_simp
              try go_wp2_with fail
              (with_reducible refine (HRN.out _ (Hv15a.out.1)).mono ?_); rintro y v15ar ⟨V1, e1, M1, g1, rfl, hv, hm, hb9, hfv, hfm⟩
              have Hv15ar := Lib.hid (And.intro (Below.trans (Hv15a.out.1) (hb9.mono (Below.size (Hv15a.out.1)))) (And.intro (Rx.call hv (fun a ha => Nat.lt_of_lt_of_le (blk_lt (Hv15a.out.2.1)) (hfv a ha))) (And.intro (Rx.call hm (fun a ha => Nat.lt_of_lt_of_le (blk_lt (Hv15a.out.2.1)) (hfm a ha))) (And.intro ((hb9.block _ (blk_lt (Hv15a.out.2.1))).trans (Hv15a.out.2.1)) (Hv15a.out.2.2)))))
              clear hb9 hv hm hfv hfm
              refine hK.out _ _ ?_ (fun hHeldfb18 => ?_)
              · (try dsimp only); exact ⟨(HA.out _ (Hv15ar.out.1)).1, HT.out.2.2.1 _ (Hv15ar.out.1)⟩
              clear hK K hHeldfb17
              try simp only [Act.put, List.getElem_toArray, List.getElem_cons_zero, List.getElem_cons_succ, List.setIfInBounds_toArray, List.set_cons_zero, List.set_cons_succ]
              refine wpAnyH_take (i := 6) (oi := _) (v := ?vfb19) rfl (by kernel_rfl) (by kernel_rfl) (by kernel_rfl) (fun _ _ _ h => h) (Or.inl ⟨by rfl, ?hyfb19⟩) (by assumption) ?restfb19
              case hyfb19 => (intro w hSw; (try dsimp only at hSw); go_simp; all_goals with_reducible rfl)
              try simp only [Act.put, List.getElem_toArray, List.getElem_cons_zero, List.getElem_cons_succ, List.setIfInBounds_toArray, List.set_cons_zero, List.set_cons_succ]
              refine wpAnyH_take (i := 7) (oi := _) (v := ?vfb20) rfl (by kernel_rfl) (by kernel_rfl) (by kernel_rfl) (fun _ _ _ h => h) (Or.inl ⟨by rfl, ?hyfb20⟩) (by assumption) ?restfb20
              case hyfb20 => (intro w hSw; (try dsimp only at hSw); go_simp; all_goals with_reducible rfl)
              try simp only [Act.put, List.getElem_toArray, List.getElem_cons_zero, List.getElem_cons_succ, List.setIfInBounds_toArray, List.set_cons_zero, List.set_cons_succ]
              refine wpAnyH_take (i := 8) (oi := _) (v := ?vfb21) rfl (by kernel_rfl) (by kernel_rfl) (by kernel_rfl) (fun _ _ _ h => h) (Or.inl ⟨by rfl, ?hyfb21⟩) (by assumption) ?restfb21
              case hyfb21 => (intro w hSw; (try dsimp only at hSw); go_simp; all_goals with_reducible rfl)
              try simp only [Act.put, List.getElem_toArray, List.getElem_cons_zero, List.getElem_cons_succ, List.setIfInBounds_toArray, List.set_cons_zero, List.set_cons_succ]
              refine wpAnyH_take (i := 9) (oi := _) (v := ?vfb22) rfl (by kernel_rfl) (by kernel_rfl) (by kernel_rfl) (fun _ _ _ h => h) (Or.inl ⟨by rfl, ?hyfb22⟩) (by assumption) ?restfb22
              case hyfb22 => (intro w hSw; (try dsimp only at hSw); go_simp; all_goals with_reducible rfl)
              try simp only [Act.put, List.getElem_toArray, List.getElem_cons_zero, List.getElem_cons_succ, List.setIfInBounds_toArray, List.set_cons_zero, List.set_cons_succ]
              refine wpAnyH_take (i := 10) (oi := _) (v := ?vfb23) rfl (by kernel_rfl) (by kernel_rfl) (by kernel_rfl) (fun _ _ _ h => h) (Or.inl ⟨by rfl, ?hyfb23⟩) (by assumption) ?restfb23
              case hyfb23 => (intro w hSw; (try dsimp only at hSw); go_simp; all_goals with_reducible rfl)
              try simp only [Act.put, List.getElem_toArray, List.getElem_cons_zero, List.getElem_cons_succ, List.setIfInBounds_toArray, List.set_cons_zero, List.set_cons_succ]
              refine wpAnyH_take (i := 12) (oi := _) (v := ?vfb24) rfl (by kernel_rfl) (by kernel_rfl) (by kernel_rfl) (fun _ _ _ h => h) (Or.inl ⟨by rfl, ?hyfb24⟩) (by assumption) ?restfb24
              case hyfb24 => (intro w hSw; (try dsimp only at hSw); go_simp; all_goals with_reducible rfl)
              try simp only [Act.put, List.getElem_toArray, List.getElem_cons_zero, List.getElem_cons_succ, List.setIfInBounds_toArray, List.set_cons_zero, List.set_cons_succ]
              refine wpAnyH_take (i := 13) (oi := _) (v := ?vfb25) rfl (by kernel_rfl) (by kernel_rfl) (by kernel_rfl) (fun _ _ _ h => h) (Or.inl ⟨by rfl, ?hyfb25⟩) (by assumption) ?restfb25
              case hyfb25 => (intro w hSw; (try dsimp only at hSw); go_simp; all_goals with_reducible rfl)
              try simp only [Act.put, List.getElem_toArray, List.getElem_cons_zero, List.getElem_cons_succ, List.setIfInBounds_toArray, List.set_cons_zero, List.set_cons_succ]
              refine wpAnyH_ready (rs := [14]) (by kernel_rfl) (by simp) ?_
              refine AllReadyH.cons (o := _) rfl (fun K hK => ?_) AllReadyH.nil
              have f0 := frozen_of_row v15ar nb 0 _ _ (Hv15ar.out.2.2.2.1)
              have f1 := frozen_of_row v15ar nb 1 _ _ (Hv15ar.out.2.2.2.1)
              have f2 := frozen_of_row v15ar nb 2 _ _ (Hv15ar.out.2.2.2.1)
              have k0 : v15ar.cell? ⟨nb, 0, none⟩ = some (.int .i64 0) := by rw [cell_of_row _ _ _ _ _ _ (Hv15ar.out.2.2.2.1)]; rfl
              have k1 : v15ar.cell? ⟨nb, 1, none⟩ = some (.int .i64 0) := by rw [cell_of_row _ _ _ _ _ _ (Hv15ar.out.2.2.2.1)]; rfl
              have k2 : v15ar.cell? ⟨nb, 2, none⟩ = some (.int .i64 0) := by rw [cell_of_row _ _ _ _ _ _ (Hv15ar.out.2.2.2.1)]; rfl
              go_simp
              clear f0 f1 f2 k0 k1 k2
              obtain ⟨v15ars, hu⟩ : ∃ u, ((v15ar.setCell ⟨nb, 0, none⟩ (.int .i64 (d1 : Int))).setCell ⟨nb, 1, none⟩ (.int .i64 (d2 : Int))).setCell ⟨nb, 2, none⟩ (.int .i64 (d3 : Int)) = u := ⟨_, rfl⟩
              rw [hu]
              have hbn : Below nb v15ar v15ars := by rw [← hu]; exact (((show Below nb v15ar v15ar from ⟨rfl, rfl, rfl, Nat.le_refl _, fun _ _ => rfl⟩).setCell (Nat.le_refl _) _).setCell (Nat.le_refl _) _).setCell (Nat.le_refl _) _
              have hoth : ∀ k, k ≠ nb → v15ars.heap[k]? = v15ar.heap[k]? := fun k hk => by rw [← hu, heap_setCell_other _ _ _ _ (by simpa using hk), heap_setCell_other _ _ _ _ (by simpa using hk), heap_setCell_other _ _ _ _ (by simpa using hk)]
              have HC15 := Lib.hid (And.intro (Below.trans (Hv15ar.out.1) (hbn.mono (Hv15ar.out.2.2.2.2))) (And.intro (Rx.turn (Hv15ar.out.2.1) hoth) (Rx.turn (Hv15ar.out.2.2.1) hoth)))
              clear hu hbn hoth
              obtain ⟨v16, hv16⟩ : ∃ v, v15ars = v := ⟨_, rfl⟩
              rw [hv16]
              rw [hv16] at HC15
              clear hv16
              refine hK.out _ _ ?_ (fun hHeldfb26 => ?_)
              · (try dsimp only); exact ⟨(HA.out _ HC15.out.1).1, HT.out.2.2.1 _ HC15.out.1⟩
              clear hK K hHeldfb18
              try simp only [Act.put, List.getElem_toArray, List.getElem_cons_zero, List.getElem_cons_succ, List.setIfInBounds_toArray, List.set_cons_zero, List.set_cons_succ]
              refine wpAnyH_take (i := 15) (oi := _) (v := ?vfb27) rfl (by kernel_rfl) (by kernel_rfl) (by kernel_rfl) (fun _ _ _ h => h) (Or.inl ⟨by rfl, ?hyfb27⟩) (by assumption) ?restfb27
              case hyfb27 => (intro w hSw; (try dsimp only at hSw); go_simp; all_goals with_reducible rfl)
              try simp only [Act.put, List.getElem_toArray, List.getElem_cons_zero, List.getElem_cons_succ, List.setIfInBounds_toArray, List.set_cons_zero, List.set_cons_succ]
              refine wpAnyH_done (by kernel_rfl) ?_ _
              go_upto_region 16 with fail
              refine wp_region_held_drew (S := (fun w' => w'.heap[n5]? = some (.cells c.cells 25 (0, 0)) ∧ w'.cell? ⟨bt, i, none⟩ = some (.slice X T.length cX))) (by kernel_rfl) ?_ (fun hHeldfd => ?_)
              · (try dsimp only); exact ⟨(HA.out _ (HC15.out.1.drew)).1, HT.out.2.2.1 _ (HC15.out.1.drew)⟩
              refine wpAnyH_take (i := 0) (oi := _) (v := ?vfd1) rfl (by kernel_rfl) (by kernel_rfl) (by kernel_rfl) (fun _ _ _ h => h) (Or.inl ⟨by rfl, ?hyfd1⟩) (by assumption) ?restfd1
              case hyfd1 => (intro w hSw; (try dsimp only at hSw); (refine exec_load_row 25 (.tmp 5) ?_ n5 ?_ 25 _ (0, 0) _ hSw.1 Try.underlying25 rfl info25s) <;> rfl)
              try simp only [Act.put, List.getElem_toArray, List.getElem_cons_zero, List.getElem_cons_succ, List.setIfInBounds_toArray, List.set_cons_zero, List.set_cons_succ]
              refine wpAnyH_take (i := 1) (oi := _) (v := ?vfd2) rfl (by kernel_rfl) (by kernel_rfl) (by kernel_rfl) (fun _ _ _ h => h) (Or.inl ⟨by rfl, ?hyfd2⟩) (by assumption) ?restfd2
              case hyfd2 => (intro w hSw; (try dsimp only at hSw); go_simp; all_goals with_reducible rfl)
              try simp only [Act.put, List.getElem_toArray, List.getElem_cons_zero, List.getElem_cons_succ, List.setIfInBounds_toArray, List.set_cons_zero, List.set_cons_succ]
              refine wpAnyH_take (i := 2) (oi := _) (v := ?vfd3) rfl (by kernel_rfl) (by kernel_rfl) (by kernel_rfl) (fun _ _ _ h => h) (Or.inl ⟨by rfl, ?hyfd3⟩) (by assumption) ?restfd3
              case hyfd3 => (intro w hSw; (try dsimp only at hSw); go_simp; all_goals with_reducible rfl)
              try simp only [Act.put, List.getElem_toArray, List.getElem_cons_zero, List.getElem_cons_succ, List.setIfInBounds_toArray, List.set_cons_zero, List.set_cons_succ]
              refine wpAnyH_take (i := 3) (oi := _) (v := ?vfd4) rfl (by kernel_rfl) (by kernel_rfl) (by kernel_rfl) (fun _ _ _ h => h) (Or.inl ⟨by rfl, ?hyfd4⟩) (by assumption) ?restfd4
              case hyfd4 => (intro w hSw; (try dsimp only at hSw); go_simp; all_goals with_reducible rfl)
              try simp only [Act.put, List.getElem_toArray, List.getElem_cons_zero, List.getElem_cons_succ, List.setIfInBounds_toArray, List.set_cons_zero, List.set_cons_succ]
              refine wpAnyH_take (i := 4) (oi := _) (v := ?vfd5) rfl (by kernel_rfl) (by kernel_rfl) (by kernel_rfl) (fun _ _ _ h => h) (Or.inl ⟨by rfl, ?hyfd5⟩) (by assumption) ?restfd5
              case hyfd5 => (intro w hSw; (try dsimp only at hSw); go_simp; all_goals with_reducible rfl)
              try simp only [Act.put, List.getElem_toArray, List.getElem_cons_zero, List.getElem_cons_succ, List.setIfInBounds_toArray, List.set_cons_zero, List.set_cons_succ]
              refine wpAnyH_ready (rs := [5]) (by kernel_rfl) (by simp) ?_
              refine AllReadyH.cons (o := _) rfl (fun K hK => ?_) AllReadyH.nil
              go_simp
              try go_wp2_with fail
              (with_reducible refine (HDI.out _ HC15.out.1.drew).mono ?_); rintro y w17 ⟨V2, e2, M2, g2, rfl, hv, hm, hb9⟩
              have HD2 := Lib.hid (And.intro (Below.trans HC15.out.1.drew (hb9.mono (Below.size HC15.out.1.drew))) (And.intro hv (And.intro hm (And.intro (HC15.out.2.1.drew.below hb9) (HC15.out.2.2.drew.below hb9)))))
              clear hb9 hv hm
              refine hK.out _ _ ?_ (fun hHeldfd6 => ?_)
              · (try dsimp only); exact ⟨(HA.out _ (HD2.out.1)).1, HT.out.2.2.1 _ (HD2.out.1)⟩
              clear hK K hHeldfd
              try simp only [Act.put, List.getElem_toArray, List.getElem_cons_zero, List.getElem_cons_succ, List.setIfInBounds_toArray, List.set_cons_zero, List.set_cons_succ]
              refine wpAnyH_take (i := 6) (oi := _) (v := ?vfd7) rfl (by kernel_rfl) (by kernel_rfl) (by kernel_rfl) (fun _ _ _ h => h) (Or.inl ⟨by rfl, ?hyfd7⟩) (by assumption) ?restfd7
              case hyfd7 => (intro w hSw; (try dsimp only at hSw); go_simp; all_goals with_reducible rfl)
              try simp only [Act.put, List.getElem_toArray, List.getElem_cons_zero, List.getElem_cons_succ, List.setIfInBounds_toArray, List.set_cons_zero, List.set_cons_succ]
              refine wpAnyH_take (i := 7) (oi := _) (v := ?vfd8) rfl (by kernel_rfl) (by kernel_rfl) (by kernel_rfl) (fun _ _ _ h => h) (Or.inl ⟨by rfl, ?hyfd8⟩) (by assumption) ?restfd8
              case hyfd8 => (intro w hSw; (try dsimp only at hSw); go_simp; all_goals with_reducible rfl)
              try simp only [Act.put, List.getElem_toArray, List.getElem_cons_zero, List.getElem_cons_succ, List.setIfInBounds_toArray, List.set_cons_zero, List.set_cons_succ]
              refine wpAnyH_take (i := 8) (oi := _) (v := ?vfd9) rfl (by kernel_rfl) (by kernel_rfl) (by kernel_rfl) (fun _ _ _ h => h) (Or.inl ⟨by rfl, ?hyfd9⟩) (by assumption) ?restfd9
              case hyfd9 => (intro w hSw; (try dsimp only at hSw); go_simp; all_goals with_reducible rfl)
              try simp only [Act.put, List.getElem_toArray, List.getElem_cons_zero, List.getElem_cons_succ, List.setIfInBounds_toArray, List.set_cons_zero, List.set_cons_succ]
              refine wpAnyH_take (i := 9) (oi := _) (v := ?vfd10) rfl (by kernel_rfl) (by kernel_rfl) (by kernel_rfl) (fun _ _ _ h => h) (Or.inl ⟨by rfl, ?hyfd10⟩) (by assumption) ?restfd10
              case hyfd10 => (intro w hSw; (try dsimp only at hSw); go_simp; all_goals with_reducible rfl)
              try simp only [Act.put, List.getElem_toArray, List.getElem_cons_zero, List.getElem_cons_succ, List.setIfInBounds_toArray, List.set_cons_zero, List.set_cons_succ]
              refine wpAnyH_take (i := 10) (oi := _) (v := ?vfd11) rfl (by kernel_rfl) (by kernel_rfl) (by kernel_rfl) (fun _ _ _ h => h) (Or.inl ⟨by rfl, ?hyfd11⟩) (by assumption) ?restfd11
              case hyfd11 => (intro w hSw; (try dsimp only at hSw); go_simp; all_goals with_reducible rfl)
              try simp only [Act.put, List.getElem_toArray, List.getElem_cons_zero, List.getElem_cons_succ, List.setIfInBounds_toArray, List.set_cons_zero, List.set_cons_succ]
              refine wpAnyH_take (i := 11) (oi := _) (v := ?vfd12) rfl (by kernel_rfl) (by kernel_rfl) (by kernel_rfl) (fun _ _ _ h => h) (Or.inl ⟨by rfl, ?hyfd12⟩) (by assumption) ?restfd12
              case hyfd12 => (intro w hSw; (try dsimp only at hSw); go_simp; all_goals with_reducible rfl)
              try simp only [Act.put, List.getElem_toArray, List.getElem_cons_zero, List.getElem_cons_succ, List.setIfInBounds_toArray, List.set_cons_zero, List.set_cons_succ]
              refine wpAnyH_take (i := 12) (oi := _) (v := ?vfd13) rfl (by kernel_rfl) (by kernel_rfl) (by kernel_rfl) (fun _ _ _ h => h) (Or.inl ⟨by rfl, ?hyfd13⟩) (by assumption) ?restfd13
              case hyfd13 => (intro w hSw; (try dsimp only at hSw); go_simp; all_goals with_reducible rfl)
              try simp only [Act.put, List.getElem_toArray, List.getElem_cons_zero, List.getElem_cons_succ, List.setIfInBounds_toArray, List.set_cons_zero, List.set_cons_succ]
              refine wpAnyH_done (by kernel_rfl) ?_ _
              skip
              go_wp2_with (first | ((with_reducible refine (HII.out rv V1 V2 e1 e2 _ HD2.out.2.2.2.1 HD2.out.2.1).mono ?_); rintro e v9 ⟨rfl, hb⟩; have HV9 := Lib.hid (And.intro (HD2.out.1.trans (hb.mono HD2.out.1.size)) (And.intro (HD2.out.2.2.2.2.below hb) (HD2.out.2.2.1.below hb))); clear hb) | ((with_reducible refine (HII.out rm M1 M2 g1 g2 _ HV9.out.2.1 HV9.out.2.2).mono ?_); rintro e v10 ⟨rfl, hb⟩; have HV10 := Lib.hid (HV9.out.1.trans (hb.mono HV9.out.1.size)); clear hb))
              go_roundg (2 - (i + 1))
              case measure => omega
              case rel => exact ⟨i + 1, by omega, by go_num, HV10.out⟩
            | true =>
              go_upto_region 15 with fail
              refine wp_region_held_drew (S := (fun w' => w'.heap[n5]? = some (.cells c.cells 25 (0, 0)) ∧ w'.cell? ⟨bt, i, none⟩ = some (.slice X T.length cX))) (by kernel_rfl) ?_ (fun hHeldtb => ?_)
              · (try dsimp only); exact ⟨(HA.out _ (HB1.out.drew)).1, HT.out.2.2.1 _ (HB1.out.drew)⟩
              refine wpAnyH_take (i := 0) (oi := _) (v := ?vtb1) rfl (by kernel_rfl) (by kernel_rfl) (by kernel_rfl) (fun _ _ _ h => h) (Or.inl ⟨by rfl, ?hytb1⟩) (by assumption) ?resttb1
              case hytb1 => (intro w hSw; (try dsimp only at hSw); (refine exec_load_row 25 (.tmp 5) ?_ n5 ?_ 25 _ (0, 0) _ hSw.1 Try.underlying25 rfl info25s) <;> rfl)
              try simp only [Act.put, List.getElem_toArray, List.getElem_cons_zero, List.getElem_cons_succ, List.setIfInBounds_toArray, List.set_cons_zero, List.set_cons_succ]
              refine wpAnyH_take (i := 1) (oi := _) (v := ?vtb2) rfl (by kernel_rfl) (by kernel_rfl) (by kernel_rfl) (fun _ _ _ h => h) (Or.inl ⟨by rfl, ?hytb2⟩) (by assumption) ?resttb2
              case hytb2 => (intro w hSw; (try dsimp only at hSw); go_simp; all_goals with_reducible rfl)
              try simp only [Act.put, List.getElem_toArray, List.getElem_cons_zero, List.getElem_cons_succ, List.setIfInBounds_toArray, List.set_cons_zero, List.set_cons_succ]
              refine wpAnyH_take (i := 2) (oi := _) (v := ?vtb3) rfl (by kernel_rfl) (by kernel_rfl) (by kernel_rfl) (fun _ _ _ h => h) (Or.inl ⟨by rfl, ?hytb3⟩) (by assumption) ?resttb3
              case hytb3 => (intro w hSw; (try dsimp only at hSw); go_simp; all_goals with_reducible rfl)
              try simp only [Act.put, List.getElem_toArray, List.getElem_cons_zero, List.getElem_cons_succ, List.setIfInBounds_toArray, List.set_cons_zero, List.set_cons_succ]
              refine wpAnyH_take (i := 3) (oi := _) (v := ?vtb4) rfl (by kernel_rfl) (by kernel_rfl) (by kernel_rfl) (fun _ _ _ h => h) (Or.inl ⟨by rfl, ?hytb4⟩) (by assumption) ?resttb4
              case hytb4 => (intro w hSw; (try dsimp only at hSw); go_simp; all_goals with_reducible rfl)
              try simp only [Act.put, List.getElem_toArray, List.getElem_cons_zero, List.getElem_cons_succ, List.setIfInBounds_toArray, List.set_cons_zero, List.set_cons_succ]
              refine wpAnyH_take (i := 4) (oi := _) (v := ?vtb5) rfl (by kernel_rfl) (by kernel_rfl) (by kernel_rfl) (fun _ _ _ h => h) (Or.inl ⟨by rfl, ?hytb5⟩) (by assumption) ?resttb5
              case hytb5 => (intro w hSw; (try dsimp only at hSw); go_simp; all_goals with_reducible rfl)
              try simp only [Act.put, List.getElem_toArray, List.getElem_cons_zero, List.getElem_cons_succ, List.setIfInBounds_toArray, List.set_cons_zero, List.set_cons_succ]
              refine wpAnyH_ready (rs := [5, 11]) (by kernel_rfl) (by simp) ?_
              refine AllReadyH.cons (o := _) rfl (fun K hK => ?_) ?_
              · go_simp
                try go_wp2_with fail
                (with_reducible refine (HRN.out _ (HB1.out.drew)).mono ?_); rintro y v15r ⟨V1, e1, M1, g1, rfl, hv, hm, hb9, hfv, hfm⟩
                have Hv15r := Lib.hid (And.intro (Below.trans (HB1.out.drew) (hb9.mono (Below.size (HB1.out.drew)))) (And.intro (hv) (hm)))
                clear hb9 hv hm hfv hfm
                refine hK.out _ _ ?_ (fun hHeldtb6 => ?_)
                · (try dsimp only); exact ⟨(HA.out _ (Hv15r.out.1)).1, HT.out.2.2.1 _ (Hv15r.out.1)⟩
                clear hK K hHeldtb
                try simp only [Act.put, List.getElem_toArray, List.getElem_cons_zero, List.getElem_cons_succ, List.setIfInBounds_toArray, List.set_cons_zero, List.set_cons_succ]
                refine wpAnyH_take (i := 6) (oi := _) (v := ?vtb7) rfl (by kernel_rfl) (by kernel_rfl) (by kernel_rfl) (fun _ _ _ h => h) (Or.inl ⟨by rfl, ?hytb7⟩) (by assumption) ?resttb7
                case hytb7 => (intro w hSw; (try dsimp only at hSw); go_simp; all_goals with_reducible rfl)
                try simp only [Act.put, List.getElem_toArray, List.getElem_cons_zero, List.getElem_cons_succ, List.setIfInBounds_toArray, List.set_cons_zero, List.set_cons_succ]
                refine wpAnyH_take (i := 7) (oi := _) (v := ?vtb8) rfl (by kernel_rfl) (by kernel_rfl) (by kernel_rfl) (fun _ _ _ h => h) (Or.inl ⟨by rfl, ?hytb8⟩) (by assumption) ?resttb8
                case hytb8 => (intro w hSw; (try dsimp only at hSw); go_simp; all_goals with_reducible rfl)
                try simp only [Act.put, List.getElem_toArray, List.getElem_cons_zero, List.getElem_cons_succ, List.setIfInBounds_toArray, List.set_cons_zero, List.set_cons_succ]
                refine wpAnyH_take (i := 8) (oi := _) (v := ?vtb9) rfl (by kernel_rfl) (by kernel_rfl) (by kernel_rfl) (fun _ _ _ h => h) (Or.inl ⟨by rfl, ?hytb9⟩) (by assumption) ?resttb9
                case hytb9 => (intro w hSw; (try dsimp only at hSw); go_simp; all_goals with_reducible rfl)
                try simp only [Act.put, List.getElem_toArray, List.getElem_cons_zero, List.getElem_cons_succ, List.setIfInBounds_toArray, List.set_cons_zero, List.set_cons_succ]
                refine wpAnyH_take (i := 9) (oi := _) (v := ?vtb10) rfl (by kernel_rfl) (by kernel_rfl) (by kernel_rfl) (fun _ _ _ h => h) (Or.inl ⟨by rfl, ?hytb10⟩) (by assumption) ?resttb10
                case hytb10 => (intro w hSw; (try dsimp only at hSw); go_simp; all_goals with_reducible rfl)
                try simp only [Act.put, List.getElem_toArray, List.getElem_cons_zero, List.getElem_cons_succ, List.setIfInBounds_toArray, List.set_cons_zero, List.set_cons_succ]
                refine wpAnyH_take (i := 10) (oi := _) (v := ?vtb11) rfl (by kernel_rfl) (by kernel_rfl) (by kernel_rfl) (fun _ _ _ h => h) (Or.inl ⟨by rfl, ?hytb11⟩) (by assumption) ?resttb11
                case hytb11 => (intro w hSw; (try dsimp only at hSw); go_simp; all_goals with_reducible rfl)
                try simp only [Act.put, List.getElem_toArray, List.getElem_cons_zero, List.getElem_cons_succ, List.setIfInBounds_toArray, List.set_cons_zero, List.set_cons_succ]
                refine wpAnyH_ready (rs := [11]) (by kernel_rfl) (by simp) ?_
                refine AllReadyH.cons (o := _) rfl (fun K hK => ?_) AllReadyH.nil
                go_simp
                obtain ⟨v15ra, hu⟩ : ∃ u, World.alloc v15r (.cells #[.int .i64 0, .int .i64 0, .int .i64 0] 34) = u := ⟨_, rfl⟩
                have hbu : Below v15r.heap.size v15r v15ra := by rw [← hu]; exact (Below.refl _ _).alloc (Nat.le_refl _) _
                have hnx : v15ra.heap[v15r.heap.size]? = some (.cells #[.int .i64 0, .int .i64 0, .int .i64 0] 34 (0, 0)) := by rw [← hu]; exact Go.heap_alloc_new v15r _
                obtain ⟨nb, hnb⟩ : ∃ nb, v15r.heap.size = nb := ⟨_, rfl⟩
                first | rw [hu] | (rw [show World.alloc _ _ = _ from hu])
                try rw [hnb]
                have hle : Wt.heap.size ≤ nb := by rw [← hnb]; exact Below.size (Hv15r.out.1)
                rw [hnb] at hnx
                have Hv15ra := Lib.hid (And.intro (Below.trans (Hv15r.out.1) (hbu.mono (by rw [hnb]; exact hle))) (And.intro (Rx.new (Hv15r.out.2.1) hnb hbu) (And.intro (Rx.new (Hv15r.out.2.2) hnb hbu) (And.intro (hnx) (hle)))))
                clear hu hbu hnx hnb hle
                refine hK.out _ _ ?_ (fun hHeldtb12 => ?_)
                · (try dsimp only); exact ⟨(HA.out _ (Hv15ra.out.1)).1, HT.out.2.2.1 _ (Hv15ra.out.1)⟩
                clear hK K hHeldtb6
                try simp only [Act.put, List.getElem_toArray, List.getElem_cons_zero, List.getElem_cons_succ, List.setIfInBounds_toArray, List.set_cons_zero, List.set_cons_succ]
                refine wpAnyH_take (i := 12) (oi := _) (v := ?vtb13) rfl (by kernel_rfl) (by kernel_rfl) (by kernel_rfl) (fun _ _ _ h => h) (Or.inl ⟨by rfl, ?hytb13⟩) (by assumption) ?resttb13
                case hytb13 => (intro w hSw; (try dsimp only at hSw); go_simp; all_goals with_reducible rfl)
                try simp only [Act.put, List.getElem_toArray, List.getElem_cons_zero, List.getElem_cons_succ, List.setIfInBounds_toArray, List.set_cons_zero, List.set_cons_succ]
                refine wpAnyH_take (i := 13) (oi := _) (v := ?vtb14) rfl (by kernel_rfl) (by kernel_rfl) (by kernel_rfl) (fun _ _ _ h => h) (Or.inl ⟨by rfl, ?hytb14⟩) (by assumption) ?resttb14
                case hytb14 => (intro w hSw; (try dsimp only at hSw); go_simp; all_goals with_reducible rfl)
                try simp only [Act.put, List.getElem_toArray, List.getElem_cons_zero, List.getElem_cons_succ, List.setIfInBounds_toArray, List.set_cons_zero, List.set_cons_succ]
                refine wpAnyH_ready (rs := [14]) (by kernel_rfl) (by simp) ?_
                refine AllReadyH.cons (o := _) rfl (fun K hK => ?_) AllReadyH.nil
                have f0 := frozen_of_row v15ra nb 0 _ _ (Hv15ra.out.2.2.2.1)
                have f1 := frozen_of_row v15ra nb 1 _ _ (Hv15ra.out.2.2.2.1)
                have f2 := frozen_of_row v15ra nb 2 _ _ (Hv15ra.out.2.2.2.1)
                have k0 : v15ra.cell? ⟨nb, 0, none⟩ = some (.int .i64 0) := by rw [cell_of_row _ _ _ _ _ _ (Hv15ra.out.2.2.2.1)]; rfl
                have k1 : v15ra.cell? ⟨nb, 1, none⟩ = some (.int .i64 0) := by rw [cell_of_row _ _ _ _ _ _ (Hv15ra.out.2.2.2.1)]; rfl
                have k2 : v15ra.cell? ⟨nb, 2, none⟩ = some (.int .i64 0) := by rw [cell_of_row _ _ _ _ _ _ (Hv15ra.out.2.2.2.1)]; rfl
                go_simp
                clear f0 f1 f2 k0 k1 k2
                obtain ⟨v15ras, hu⟩ : ∃ u, ((v15ra.setCell ⟨nb, 0, none⟩ (.int .i64 (d1 : Int))).setCell ⟨nb, 1, none⟩ (.int .i64 (d2 : Int))).setCell ⟨nb, 2, none⟩ (.int .i64 (d3 : Int)) = u := ⟨_, rfl⟩
                rw [hu]
                have hbn : Below nb v15ra v15ras := by rw [← hu]; exact (((show Below nb v15ra v15ra from ⟨rfl, rfl, rfl, Nat.le_refl _, fun _ _ => rfl⟩).setCell (Nat.le_refl _) _).setCell (Nat.le_refl _) _).setCell (Nat.le_refl _) _
                have hoth : ∀ k, k ≠ nb → v15ras.heap[k]? = v15ra.heap[k]? := fun k hk => by rw [← hu, heap_setCell_other _ _ _ _ (by simpa using hk), heap_setCell_other _ _ _ _ (by simpa using hk), heap_setCell_other _ _ _ _ (by simpa using hk)]
                have HC15 := Lib.hid (And.intro (Below.trans (Hv15ra.out.1) (hbn.mono (Hv15ra.out.2.2.2.2))) (And.intro (Rx.turn (Hv15ra.out.2.1) hoth) (Rx.turn (Hv15ra.out.2.2.1) hoth)))
                clear hu hbn hoth
                obtain ⟨v16, hv16⟩ : ∃ v, v15ras = v := ⟨_, rfl⟩
                rw [hv16]
                rw [hv16] at HC15
                clear hv16
                refine hK.out _ _ ?_ (fun hHeldtb15 => ?_)
                · (try dsimp only); exact ⟨(HA.out _ HC15.out.1).1, HT.out.2.2.1 _ HC15.out.1⟩
                clear hK K hHeldtb12
                try simp only [Act.put, List.getElem_toArray, List.getElem_cons_zero, List.getElem_cons_succ, List.setIfInBounds_toArray, List.set_cons_zero, List.set_cons_succ]
                refine wpAnyH_take (i := 15) (oi := _) (v := ?vtb16) rfl (by kernel_rfl) (by kernel_rfl) (by kernel_rfl) (fun _ _ _ h => h) (Or.inl ⟨by rfl, ?hytb16⟩) (by assumption) ?resttb16
                case hytb16 => (intro w hSw; (try dsimp only at hSw); go_simp; all_goals with_reducible rfl)
                try simp only [Act.put, List.getElem_toArray, List.getElem_cons_zero, List.getElem_cons_succ, List.setIfInBounds_toArray, List.set_cons_zero, List.set_cons_succ]
                refine wpAnyH_done (by kernel_rfl) ?_ _
                go_upto_region 16 with fail
                refine wp_region_held_drew (S := (fun w' => w'.heap[n5]? = some (.cells c.cells 25 (0, 0)) ∧ w'.cell? ⟨bt, i, none⟩ = some (.slice X T.length cX))) (by kernel_rfl) ?_ (fun hHeldtc => ?_)
                · (try dsimp only); exact ⟨(HA.out _ (HC15.out.1.drew)).1, HT.out.2.2.1 _ (HC15.out.1.drew)⟩
                refine wpAnyH_take (i := 0) (oi := _) (v := ?vtc1) rfl (by kernel_rfl) (by kernel_rfl) (by kernel_rfl) (fun _ _ _ h => h) (Or.inl ⟨by rfl, ?hytc1⟩) (by assumption) ?resttc1
                case hytc1 => (intro w hSw; (try dsimp only at hSw); (refine exec_load_row 25 (.tmp 5) ?_ n5 ?_ 25 _ (0, 0) _ hSw.1 Try.underlying25 rfl info25s) <;> rfl)
                try simp only [Act.put, List.getElem_toArray, List.getElem_cons_zero, List.getElem_cons_succ, List.setIfInBounds_toArray, List.set_cons_zero, List.set_cons_succ]
                refine wpAnyH_take (i := 1) (oi := _) (v := ?vtc2) rfl (by kernel_rfl) (by kernel_rfl) (by kernel_rfl) (fun _ _ _ h => h) (Or.inl ⟨by rfl, ?hytc2⟩) (by assumption) ?resttc2
                case hytc2 => (intro w hSw; (try dsimp only at hSw); go_simp; all_goals with_reducible rfl)
                try simp only [Act.put, List.getElem_toArray, List.getElem_cons_zero, List.getElem_cons_succ, List.setIfInBounds_toArray, List.set_cons_zero, List.set_cons_succ]
                refine wpAnyH_take (i := 2) (oi := _) (v := ?vtc3) rfl (by kernel_rfl) (by kernel_rfl) (by kernel_rfl) (fun _ _ _ h => h) (Or.inl ⟨by rfl, ?hytc3⟩) (by assumption) ?resttc3
                case hytc3 => (intro w hSw; (try dsimp only at hSw); go_simp; all_goals with_reducible rfl)
                try simp only [Act.put, List.getElem_toArray, List.getElem_cons_zero, List.getElem_cons_succ, List.setIfInBounds_toArray, List.set_cons_zero, List.set_cons_succ]
                refine wpAnyH_take (i := 3) (oi := _) (v := ?vtc4) rfl (by kernel_rfl) (by kernel_rfl) (by kernel_rfl) (fun _ _ _ h => h) (Or.inl ⟨by rfl, ?hytc4⟩) (by assumption) ?resttc4
                case hytc4 => (intro w hSw; (try dsimp only at hSw); go_simp; all_goals with_reducible rfl)
                try simp only [Act.put, List.getElem_toArray, List.getElem_cons_zero, List.getElem_cons_succ, List.setIfInBounds_toArray, List.set_cons_zero, List.set_cons_succ]
                refine wpAnyH_take (i := 4) (oi := _) (v := ?vtc5) rfl (by kernel_rfl) (by kernel_rfl) (by kernel_rfl) (fun _ _ _ h => h) (Or.inl ⟨by rfl, ?hytc5⟩) (by assumption) ?resttc5
                case hytc5 => (intro w hSw; (try dsimp only at hSw); go_simp; all_goals with_reducible rfl)
                try simp only [Act.put, List.getElem_toArray, List.getElem_cons_zero, List.getElem_cons_succ, List.setIfInBounds_toArray, List.set_cons_zero, List.set_cons_succ]
                refine wpAnyH_ready (rs := [5]) (by kernel_rfl) (by simp) ?_
                refine AllReadyH.cons (o := _) rfl (fun K hK => ?_) AllReadyH.nil
                go_simp
                try go_wp2_with fail
                (with_reducible refine (HDI.out _ HC15.out.1.drew).mono ?_); rintro y w17 ⟨V2, e2, M2, g2, rfl, hv, hm, hb9⟩
                have HD2 := Lib.hid (And.intro (Below.trans HC15.out.1.drew (hb9.mono (Below.size HC15.out.1.drew))) (And.intro hv (And.intro hm (And.intro (HC15.out.2.1.drew.below hb9) (HC15.out.2.2.drew.below hb9)))))
                clear hb9 hv hm
                refine hK.out _ _ ?_ (fun hHeldtc6 => ?_)
                · (try dsimp only); exact ⟨(HA.out _ (HD2.out.1)).1, HT.out.2.2.1 _ (HD2.out.1)⟩
                clear hK K hHeldtc
                try simp only [Act.put, List.getElem_toArray, List.getElem_cons_zero, List.getElem_cons_succ, List.setIfInBounds_toArray, List.set_cons_zero, List.set_cons_succ]
                refine wpAnyH_take (i := 6) (oi := _) (v := ?vtc7) rfl (by kernel_rfl) (by kernel_rfl) (by kernel_rfl) (fun _ _ _ h => h) (Or.inl ⟨by rfl, ?hytc7⟩) (by assumption) ?resttc7
                case hytc7 => (intro w hSw; (try dsimp only at hSw); go_simp; all_goals with_reducible rfl)
                try simp only [Act.put, List.getElem_toArray, List.getElem_cons_zero, List.getElem_cons_succ, List.setIfInBounds_toArray, List.set_cons_zero, List.set_cons_succ]
                refine wpAnyH_take (i := 7) (oi := _) (v := ?vtc8) rfl (by kernel_rfl) (by kernel_rfl) (by kernel_rfl) (fun _ _ _ h => h) (Or.inl ⟨by rfl, ?hytc8⟩) (by assumption) ?resttc8
                case hytc8 => (intro w hSw; (try dsimp only at hSw); go_simp; all_goals with_reducible rfl)
                try simp only [Act.put, List.getElem_toArray, List.getElem_cons_zero, List.getElem_cons_succ, List.setIfInBounds_toArray, List.set_cons_zero, List.set_cons_succ]
                refine wpAnyH_take (i := 8) (oi := _) (v := ?vtc9) rfl (by kernel_rfl) (by kernel_rfl) (by kernel_rfl) (fun _ _ _ h => h) (Or.inl ⟨by rfl, ?hytc9⟩) (by assumption) ?resttc9
                case hytc9 => (intro w hSw; (try dsimp only at hSw); go_simp; all_goals with_reducible rfl)
                try simp only [Act.put, List.getElem_toArray, List.getElem_cons_zero, List.getElem_cons_succ, List.setIfInBounds_toArray, List.set_cons_zero, List.set_cons_succ]
                refine wpAnyH_take (i := 9) (oi := _) (v := ?vtc10) rfl (by kernel_rfl) (by kernel_rfl) (by kernel_rfl) (fun _ _ _ h => h) (Or.inl ⟨by rfl, ?hytc10⟩) (by assumption) ?resttc10
                case hytc10 => (intro w hSw; (try dsimp only at hSw); go_simp; all_goals with_reducible rfl)
                try simp only [Act.put, List.getElem_toArray, List.getElem_cons_zero, List.getElem_cons_succ, List.setIfInBounds_toArray, List.set_cons_zero, List.set_cons_succ]
                refine wpAnyH_take (i := 10) (oi := _) (v := ?vtc11) rfl (by kernel_rfl) (by kernel_rfl) (by kernel_rfl) (fun _ _ _ h => h) (Or.inl ⟨by rfl, ?hytc11⟩) (by assumption) ?resttc11
                case hytc11 => (intro w hSw; (try dsimp only at hSw); go_simp; all_goals with_reducible rfl)
                try simp only [Act.put, List.getElem_toArray, List.getElem_cons_zero, List.getElem_cons_succ, List.setIfInBounds_toArray, List.set_cons_zero, List.set_cons_succ]
                refine wpAnyH_take (i := 11) (oi := _) (v := ?vtc12) rfl (by kernel_rfl) (by kernel_rfl) (by kernel_rfl) (fun _ _ _ h => h) (Or.inl ⟨by rfl, ?hytc12⟩) (by assumption) ?resttc12
                case hytc12 => (intro w hSw; (try dsimp only at hSw); go_simp; all_goals with_reducible rfl)
                try simp only [Act.put, List.getElem_toArray, List.getElem_cons_zero, List.getElem_cons_succ, List.setIfInBounds_toArray, List.set_cons_zero, List.set_cons_succ]
                refine wpAnyH_take (i := 12) (oi := _) (v := ?vtc13) rfl (by kernel_rfl) (by kernel_rfl) (by kernel_rfl) (fun _ _ _ h => h) (Or.inl ⟨by rfl, ?hytc13⟩) (by assumption) ?resttc13
                case hytc13 => (intro w hSw; (try dsimp only at hSw); go_simp; all_goals with_reducible rfl)
                try simp only [Act.put, List.getElem_toArray, List.getElem_cons_zero, List.getElem_cons_succ, List.setIfInBounds_toArray, List.set_cons_zero, List.set_cons_succ]
                refine wpAnyH_done (by kernel_rfl) ?_ _
                skip
                go_wp2_with (first | ((with_reducible refine (HII.out rv V1 V2 e1 e2 _ HD2.out.2.2.2.1 HD2.out.2.1).mono ?_); rintro e v9 ⟨rfl, hb⟩; have HV9 := Lib.hid (And.intro (HD2.out.1.trans (hb.mono HD2.out.1.size)) (And.intro (HD2.out.2.2.2.2.below hb) (HD2.out.2.2.1.below hb))); clear hb) | ((with_reducible refine (HII.out rm M1 M2 g1 g2 _ HV9.out.2.1 HV9.out.2.2).mono ?_); rintro e v10 ⟨rfl, hb⟩; have HV10 := Lib.hid (HV9.out.1.trans (hb.mono HV9.out.1.size)); clear hb))
                go_roundg (2 - (i + 1))
                case measure => omega
                case rel => exact ⟨i + 1, by omega, by go_num, HV10.out⟩
              refine AllReadyH.cons (o := _) rfl (fun K hK => ?_) AllReadyH.nil
              go_simp
              obtain ⟨v15a, hu⟩ : ∃ u, (World.alloc w9 (.cells #[.int .i64 0, .int .i64 0, .int .i64 0] 34)).drew = u := ⟨_, rfl⟩
              have hbu : Below w9.heap.size w9.drew v15a := by rw [← hu]; exact (fun (h : Below w9.heap.size w9 (World.alloc w9 (.cells #[.int .i64 0, .int .i64 0, .int .i64 0] 34))) => (⟨h.os, h.tape, h.output, h.size, h.block⟩ : Below w9.heap.size w9.drew (World.alloc w9 (.cells #[.int .i64 0, .int .i64 0, .int .i64 0] 34)).drew)) ((Below.refl _ _).alloc (Nat.le_refl _) _)
              have hnx : v15a.heap[w9.heap.size]? = some (.cells #[.int .i64 0, .int .i64 0, .int .i64 0] 34 (0, 0)) := by rw [← hu]; exact Go.heap_alloc_new w9 _
              obtain ⟨nb, hnb⟩ : ∃ nb, w9.heap.size = nb := ⟨_, rfl⟩
              first | rw [hu] | (rw [show World.alloc _ _ = _ from hu])
              try rw [hnb]
              have hle : Wt.heap.size ≤ nb := by rw [← hnb]; exact Below.size (HB1.out)
              rw [hnb] at hnx
              have Hv15a := Lib.hid (And.intro (Below.trans (HB1.out.drew) (hbu.mono (by rw [hnb]; exact hle))) (And.intro (hnx) (hle)))
              clear hu hbu hnx hnb hle
              refine hK.out _ _ ?_ (fun hHeldtb17 => ?_)
              · (try dsimp only); exact ⟨(HA.out _ (Hv15a.out.1)).1, HT.out.2.2.1 _ (Hv15a.out.1)⟩
              clear hK K hHeldtb
              try simp only [Act.put, List.getElem_toArray, List.getElem_cons_zero, List.getElem_cons_succ, List.setIfInBounds_toArray, List.set_cons_zero, List.set_cons_succ]
              refine wpAnyH_ready (rs := [5]) (by kernel_rfl) (by simp) ?_
              refine AllReadyH.cons (o := _) rfl (fun K hK => ?_) AllReadyH.nil
              go_simp
              try go_wp2_with fail
              (with_reducible refine (HRN.out _ (Hv15a.out.1)).mono ?_); rintro y v15ar ⟨V1, e1, M1, g1, rfl, hv, hm, hb9, hfv, hfm⟩
              have Hv15ar := Lib.hid (And.intro (Below.trans (Hv15a.out.1) (hb9.mono (Below.size (Hv15a.out.1)))) (And.intro (Rx.call hv (fun a ha => Nat.lt_of_lt_of_le (blk_lt (Hv15a.out.2.1)) (hfv a ha))) (And.intro (Rx.call hm (fun a ha => Nat.lt_of_lt_of_le (blk_lt (Hv15a.out.2.1)) (hfm a ha))) (And.intro ((hb9.block _ (blk_lt (Hv15a.out.2.1))).trans (Hv15a.out.2.1)) (Hv15a.out.2.2)))))
              clear hb9 hv hm hfv hfm
              refine hK.out _ _ ?_ (fun hHeldtb18 => ?_)
              · (try dsimp only); exact ⟨(HA.out _ (Hv15ar.out.1)).1, HT.out.2.2.1 _ (Hv15ar.out.1)⟩
              clear hK K hHeldtb17
              try simp only [Act.put, List.getElem_toArray, List.getElem_cons_zero, List.getElem_cons_succ, List.setIfInBounds_toArray, List.set_cons_zero, List.set_cons_succ]
              refine wpAnyH_take (i := 6) (oi := _) (v := ?vtb19) rfl (by kernel_rfl) (by kernel_rfl) (by kernel_rfl) (fun _ _ _ h => h) (Or.inl ⟨by rfl, ?hytb19⟩) (by assumption) ?resttb19
              case hytb19 => (intro w hSw; (try dsimp only at hSw); go_simp; all_goals with_reducible rfl)
              try simp only [Act.put, List.getElem_toArray, List.getElem_cons_zero, List.getElem_cons_succ, List.setIfInBounds_toArray, List.set_cons_zero, List.set_cons_succ]
              refine wpAnyH_take (i := 7) (oi := _) (v := ?vtb20) rfl (by kernel_rfl) (by kernel_rfl) (by kernel_rfl) (fun _ _ _ h => h) (Or.inl ⟨by rfl, ?hytb20⟩) (by assumption) ?resttb20
              case hytb20 => (intro w hSw; (try dsimp only at hSw); go_simp; all_goals with_reducible rfl)
              try simp only [Act.put, List.getElem_toArray, List.getElem_cons_zero, List.getElem_cons_succ, List.setIfInBounds_toArray, List.set_cons_zero, List.set_cons_succ]
              refine wpAnyH_take (i := 8) (oi := _) (v := ?vtb21) rfl (by kernel_rfl) (by kernel_rfl) (by kernel_rfl) (fun _ _ _ h => h) (Or.inl ⟨by rfl, ?hytb21⟩) (by assumption) ?resttb21
              case hytb21 => (intro w hSw; (try dsimp only at hSw); go_simp; all_goals with_reducible rfl)
              try simp only [Act.put, List.getElem_toArray, List.getElem_cons_zero, List.getElem_cons_succ, List.setIfInBounds_toArray, List.set_cons_zero, List.set_cons_succ]
              refine wpAnyH_take (i := 9) (oi := _) (v := ?vtb22) rfl (by kernel_rfl) (by kernel_rfl) (by kernel_rfl) (fun _ _ _ h => h) (Or.inl ⟨by rfl, ?hytb22⟩) (by assumption) ?resttb22
              case hytb22 => (intro w hSw; (try dsimp only at hSw); go_simp; all_goals with_reducible rfl)
              try simp only [Act.put, List.getElem_toArray, List.getElem_cons_zero, List.getElem_cons_succ, List.setIfInBounds_toArray, List.set_cons_zero, List.set_cons_succ]
              refine wpAnyH_take (i := 10) (oi := _) (v := ?vtb23) rfl (by kernel_rfl) (by kernel_rfl) (by kernel_rfl) (fun _ _ _ h => h) (Or.inl ⟨by rfl, ?hytb23⟩) (by assumption) ?resttb23
              case hytb23 => (intro w hSw; (try dsimp only at hSw); go_simp; all_goals with_reducible rfl)
              try simp only [Act.put, List.getElem_toArray, List.getElem_cons_zero, List.getElem_cons_succ, List.setIfInBounds_toArray, List.set_cons_zero, List.set_cons_succ]
              refine wpAnyH_take (i := 12) (oi := _) (v := ?vtb24) rfl (by kernel_rfl) (by kernel_rfl) (by kernel_rfl) (fun _ _ _ h => h) (Or.inl ⟨by rfl, ?hytb24⟩) (by assumption) ?resttb24
              case hytb24 => (intro w hSw; (try dsimp only at hSw); go_simp; all_goals with_reducible rfl)
              try simp only [Act.put, List.getElem_toArray, List.getElem_cons_zero, List.getElem_cons_succ, List.setIfInBounds_toArray, List.set_cons_zero, List.set_cons_succ]
              refine wpAnyH_take (i := 13) (oi := _) (v := ?vtb25) rfl (by kernel_rfl) (by kernel_rfl) (by kernel_rfl) (fun _ _ _ h => h) (Or.inl ⟨by rfl, ?hytb25⟩) (by assumption) ?resttb25
              case hytb25 => (intro w hSw; (try dsimp only at hSw); go_simp; all_goals with_reducible rfl)
              try simp only [Act.put, List.getElem_toArray, List.getElem_cons_zero, List.getElem_cons_succ, List.setIfInBounds_toArray, List.set_cons_zero, List.set_cons_succ]
              refine wpAnyH_ready (rs := [14]) (by kernel_rfl) (by simp) ?_
              refine AllReadyH.cons (o := _) rfl (fun K hK => ?_) AllReadyH.nil
              have f0 := frozen_of_row v15ar nb 0 _ _ (Hv15ar.out.2.2.2.1)
              have f1 := frozen_of_row v15ar nb 1 _ _ (Hv15ar.out.2.2.2.1)
              have f2 := frozen_of_row v15ar nb 2 _ _ (Hv15ar.out.2.2.2.1)
              have k0 : v15ar.cell? ⟨nb, 0, none⟩ = some (.int .i64 0) := by rw [cell_of_row _ _ _ _ _ _ (Hv15ar.out.2.2.2.1)]; rfl
              have k1 : v15ar.cell? ⟨nb, 1, none⟩ = some (.int .i64 0) := by rw [cell_of_row _ _ _ _ _ _ (Hv15ar.out.2.2.2.1)]; rfl
              have k2 : v15ar.cell? ⟨nb, 2, none⟩ = some (.int .i64 0) := by rw [cell_of_row _ _ _ _ _ _ (Hv15ar.out.2.2.2.1)]; rfl
              go_simp
              clear f0 f1 f2 k0 k1 k2
              obtain ⟨v15ars, hu⟩ : ∃ u, ((v15ar.setCell ⟨nb, 0, none⟩ (.int .i64 (d1 : Int))).setCell ⟨nb, 1, none⟩ (.int .i64 (d2 : Int))).setCell ⟨nb, 2, none⟩ (.int .i64 (d3 : Int)) = u := ⟨_, rfl⟩
              rw [hu]
              have hbn : Below nb v15ar v15ars := by rw [← hu]; exact (((show Below nb v15ar v15ar from ⟨rfl, rfl, rfl, Nat.le_refl _, fun _ _ => rfl⟩).setCell (Nat.le_refl _) _).setCell (Nat.le_refl _) _).setCell (Nat.le_refl _) _
              have hoth : ∀ k, k ≠ nb → v15ars.heap[k]? = v15ar.heap[k]? := fun k hk => by rw [← hu, heap_setCell_other _ _ _ _ (by simpa using hk), heap_setCell_other _ _ _ _ (by simpa using hk), heap_setCell_other _ _ _ _ (by simpa using hk)]
              have HC15 := Lib.hid (And.intro (Below.trans (Hv15ar.out.1) (hbn.mono (Hv15ar.out.2.2.2.2))) (And.intro (Rx.turn (Hv15ar.out.2.1) hoth) (Rx.turn (Hv15ar.out.2.2.1) hoth)))
              clear hu hbn hoth
              obtain ⟨v16, hv16⟩ : ∃ v, v15ars = v := ⟨_, rfl⟩
              rw [hv16]
              rw [hv16] at HC15
              clear hv16
              refine hK.out _ _ ?_ (fun hHeldtb26 => ?_)
              · (try dsimp only); exact ⟨(HA.out _ HC15.out.1).1, HT.out.2.2.1 _ HC15.out.1⟩
              clear hK K hHeldtb18
              try simp only [Act.put, List.getElem_toArray, List.getElem_cons_zero, List.getElem_cons_succ, List.setIfInBounds_toArray, List.set_cons_zero, List.set_cons_succ]
              refine wpAnyH_take (i := 15) (oi := _) (v := ?vtb27) rfl (by kernel_rfl) (by kernel_rfl) (by kernel_rfl) (fun _ _ _ h => h) (Or.inl ⟨by rfl, ?hytb27⟩) (by assumption) ?resttb27
              case hytb27 => (intro w hSw; (try dsimp only at hSw); go_simp; all_goals with_reducible rfl)
              try simp only [Act.put, List.getElem_toArray, List.getElem_cons_zero, List.getElem_cons_succ, List.setIfInBounds_toArray, List.set_cons_zero, List.set_cons_succ]
              refine wpAnyH_done (by kernel_rfl) ?_ _
              go_upto_region 16 with fail
              refine wp_region_held_drew (S := (fun w' => w'.heap[n5]? = some (.cells c.cells 25 (0, 0)) ∧ w'.cell? ⟨bt, i, none⟩ = some (.slice X T.length cX))) (by kernel_rfl) ?_ (fun hHeldtd => ?_)
              · (try dsimp only); exact ⟨(HA.out _ (HC15.out.1.drew)).1, HT.out.2.2.1 _ (HC15.out.1.drew)⟩
              refine wpAnyH_take (i := 0) (oi := _) (v := ?vtd1) rfl (by kernel_rfl) (by kernel_rfl) (by kernel_rfl) (fun _ _ _ h => h) (Or.inl ⟨by rfl, ?hytd1⟩) (by assumption) ?resttd1
              case hytd1 => (intro w hSw; (try dsimp only at hSw); (refine exec_load_row 25 (.tmp 5) ?_ n5 ?_ 25 _ (0, 0) _ hSw.1 Try.underlying25 rfl info25s) <;> rfl)
              try simp only [Act.put, List.getElem_toArray, List.getElem_cons_zero, List.getElem_cons_succ, List.setIfInBounds_toArray, List.set_cons_zero, List.set_cons_succ]
              refine wpAnyH_take (i := 1) (oi := _) (v := ?vtd2) rfl (by kernel_rfl) (by kernel_rfl) (by kernel_rfl) (fun _ _ _ h => h) (Or.inl ⟨by rfl, ?hytd2⟩) (by assumption) ?resttd2
              case hytd2 => (intro w hSw; (try dsimp only at hSw); go_simp; all_goals with_reducible rfl)
              try simp only [Act.put, List.getElem_toArray, List.getElem_cons_zero, List.getElem_cons_succ, List.setIfInBounds_toArray, List.set_cons_zero, List.set_cons_succ]
              refine wpAnyH_take (i := 2) (oi := _) (v := ?vtd3) rfl (by kernel_rfl) (by kernel_rfl) (by kernel_rfl) (fun _ _ _ h => h) (Or.inl ⟨by rfl, ?hytd3⟩) (by assumption) ?resttd3
              case hytd3 => (intro w hSw; (try dsimp only at hSw); go_simp; all_goals with_reducible rfl)
              try simp only [Act.put, List.getElem_toArray, List.getElem_cons_zero, List.getElem_cons_succ, List.setIfInBounds_toArray, List.set_cons_zero, List.set_cons_succ]
              refine wpAnyH_take (i := 3) (oi := _) (v := ?vtd4) rfl (by kernel_rfl) (by kernel_rfl) (by kernel_rfl) (fun _ _ _ h => h) (Or.inl ⟨by rfl, ?hytd4⟩) (by assumption) ?resttd4
              case hytd4 => (intro w hSw; (try dsimp only at hSw); go_simp; all_goals with_reducible rfl)
              try simp only [Act.put, List.getElem_toArray, List.getElem_cons_zero, List.getElem_cons_succ, List.setIfInBounds_toArray, List.set_cons_zero, List.set_cons_succ]
              refine wpAnyH_take (i := 4) (oi := _) (v := ?vtd5) rfl (by kernel_rfl) (by kernel_rfl) (by kernel_rfl) (fun _ _ _ h => h) (Or.inl ⟨by rfl, ?hytd5⟩) (by assumption) ?resttd5
              case hytd5 => (intro w hSw; (try dsimp only at hSw); go_simp; all_goals with_reducible rfl)
              try simp only [Act.put, List.getElem_toArray, List.getElem_cons_zero, List.getElem_cons_succ, List.setIfInBounds_toArray, List.set_cons_zero, List.set_cons_succ]
              refine wpAnyH_ready (rs := [5]) (by kernel_rfl) (by simp) ?_
              refine AllReadyH.cons (o := _) rfl (fun K hK => ?_) AllReadyH.nil
              go_simp
              try go_wp2_with fail
              (with_reducible refine (HDI.out _ HC15.out.1.drew).mono ?_); rintro y w17 ⟨V2, e2, M2, g2, rfl, hv, hm, hb9⟩
              have HD2 := Lib.hid (And.intro (Below.trans HC15.out.1.drew (hb9.mono (Below.size HC15.out.1.drew))) (And.intro hv (And.intro hm (And.intro (HC15.out.2.1.drew.below hb9) (HC15.out.2.2.drew.below hb9)))))
              clear hb9 hv hm
              refine hK.out _ _ ?_ (fun hHeldtd6 => ?_)
              · (try dsimp only); exact ⟨(HA.out _ (HD2.out.1)).1, HT.out.2.2.1 _ (HD2.out.1)⟩
              clear hK K hHeldtd
              try simp only [Act.put, List.getElem_toArray, List.getElem_cons_zero, List.getElem_cons_succ, List.setIfInBounds_toArray, List.set_cons_zero, List.set_cons_succ]
              refine wpAnyH_take (i := 6) (oi := _) (v := ?vtd7) rfl (by kernel_rfl) (by kernel_rfl) (by kernel_rfl) (fun _ _ _ h => h) (Or.inl ⟨by rfl, ?hytd7⟩) (by assumption) ?resttd7
              case hytd7 => (intro w hSw; (try dsimp only at hSw); go_simp; all_goals with_reducible rfl)
              try simp only [Act.put, List.getElem_toArray, List.getElem_cons_zero, List.getElem_cons_succ, List.setIfInBounds_toArray, List.set_cons_zero, List.set_cons_succ]
              refine wpAnyH_take (i := 7) (oi := _) (v := ?vtd8) rfl (by kernel_rfl) (by kernel_rfl) (by kernel_rfl) (fun _ _ _ h => h) (Or.inl ⟨by rfl, ?hytd8⟩) (by assumption) ?resttd8
              case hytd8 => (intro w hSw; (try dsimp only at hSw); go_simp; all_goals with_reducible rfl)
              try simp only [Act.put, List.getElem_toArray, List.getElem_cons_zero, List.getElem_cons_succ, List.setIfInBounds_toArray, List.set_cons_zero, List.set_cons_succ]
              refine wpAnyH_take (i := 8) (oi := _) (v := ?vtd9) rfl (by kernel_rfl) (by kernel_rfl) (by kernel_rfl) (fun _ _ _ h => h) (Or.inl ⟨by rfl, ?hytd9⟩) (by assumption) ?resttd9
              case hytd9 => (intro w hSw; (try dsimp only at hSw); go_simp; all_goals with_reducible rfl)
              try simp only [Act.put, List.getElem_toArray, List.getElem_cons_zero, List.getElem_cons_succ, List.setIfInBounds_toArray, List.set_cons_zero, List.set_cons_succ]
              refine wpAnyH_take (i := 9) (oi := _) (v := ?vtd10) rfl (by kernel_rfl) (by kernel_rfl) (by kernel_rfl) (fun _ _ _ h => h) (Or.inl ⟨by rfl, ?hytd10⟩) (by assumption) ?resttd10
              case hytd10 => (intro w hSw; (try dsimp only at hSw); go_simp; all_goals with_reducible rfl)
              try simp only [Act.put, List.getElem_toArray, List.getElem_cons_zero, List.getElem_cons_succ, List.setIfInBounds_toArray, List.set_cons_zero, List.set_cons_succ]
              refine wpAnyH_take (i := 10) (oi := _) (v := ?vtd11) rfl (by kernel_rfl) (by kernel_rfl) (by kernel_rfl) (fun _ _ _ h => h) (Or.inl ⟨by rfl, ?hytd11⟩) (by assumption) ?resttd11
              case hytd11 => (intro w hSw; (try dsimp only at hSw); go_simp; all_goals with_reducible rfl)
              try simp only [Act.put, List.getElem_toArray, List.getElem_cons_zero, List.getElem_cons_succ, List.setIfInBounds_toArray, List.set_cons_zero, List.set_cons_succ]
              refine wpAnyH_take (i := 11) (oi := _) (v := ?vtd12) rfl (by kernel_rfl) (by kernel_rfl) (by kernel_rfl) (fun _ _ _ h => h) (Or.inl ⟨by rfl, ?hytd12⟩) (by assumption) ?resttd12
              case hytd12 => (intro w hSw; (try dsimp only at hSw); go_simp; all_goals with_reducible rfl)
              try simp only [Act.put, List.getElem_toArray, List.getElem_cons_zero, List.getElem_cons_succ, List.setIfInBounds_toArray, List.set_cons_zero, List.set_cons_succ]
              refine wpAnyH_take (i := 12) (oi := _) (v := ?vtd13) rfl (by kernel_rfl) (by kernel_rfl) (by kernel_rfl) (fun _ _ _ h => h) (Or.inl ⟨by rfl, ?hytd13⟩) (by assumption) ?resttd13
              case hytd13 => (intro w hSw; (try dsimp only at hSw); go_simp; all_goals with_reducible rfl)
              try simp only [Act.put, List.getElem_toArray, List.getElem_cons_zero, List.getElem_cons_succ, List.setIfInBounds_toArray, List.set_cons_zero, List.set_cons_succ]
              refine wpAnyH_done (by kernel_rfl) ?_ _
              skip
              go_wp2_with (first | ((with_reducible refine (HII.out rv V1 V2 e1 e2 _ HD2.out.2.2.2.1 HD2.out.2.1).mono ?_); rintro e v9 ⟨rfl, hb⟩; have HV9 := Lib.hid (And.intro (HD2.out.1.trans (hb.mono HD2.out.1.size)) (And.intro (HD2.out.2.2.2.2.below hb) (HD2.out.2.2.1.below hb))); clear hb) | ((with_reducible refine (HII.out rm M1 M2 g1 g2 _ HV9.out.2.1 HV9.out.2.2).mono ?_); rintro e v10 ⟨rfl, hb⟩; have HV10 := Lib.hid (HV9.out.1.trans (hb.mono HV9.out.1.size)); clear hb))
              go_roundg (2 - (i + 1))
              case measure => omega
              case rel => exact ⟨i + 1, by omega, by go_num, HV10.out⟩
        · have hd2 : decide (i < 2) = false := decide_eq_false hlt
          have hi2 : ¬ (i : Int) < 2 := by omega
          have HB := Lib.hid hb
          clear hb
          go_wp2_with ((with_reducible refine (awake_calls _).mono ?_); rintro e w9 ⟨rfl, hb⟩; have HV := Lib.hid hb; clear hb)
          go_ret
          have h1 := (HA.out _ HB.out).2.2.2.2.2
          exact ⟨rfl, h1.trans (HV.out.mono h1.size)⟩
end Go.Proofs.Ytggidakiflnhhaa
