import Derived.Test.YtggidakiflnhhaaAT
import Derived.Test.YtggidakiflnhhaaAG
namespace Go.Proofs.Ytggidakiflnhhaa
open Go.RowKit
set_option maxHeartbeats 16000000
set_option maxRecDepth 100000
set_option linter.unusedSimpArgs false
set_option linter.unusedVariables false

/-- what Run hands back, errors and all -/
def rnV (c : Cf) (l : List Op) : List Int := if chkF c l = 0 then (runA c l).vs else []
def rnM (c : Cf) (l : List Op) : List Int := if chkF c l = 0 then (runA c l).m else []
def rnC (c : Cf) (l : List Op) : Nat × Nat × Nat := if chkF c l = 0 then ((runA c l).f, (runA c l).wr, (runA c l).h) else (0, 0, 0)
theorem run_one {c : Cf} {l : List Op} {w : World} {e : Ending} {w' : World} (h : RunPost c l w e w') : ∃ V cV M cM, e = .returned (.tuple #[.slice V (rnV c l).length cV, .slice M (rnM c l).length cM, .agg #[.int .i64 ((rnC c l).1 : Int), .int .i64 ((rnC c l).2.1 : Int), .int .i64 ((rnC c l).2.2 : Int)], .int .i64 (chkF c l)]) ∧ Rd encI 1 w' V (rnV c l) ∧ Rd encI 1 w' M (rnM c l) ∧ Below w.heap.size w w' := by
  unfold RunPost at h
  unfold rnV rnM rnC
  split at h
  · rename_i hk
    obtain ⟨V, cV, M, rfl, h1, h2, h3⟩ := h
    refine ⟨V, cV, some M, (runA c l).m.length, ?_, ?_, ?_, h3⟩
    · simp only [if_pos hk, hk, if_true]
    · rw [if_pos hk]; exact h1
    · rw [if_pos hk]; exact h2
  · rename_i hk
    obtain ⟨rfl, h3⟩ := h
    refine ⟨none, 0, none, 0, ?_, ?_, ?_, h3⟩
    · simp only [if_neg hk]; rfl
    · rw [if_neg hk]; exact Rd.nil _ _ _ _
    · rw [if_neg hk]; exact Rd.nil _ _ _ _
def diV (c : Cf) (l : List Op) : List Int := if chkF c l = 0 then (drF c l l.length).2 else []
def diM (c : Cf) (l : List Op) : List Int := if chkF c l = 0 then (drF c l l.length).1 else []
theorem di_one {c : Cf} {l : List Op} {w : World} {e : Ending} {w' : World} (h : DiPost c l w e w') : ∃ V cV M cM, e = .returned (.tuple #[.slice V (diV c l).length cV, .slice M (diM c l).length cM, .int .i64 (chkF c l)]) ∧ Rd encI 1 w' V (diV c l) ∧ Rd encI 1 w' M (diM c l) ∧ Below w.heap.size w w' := by
  unfold DiPost at h
  unfold diV diM
  split at h
  · rename_i hk
    obtain ⟨V, cV, M, rfl, h1, h2, h3⟩ := h
    refine ⟨V, cV, some M, (drF c l l.length).1.length, ?_, ?_, ?_, h3⟩
    · simp only [if_pos hk, hk, if_true]
    · rw [if_pos hk]; exact h1
    · rw [if_pos hk]; exact h2
  · rename_i hk
    obtain ⟨rfl, h3⟩ := h
    refine ⟨none, 0, none, 0, ?_, ?_, ?_, h3⟩
    · simp only [if_neg hk]; rfl
    · rw [if_neg hk]; exact Rd.nil _ _ _ _
    · rw [if_neg hk]; exact Rd.nil _ _ _ _
theorem st3 {w : World} {b : Nat} {v0 v1 v2 : Value} {t : TypeId} (h : w.heap[b]? = some (.cells #[v0, v1, v2] t (0, 0))) : w.cell? ⟨b, 0, none⟩ = some v0 ∧ w.cell? ⟨b, 1, none⟩ = some v1 ∧ w.cell? ⟨b, 2, none⟩ = some v2 := by
  refine ⟨?_, ?_, ?_⟩ <;> (rw [cell_of_row _ _ _ _ _ _ h]; rfl)
theorem info25s : (Try.prog.info? 25).map (·.size) = some 4 := by kernel_rfl
theorem cacheRuns_calls (c : Cf) (l : List Op) (A : Option Addr) (cp : Nat) (p : Int) (w : World) (hA : Rd encP 4 w A l) :
    Calls Try.prog 4 #[c.val, .slice A l.length cp, .int .i64 p] w fun e w' => e = .returned (.bool true) ∧ Below w.heap.size w w' := by
  have hsm := hA.small
  obtain ⟨n0, hn0⟩ : ∃ n, w.heap.size = n := ⟨_, rfl⟩
  obtain ⟨W1, hW1⟩ : ∃ W1, w.alloc (.cells c.cells 23) = W1 := ⟨_, rfl⟩
  have hb1 : Below w.heap.size w W1 := by rw [← hW1]; exact (Below.refl _ w).alloc (Nat.le_refl _) _
  have hx1 : W1.heap[n0]? = some (.cells c.cells 23 (0, 0)) := by rw [← hW1, ← hn0]; exact Go.heap_alloc_new w _
  obtain ⟨b, hbs⟩ : ∃ b, decide ((l.length : Int) ≤ 200 ∨ (2000 < l.length ∧ l.length ≤ 2002)) = b := ⟨_, rfl⟩
  have hsh := short_calls l 200 A cp W1 hsm
  rw [hbs] at hsh
  have HS := Lib.hid hsh
  have HX := Lib.hid (And.intro hb1 (And.intro hx1 (And.intro (hA.below hb1) hn0)))
  have HW := Lib.hid (And.intro hW1 hn0)
  have hsz := hb1.size
  clear hb1 hx1 hsh hA hW1 hn0 hsz
  go_enter Try.func4, Try.ntmps4
  go_upto_region 1 with fail
  rw [HW.out.1]
  rw [HW.out.2]
  cases b with
  | false =>
    go_wp2_with (first | ((with_reducible refine (HS.out).mono ?_); rintro e w5 ⟨rfl, hb5⟩; have H5 := Lib.hid hb5; clear hb5) | ((with_reducible refine (awake_calls _).mono ?_); rintro e w6 ⟨rfl, hb6⟩; have H6 := Lib.hid hb6; clear hb6))
    go_ret
    exact ⟨rfl, (HX.out.1.trans (H5.out.mono HX.out.1.size)).trans (H6.out.mono (Nat.le_trans HX.out.1.size H5.out.size))⟩
  | true =>
    have hl2 : l.length ≤ 2002 := by have := of_decide_eq_true hbs; omega
    have HL := Lib.hid (show l.length * 32 ≤ 140737488351232 by omega)
    clear hbs hl2
    go_upto_region 3 with ((with_reducible refine (HS.out).mono ?_); rintro e w5 ⟨rfl, hb5⟩; have H5 := Lib.hid (And.intro ((hb5.block _ (blk_lt HX.out.2.1)).trans HX.out.2.1) (And.intro (HX.out.1.trans (hb5.mono HX.out.1.size)) (HX.out.2.2.1.below hb5))); clear hb5)
    go_upto_region 4 with (first | (refine wpList_load_row rfl 23 (.tmp 3) rfl n0 rfl 23 _ (0, 0) _ H5.out.1 Try.underlying23 rfl info23s ?_) | ((with_reducible refine (config_calls c _).mono ?_); rintro e w6 ⟨rfl, hb6⟩; have H6 := Lib.hid (And.intro ((hb6.block _ (blk_lt H5.out.1)).trans H5.out.1) (And.intro (H5.out.2.1.trans (hb6.mono H5.out.2.1.size)) (H5.out.2.2.below hb6))); clear hb6) | ((with_reducible refine (ops_copy l A cp _ H6.out.2.2 HL.out).mono ?_); rintro e w7 ⟨v7, rfl, ho7, hb7⟩; obtain ⟨A7, c7, rfl, _, hr7, _⟩ := ho7.form lenP; have H7 := Lib.hid (And.intro ((hb7.block _ (blk_lt H6.out.1)).trans H6.out.1) (And.intro (H6.out.2.1.trans (hb7.mono H6.out.2.1.size)) (And.intro (H6.out.2.2.below hb7) hr7))); clear hb7 ho7 hr7))
    obtain ⟨W8, hW8⟩ : ∃ W, w7.alloc (.cells c.cells 25) = W := ⟨_, rfl⟩
    obtain ⟨n7, hn7⟩ : ∃ n, w7.heap.size = n := ⟨_, rfl⟩
    have hb8 : Below w7.heap.size w7 W8 := by rw [← hW8]; exact (Below.refl _ _).alloc (Nat.le_refl _) _
    have hx8 : W8.heap[n7]? = some (.cells c.cells 25 (0, 0)) := by rw [← hW8, ← hn7]; exact Go.heap_alloc_new _ _
    have hall : ∀ u, Below W8.heap.size W8 u → u.heap[n0]? = some (.cells c.cells 23 (0, 0)) ∧ u.heap[n7]? = some (.cells c.cells 25 (0, 0)) ∧ Rd encP 4 u A l ∧ Rd encP 4 u A7 l ∧ Below w.heap.size w u := fun u hu => by
      have h1 := hb8.trans (hu.mono hb8.size)
      exact ⟨(h1.block _ (blk_lt H7.out.1)).trans H7.out.1, (hu.block _ (blk_lt hx8)).trans hx8, H7.out.2.2.1.below h1, H7.out.2.2.2.below h1, H7.out.2.1.trans (h1.mono H7.out.2.1.size)⟩
    rw [hW8, hn7]
    have H8 := Lib.hid hall
    have hc8 := check_calls c l A7 c7 W8.drew ((hall W8 (Below.refl _ _)).2.2.2.1.drew)
    have hcr8 := fun u (hu : Below W8.heap.size W8 u) => checkR_calls c l A cp u (hall u hu).2.2.1
    obtain ⟨m, hm⟩ : ∃ m, chkF c l = m := ⟨_, rfl⟩
    rw [hm] at hc8 hcr8
    have HC8 := Lib.hid hc8
    have HCR8 := Lib.hid hcr8
    have HM := Lib.hid hm
    clear hb8 hx8 hall hW8 hn7 hc8 hcr8 hm
    refine wp_region_held_drew (S := (fun w' => w'.heap[n0]? = some (.cells c.cells 23 (0, 0)) ∧ w'.heap[n7]? = some (.cells c.cells 25 (0, 0)))) (by kernel_rfl) ?_ (fun hHelda => ?_)
    · (try dsimp only); exact ⟨(H8.out _ ((Below.refl _ _).drew)).1, (H8.out _ ((Below.refl _ _).drew)).2.1⟩
    refine wpAnyH_take (i := 0) (oi := _) (v := ?va1) rfl (by kernel_rfl) (by kernel_rfl) (by kernel_rfl) (fun _ _ _ h => h) (Or.inl ⟨by rfl, ?hya1⟩) (by assumption) ?resta1
    case hya1 => (intro w hSw; (try dsimp only at hSw); (refine exec_load_row 25 (.tmp 7) ?_ n7 ?_ 25 _ (0, 0) _ hSw.2 Try.underlying25 rfl info25s) <;> rfl)
    try simp only [Act.put, List.getElem_toArray, List.getElem_cons_zero, List.getElem_cons_succ, List.setIfInBounds_toArray, List.set_cons_zero, List.set_cons_succ]
    refine wpAnyH_take (i := 1) (oi := _) (v := ?va2) rfl (by kernel_rfl) (by kernel_rfl) (by kernel_rfl) (fun _ _ _ h => h) (Or.inl ⟨by rfl, ?hya2⟩) (by assumption) ?resta2
    case hya2 => (intro w hSw; (try dsimp only at hSw); go_simp; all_goals with_reducible rfl)
    try simp only [Act.put, List.getElem_toArray, List.getElem_cons_zero, List.getElem_cons_succ, List.setIfInBounds_toArray, List.set_cons_zero, List.set_cons_succ]
    refine wpAnyH_take (i := 3) (oi := _) (v := ?va3) rfl (by kernel_rfl) (by kernel_rfl) (by kernel_rfl) (fun _ _ _ h => h) (Or.inl ⟨by rfl, ?hya3⟩) (by assumption) ?resta3
    case hya3 => (intro w hSw; (try dsimp only at hSw); (refine exec_load_row 23 (.tmp 3) ?_ n0 ?_ 23 _ (0, 0) _ hSw.1 Try.underlying23 rfl info23s) <;> rfl)
    try simp only [Act.put, List.getElem_toArray, List.getElem_cons_zero, List.getElem_cons_succ, List.setIfInBounds_toArray, List.set_cons_zero, List.set_cons_succ]
    refine wpAnyH_take (i := 4) (oi := _) (v := ?va4) rfl (by kernel_rfl) (by kernel_rfl) (by kernel_rfl) (fun _ _ _ h => h) (Or.inl ⟨by rfl, ?hya4⟩) (by assumption) ?resta4
    case hya4 => (intro w hSw; (try dsimp only at hSw); go_simp; all_goals with_reducible rfl)
    try simp only [Act.put, List.getElem_toArray, List.getElem_cons_zero, List.getElem_cons_succ, List.setIfInBounds_toArray, List.set_cons_zero, List.set_cons_succ]
    refine wpAnyH_ready (rs := [2]) (by kernel_rfl) (by simp) ?_
    refine AllReadyH.cons (o := _) rfl (fun K hK => ?_) AllReadyH.nil
    go_simp
    try go_wp2_with fail
    (with_reducible refine (HC8.out).mono ?_); rintro y w9 ⟨rfl, hb9⟩
    have HB4 := Lib.hid (show Below W8.heap.size W8 w9 from (bb_drew (Below.refl _ W8)).trans hb9)
    clear hb9
    refine hK.out _ _ ?_ (fun hHelda5 => ?_)
    · (try dsimp only); exact ⟨(H8.out _ (HB4.out)).1, (H8.out _ (HB4.out)).2.1⟩
    clear hK K hHelda
    try simp only [Act.put, List.getElem_toArray, List.getElem_cons_zero, List.getElem_cons_succ, List.setIfInBounds_toArray, List.set_cons_zero, List.set_cons_succ]
    refine wpAnyH_ready (rs := [5]) (by kernel_rfl) (by simp) ?_
    refine AllReadyH.cons (o := _) rfl (fun K hK => ?_) AllReadyH.nil
    go_simp
    try go_wp2_with fail
    (with_reducible refine (HCR8.out _ HB4.out).mono ?_); rintro y w10 ⟨rfl, hb10⟩
    have HB5 := Lib.hid (HB4.out.trans (hb10.mono HB4.out.size))
    clear hb10
    refine hK.out _ _ ?_ (fun hHelda6 => ?_)
    · (try dsimp only); exact ⟨(H8.out _ (HB5.out)).1, (H8.out _ (HB5.out)).2.1⟩
    clear hK K hHelda5
    try simp only [Act.put, List.getElem_toArray, List.getElem_cons_zero, List.getElem_cons_succ, List.setIfInBounds_toArray, List.set_cons_zero, List.set_cons_succ]
    refine wpAnyH_take (i := 6) (oi := _) (v := ?va7) rfl (by kernel_rfl) (by kernel_rfl) (by kernel_rfl) (fun _ _ _ h => h) (Or.inl ⟨by rfl, ?hya7⟩) (by assumption) ?resta7
    case hya7 => (intro w hSw; (try dsimp only at hSw); go_simp; all_goals with_reducible rfl)
    try simp only [Act.put, List.getElem_toArray, List.getElem_cons_zero, List.getElem_cons_succ, List.setIfInBounds_toArray, List.set_cons_zero, List.set_cons_succ]
    refine wpAnyH_done (by kernel_rfl) ?_ _
    skip
    have hown1 := owner15_calls c p
    have hown2 := owner16_calls c p
    obtain ⟨q1, hq1⟩ : ∃ q, (owF c p).1 = q := ⟨_, rfl⟩
    obtain ⟨q2, hq2⟩ : ∃ q, (owF c p).2 = q := ⟨_, rfl⟩
    rw [hq1, hq2] at hown1 hown2
    have HO1 := Lib.hid hown1
    have HO2 := Lib.hid hown2
    clear hown1 hown2 hq1 hq2
    go_upto_region 7 with (first | (refine wpList_load_row rfl 25 (.tmp 7) rfl n7 rfl 25 _ (0, 0) _ (H8.out _ HB5.out).2.1 Try.underlying25 rfl info25s ?_) | ((with_reducible refine (HO1.out _).mono ?_); rintro e v1 ⟨rfl, hb⟩; have HV1 := Lib.hid (HB5.out.trans (hb.mono HB5.out.size)); clear hb))
    go_upto_region 10 with (first | (refine wpList_load_row rfl 23 (.tmp 3) rfl n0 rfl 23 _ (0, 0) _ (H8.out _ HV1.out).1 Try.underlying23 rfl info23s ?_) | ((with_reducible refine (HO2.out _).mono ?_); rintro e v2 ⟨rfl, hb⟩; have HV2 := Lib.hid (HV1.out.trans (hb.mono HV1.out.size)); clear hb))
    have hrun1 := fun u (hu : Below W8.heap.size W8 u) => (run_calls c l A7 c7 u (H8.out u hu).2.2.2.1).mono (fun e w' h => run_one h)
    have hrun2 := fun u (hu : Below W8.heap.size W8 u) => (runR_calls c l A cp u (H8.out u hu).2.2.1).mono (fun e w' h => run_one h)
    have hdi1 := fun u (hu : Below W8.heap.size W8 u) => (direct_calls c l A7 c7 u (H8.out u hu).2.2.2.1).mono (fun e w' h => di_one h)
    have hdi2 := fun u (hu : Below W8.heap.size W8 u) => (directR_calls c l A cp u (H8.out u hu).2.2.1).mono (fun e w' h => di_one h)
    rw [HM.out] at hrun1 hrun2 hdi1 hdi2
    obtain ⟨rv, hrv⟩ : ∃ rv, rnV c l = rv := ⟨_, rfl⟩
    obtain ⟨rm, hrm⟩ : ∃ rm, rnM c l = rm := ⟨_, rfl⟩
    obtain ⟨⟨cf, cw, ch⟩, hrc⟩ : ∃ rc, rnC c l = rc := ⟨_, rfl⟩
    obtain ⟨dv, hdv⟩ : ∃ dv, diV c l = dv := ⟨_, rfl⟩
    obtain ⟨dm, hdm⟩ : ∃ dm, diM c l = dm := ⟨_, rfl⟩
    rw [hrv, hrm, hrc] at hrun1 hrun2
    rw [hdv, hdm] at hdi1 hdi2
    have HR1 := Lib.hid hrun1
    have HR2 := Lib.hid hrun2
    have HD1 := Lib.hid hdi1
    have HD2 := Lib.hid hdi2
    have hii := fun (xs : List Int) (B C : Option Addr) (cb cc : Nat) (u : World) (h1 : Rd encI 1 u B xs) (h2 : Rd encI 1 u C xs) => ints_calls xs xs B C cb cc u h1 h2
    simp only [decide_true] at hii
    have HII := Lib.hid hii
    clear hrun1 hrun2 hdi1 hdi2 hrv hrm hrc hdv hdm hii
    go_upto_region 11 with (first | (refine wpList_load_row rfl 25 (.tmp 7) rfl n7 rfl 25 _ (0, 0) _ (H8.out _ HV2.out).2.1 Try.underlying25 rfl info25s ?_) | ((with_reducible refine (HR1.out _ HV2.out).mono ?_); rintro e v3 ⟨V1, d1, M1, e1, rfl, hv3, hm3, hb⟩; have HV3 := Lib.hid (And.intro (HV2.out.trans (hb.mono HV2.out.size)) (And.intro hv3 hm3)); clear hb hv3 hm3))
    obtain ⟨U3, hU3⟩ : ∃ U, v3.alloc (.cells #[.int .i64 (cf : Int), .int .i64 (cw : Int), .int .i64 (ch : Int)] 34) = U := ⟨_, rfl⟩
    obtain ⟨n15, hn15⟩ : ∃ n, v3.heap.size = n := ⟨_, rfl⟩
    rw [hU3, hn15]
    have hbU3 : Below v3.heap.size v3 U3 := by rw [← hU3]; exact (Below.refl _ _).alloc (Nat.le_refl _) _
    have hxU3 : U3.heap[n15]? = some (.cells #[.int .i64 (cf : Int), .int .i64 (cw : Int), .int .i64 (ch : Int)] 34 (0, 0)) := by rw [← hU3, ← hn15]; exact Go.heap_alloc_new _ _
    have HU3 := Lib.hid (And.intro (HV3.out.1.trans (hbU3.mono HV3.out.1.size)) (And.intro (HV3.out.2.1.below hbU3) (And.intro (HV3.out.2.2.below hbU3) hxU3)))
    clear hU3 hn15 hbU3 hxU3
    go_upto_region 12 with (first | (refine wpList_load_row rfl 23 (.tmp 3) rfl n0 rfl 23 _ (0, 0) _ (H8.out _ HU3.out.1).1 Try.underlying23 rfl info23s ?_) | ((with_reducible refine (HR2.out _ HU3.out.1).mono ?_); rintro e v4 ⟨V2, d2, M2, e2, rfl, hv4, hm4, hb⟩; have HV4 := Lib.hid (And.intro (HU3.out.1.trans (hb.mono HU3.out.1.size)) (And.intro hv4 (And.intro hm4 (And.intro (HU3.out.2.1.below hb) (And.intro (HU3.out.2.2.1.below hb) ((hb.block _ (blk_lt HU3.out.2.2.2)).trans HU3.out.2.2.2)))))); clear hb hv4 hm4))
    obtain ⟨U4, hU4⟩ : ∃ U, v4.alloc (.cells #[.int .i64 (cf : Int), .int .i64 (cw : Int), .int .i64 (ch : Int)] 45) = U := ⟨_, rfl⟩
    obtain ⟨n18, hn18⟩ : ∃ n, v4.heap.size = n := ⟨_, rfl⟩
    rw [hU4, hn18]
    have hbU4 : Below v4.heap.size v4 U4 := by rw [← hU4]; exact (Below.refl _ _).alloc (Nat.le_refl _) _
    have hxU4 : U4.heap[n18]? = some (.cells #[.int .i64 (cf : Int), .int .i64 (cw : Int), .int .i64 (ch : Int)] 45 (0, 0)) := by rw [← hU4, ← hn18]; exact Go.heap_alloc_new _ _
    have hA15 : ∀ u, Below U4.heap.size U4 u → u.heap[n15]? = some (.cells #[.int .i64 (cf : Int), .int .i64 (cw : Int), .int .i64 (ch : Int)] 34 (0, 0)) ∧ u.heap[n18]? = some (.cells #[.int .i64 (cf : Int), .int .i64 (cw : Int), .int .i64 (ch : Int)] 45 (0, 0)) ∧ Rd encI 1 u V1 rv ∧ Rd encI 1 u M1 rm ∧ Rd encI 1 u V2 rv ∧ Rd encI 1 u M2 rm ∧ Below W8.heap.size W8 u := fun u hu => by
      have h1 := hbU4.trans (hu.mono hbU4.size)
      exact ⟨(h1.block _ (blk_lt HV4.out.2.2.2.2.2)).trans HV4.out.2.2.2.2.2, (hu.block _ (blk_lt hxU4)).trans hxU4, HV4.out.2.2.2.1.below h1, HV4.out.2.2.2.2.1.below h1, HV4.out.2.1.below h1, HV4.out.2.2.1.below h1, HV4.out.1.trans (h1.mono HV4.out.1.size)⟩
    have HA := Lib.hid hA15
    clear hU4 hn18 hbU4 hxU4 hA15
    go_upto_region 14 with (first | ((with_reducible refine (HII.out rv V1 V2 d1 d2 _ (HA.out _ (Below.refl _ U4)).2.2.1 (HA.out _ (Below.refl _ U4)).2.2.2.2.1).mono ?_); rintro e v5 ⟨rfl, hb⟩; have HV5 := Lib.hid hb; clear hb) | ((with_reducible refine (HII.out rm M1 M2 e1 e2 _ (HA.out _ HV5.out).2.2.2.1 (HA.out _ HV5.out).2.2.2.2.2.1).mono ?_); rintro e v6 ⟨rfl, hb⟩; have HV6 := Lib.hid (HV5.out.trans (hb.mono HV5.out.size)); clear hb; have ha := HA.out _ HV6.out; obtain ⟨k0, k1, k2⟩ := st3 ha.1; obtain ⟨k3, k4, k5⟩ := st3 ha.2.1; clear ha))
    go_upto_region 15 with (first | (refine wpList_load_row rfl 25 (.tmp 7) rfl n7 rfl 25 _ (0, 0) _ (H8.out _ (HA.out _ HV6.out).2.2.2.2.2.2).2.1 Try.underlying25 rfl info25s ?_) | ((with_reducible refine (HD1.out _ (HA.out _ HV6.out).2.2.2.2.2.2).mono ?_); rintro e v7 ⟨V3, d3, M3, e3, rfl, hv3, hm3, hb⟩; have HV7 := Lib.hid (And.intro ((HA.out _ HV6.out).2.2.2.2.2.2.trans (hb.mono (HA.out _ HV6.out).2.2.2.2.2.2.size)) (And.intro hv3 hm3)); clear hb hv3 hm3))
    go_upto_region 16 with (first | (refine wpList_load_row rfl 23 (.tmp 3) rfl n0 rfl 23 _ (0, 0) _ (H8.out _ HV7.out.1).1 Try.underlying23 rfl info23s ?_) | ((with_reducible refine (HD2.out _ HV7.out.1).mono ?_); rintro e v8 ⟨V4, d4, M4, e4, rfl, hv4, hm4, hb⟩; have HV8 := Lib.hid (And.intro (HV7.out.1.trans (hb.mono HV7.out.1.size)) (And.intro hv4 (And.intro hm4 (And.intro (HV7.out.2.1.below hb) (HV7.out.2.2.below hb))))); clear hb hv4 hm4))
    go_wp2_with (first | ((with_reducible refine (HII.out dv V3 V4 d3 d4 _ HV8.out.2.2.2.1 HV8.out.2.1).mono ?_); rintro e v9 ⟨rfl, hb⟩; have HV9 := Lib.hid (And.intro hb (And.intro (HV8.out.2.2.2.2.below hb) (HV8.out.2.2.1.below hb))); clear hb) | ((with_reducible refine (HII.out dm M3 M4 e3 e4 _ HV9.out.2.1 HV9.out.2.2).mono ?_); rintro e v10 ⟨rfl, hb⟩; have HV10 := Lib.hid hb; clear hb) | ((with_reducible refine (awake_calls _).mono ?_); rintro e v11 ⟨rfl, hb⟩; have HV11 := Lib.hid hb; clear hb))
    go_ret
    refine ⟨rfl, ?_⟩
    have h1 := (H8.out _ HV8.out.1).2.2.2.2
    have h2 := h1.trans (HV9.out.1.mono h1.size)
    have h3 := h2.trans (HV10.out.mono h2.size)
    exact h3.trans (HV11.out.mono h3.size)
end Go.Proofs.Ytggidakiflnhhaa
