import Derived.Test.YtggidakiflnhhaaBP
namespace Go.Proofs.Ytggidakiflnhhaa
open Go.RowKit
set_option maxHeartbeats 16000000
set_option maxRecDepth 100000
set_option linter.unusedSimpArgs false
set_option linter.unusedVariables false

def feL (c : Cf) (l : List Op) : List Op := if chkF c l = 0 then (fnF l).tr else []
theorem fe_one {c : Cf} {l : List Op} {w : World} {e : Ending} {w' : World} (h : FencePost c l w e w') : ∃ B cB, e = .returned (.tuple #[.slice B (feL c l).length cB, .int .i64 (chkF c l)]) ∧ Rd encP 4 w' B (feL c l) ∧ Below w.heap.size w w' := by
  obtain ⟨h1, h2, h3⟩ := h
  unfold feL
  by_cases hk : chkF c l = 0
  · obtain ⟨v, rfl, ho⟩ := h1 hk
    obtain ⟨B, cB, rfl, _, hr, _⟩ := ho.form lenP
    rw [if_pos hk, hk]
    exact ⟨B, cB, rfl, hr, h3⟩
  · rw [if_neg hk]
    exact ⟨none, 0, h2 hk, Rd.nil _ _ _ _, h3⟩
theorem fe_two {c : Cf} {l : List Op} {w : World} {e : Ending} {w' : World} (h : Fence24Post c l w e w') : ∃ B cB, ((feL c l).length ≤ cB ∧ ∀ a, B = some a → a.spot = none) ∧ e = .returned (.tuple #[.slice B (feL c l).length cB, .int .i64 (chkF c l)]) ∧ Rd encP 4 w' B (feL c l) ∧ Below w.heap.size w w' := by
  obtain ⟨h1, h2, h3⟩ := h
  unfold feL
  by_cases hk : chkF c l = 0
  · obtain ⟨v, rfl, ho⟩ := h1 hk
    obtain ⟨B, cB, rfl, hle, hr, _⟩ := ho.form lenP
    rw [if_pos hk, hk]
    refine ⟨B, cB, ⟨hle, fun a ha => ?_⟩, rfl, hr, h3⟩
    obtain ⟨g, rfl, _, _⟩ := (own_slice lenP ho).2.2.2 a ha
    rfl
  · rw [if_neg hk]
    exact ⟨none, 0, ⟨Nat.le_refl _, fun a ha => by cases ha⟩, h2 hk, Rd.nil _ _ _ _, h3⟩
theorem rd_take {α : Type} {enc : α → List Value} {sz : Nat} {w : World} {A : Option Addr} {xs : List α} (h : Rd enc sz w A xs) (i : Nat) : Rd enc sz w A (xs.take i) :=
  ⟨by have := h.small; simp; omega, fun k hk => by
    simp only [List.length_take] at hk
    obtain ⟨a, ha, hc⟩ := h.cell k (by omega)
    exact ⟨a, ha, fun j v hv => hc j v (by simpa using hv)⟩⟩
theorem add_add (a : Addr) (m n : Nat) (hs : a.spot = none) : (a.add m).add n = a.add (m + n) := by
  obtain ⟨b, o, s⟩ := a
  simp only at hs
  subst hs
  unfold Addr.add
  split <;> split <;> split <;> simp_all <;> omega
theorem rd_drop {α : Type} {enc : α → List Value} {sz : Nat} {w : World} {a : Addr} {xs : List α} (h : Rd enc sz w (some a) xs) (hsp : a.spot = none) (i : Nat) : Rd enc sz w (some (a.add (i * sz))) (xs.drop i) :=
  ⟨by have := h.small; simp; omega, fun k hk => by
    simp only [List.length_drop] at hk
    obtain ⟨b, hb, hc⟩ := h.cell (i + k) (by omega)
    obtain rfl := Option.some.inj hb
    refine ⟨_, rfl, fun j v hv => ?_⟩
    rw [add_add _ _ _ hsp, show i * sz + (k * sz + j) = (i + k) * sz + j by rw [Nat.add_mul]; omega]
    exact hc j v (by simpa using hv)⟩
theorem cacheRaces_calls (c : Cf) (l : List Op) (A : Option Addr) (cp : Nat) (w : World) (hA : Rd encP 4 w A l) :
    Calls Try.prog 6 #[c.val, .slice A l.length cp] w fun e w' => e = .returned (.bool true) ∧ Below w.heap.size w w' := by
  have hsm := hA.small
  obtain ⟨n0, hn0⟩ : ∃ n, w.heap.size = n := ⟨_, rfl⟩
  obtain ⟨W1, hW1⟩ : ∃ W1, w.alloc (.cells c.cells 23) = W1 := ⟨_, rfl⟩
  have hb1 : Below w.heap.size w W1 := by rw [← hW1]; exact (Below.refl _ w).alloc (Nat.le_refl _) _
  have hx1 : W1.heap[n0]? = some (.cells c.cells 23 (0, 0)) := by rw [← hW1, ← hn0]; exact Go.heap_alloc_new w _
  obtain ⟨b, hbs⟩ : ∃ b, decide ((l.length : Int) ≤ 60 ∨ (2000 < l.length ∧ l.length ≤ 2002)) = b := ⟨_, rfl⟩
  have hsh := short_calls l 60 A cp W1 hsm
  rw [hbs] at hsh
  have HS := Lib.hid hsh
  have HX := Lib.hid (And.intro hb1 (And.intro hx1 (And.intro (hA.below hb1) hn0)))
  have HW := Lib.hid (And.intro hW1 hn0)
  clear hb1 hx1 hsh hA hW1 hn0
  go_enter Try.func6, Try.ntmps6
  go_upto_region 1 with fail
  rw [HW.out.1]
  rw [HW.out.2]
  cases b with
  | false =>
    go_wp2_with (first | ((with_reducible refine (HS.out).mono ?_); rintro e w5 ⟨rfl, hb5⟩; have H5 := Lib.hid hb5; clear hb5) | ((with_reducible refine (awake_calls _).mono ?_); rintro e w6 ⟨rfl, hb6⟩; have H6 := Lib.hid hb6; clear hb6))
    go_ret
    exact ⟨rfl, (HX.out.1.trans (H5.out.mono HX.out.1.size)).trans (H6.out.mono (Nat.le_trans HX.out.1.size H5.out.size))⟩
  | true =>
    have hl2 := of_decide_eq_true hbs
    have HL := Lib.hid (show l.length * 32 ≤ 140737488351232 by omega)
    have HL2 := Lib.hid (show chkF c l = 0 → l.length ≤ 200 from fun hk => by have := chk_len hk; omega)
    clear hbs hl2
    go_upto_region 3 with ((with_reducible refine (HS.out).mono ?_); rintro e w5 ⟨rfl, hb5⟩; have H5 := Lib.hid (And.intro ((hb5.block _ (blk_lt HX.out.2.1)).trans HX.out.2.1) (And.intro (HX.out.1.trans (hb5.mono HX.out.1.size)) (HX.out.2.2.1.below hb5))); clear hb5)
    go_upto_region 4 with (first | (refine wpList_load_row rfl 23 (.tmp 2) rfl n0 rfl 23 _ (0, 0) _ H5.out.1 Try.underlying23 rfl info23s ?_) | ((with_reducible refine (config_calls c _).mono ?_); rintro e w6 ⟨rfl, hb6⟩; have H6 := Lib.hid (And.intro ((hb6.block _ (blk_lt H5.out.1)).trans H5.out.1) (And.intro (H5.out.2.1.trans (hb6.mono H5.out.2.1.size)) (H5.out.2.2.below hb6))); clear hb6) | ((with_reducible refine (ops_copy l A cp _ H6.out.2.2 HL.out).mono ?_); rintro e w7 ⟨v7, rfl, ho7, hb7⟩; obtain ⟨A7, c7, rfl, _, hr7, _⟩ := ho7.form lenP; have H7 := Lib.hid (And.intro ((hb7.block _ (blk_lt H6.out.1)).trans H6.out.1) (And.intro (H6.out.2.1.trans (hb7.mono H6.out.2.1.size)) (And.intro (H6.out.2.2.below hb7) hr7))); clear hb7 ho7 hr7))
    obtain ⟨W8, hW8⟩ : ∃ W, w7.alloc (.cells c.cells 25) = W := ⟨_, rfl⟩
    obtain ⟨n5, hn5⟩ : ∃ n, w7.heap.size = n := ⟨_, rfl⟩
    have hb8 : Below w7.heap.size w7 W8 := by rw [← hW8]; exact (Below.refl _ _).alloc (Nat.le_refl _) _
    have hx8 : W8.heap[n5]? = some (.cells c.cells 25 (0, 0)) := by rw [← hW8, ← hn5]; exact Go.heap_alloc_new _ _
    have hall : ∀ u, Below W8.heap.size W8 u → u.heap[n0]? = some (.cells c.cells 23 (0, 0)) ∧ u.heap[n5]? = some (.cells c.cells 25 (0, 0)) ∧ Rd encP 4 u A l ∧ Rd encP 4 u A7 l ∧ Below w.heap.size w u := fun u hu => by
      have h1 := hb8.trans (hu.mono hb8.size)
      exact ⟨(h1.block _ (blk_lt H7.out.1)).trans H7.out.1, (hu.block _ (blk_lt hx8)).trans hx8, H7.out.2.2.1.below h1, H7.out.2.2.2.below h1, H7.out.2.1.trans (h1.mono H7.out.2.1.size)⟩
    rw [hW8, hn5]
    have H8 := Lib.hid hall
    obtain ⟨⟨rp, rq, rb, rk⟩, hrt⟩ : ∃ r, raceT c l = r := ⟨_, rfl⟩
    have hra := fun u (hu : Below W8.heap.size W8 u) => race_calls c l A7 c7 u (hall u hu).2.2.2.1
    have hrb := fun u (hu : Below W8.heap.size W8 u) => race23_calls c l A cp u (hall u hu).2.2.1
    unfold RacePost at hra hrb
    rw [hrt] at hra hrb
    obtain ⟨L, hL⟩ : ∃ L, feL c l = L := ⟨_, rfl⟩
    obtain ⟨m, hm⟩ : ∃ m, chkF c l = m := ⟨_, rfl⟩
    have hfa := fun u (hu : Below W8.heap.size W8 u) => (fence_calls c l HL2.out A7 c7 u (hall u hu).2.2.2.1).mono (fun e w' h => fe_one h)
    have hfb := fun u (hu : Below W8.heap.size W8 u) => (fence24_calls c l HL2.out A cp u (hall u hu).2.2.1).mono (fun e w' h => fe_two h)
    rw [hL, hm] at hfa hfb
    have HRA := Lib.hid hra
    have HRB := Lib.hid hrb
    have HFA := Lib.hid hfa
    have HFB := Lib.hid hfb
    clear hb8 hx8 hall hW8 hn5 hra hrb hfa hfb hrt hL hm
    go_upto_region 5 with (first | (refine wpList_load_row rfl 25 (.tmp 5) rfl n5 rfl 25 _ (0, 0) _ (H8.out _ (Below.refl _ _)).2.1 Try.underlying25 rfl info25s ?_) | ((with_reducible refine (HRA.out _ (Below.refl _ _)).mono ?_); rintro e v1 ⟨rfl, hb⟩; have HV1 := Lib.hid hb; clear hb))
    go_upto_region 6 with (first | (refine wpList_load_row rfl 23 (.tmp 2) rfl n0 rfl 23 _ (0, 0) _ (H8.out _ HV1.out).1 Try.underlying23 rfl info23s ?_) | ((with_reducible refine (HRB.out _ HV1.out).mono ?_); rintro e v2 ⟨rfl, hb⟩; have HV2 := Lib.hid (HV1.out.trans (hb.mono HV1.out.size)); clear hb))
    go_upto_region 9 with (first | (refine wpList_load_row rfl 25 (.tmp 5) rfl n5 rfl 25 _ (0, 0) _ (H8.out _ HV2.out).2.1 Try.underlying25 rfl info25s ?_) | ((with_reducible refine (HFA.out _ HV2.out).mono ?_); rintro e v3 ⟨B, cB, rfl, hr, hb⟩; have HV3 := Lib.hid (And.intro (HV2.out.trans (hb.mono HV2.out.size)) hr); clear hb hr))
    go_upto_region 10 with (first | (refine wpList_load_row rfl 23 (.tmp 2) rfl n0 rfl 23 _ (0, 0) _ (H8.out _ HV3.out.1).1 Try.underlying23 rfl info23s ?_) | ((with_reducible refine (HFB.out _ HV3.out.1).mono ?_); rintro e v4 ⟨C, cC, hcC, rfl, hr, hb⟩; have HV4 := Lib.hid (And.intro (HV3.out.1.trans (hb.mono HV3.out.1.size)) (And.intro (HV3.out.2.below hb) hr)); have HCC := Lib.hid hcC; clear hb hr hcC))
    go_upto_block 0 with fail
    go_wp2_with fail
    go_loopg [17, 82, 83, 84, 85, 86, 87, 88, 89, 90, 91, 92, 93, 94, 95, 96, 97, 98, 99, 100] L.length (fun gk v17 v82 v83 v84 v85 v86 v87 v88 v89 v90 v91 v92 v93 v94 v95 v96 v97 v98 v99 v100 wr => ∃ i : Nat, i + gk = L.length ∧ v17 = .int .i64 (i : Int) ∧ Below v4.heap.size v4 wr)
    case atStart => exact ⟨0, by omega, rfl, Below.refl _ _⟩
    case round =>
      obtain ⟨i, hi, rfl, hb⟩ := hrel
      by_cases hlt : i < L.length
      · have hd : decide (i < L.length) = true := decide_eq_true hlt
        have hiI : (i : Int) < (L.length : Int) := by omega
        have hiC : (i : Int) + 1 ≤ (cC : Int) := by have := HCC.out.1; omega
        have hsmL := HV4.out.2.1.small
        obtain ⟨a1, rfl, hc1⟩ := HV4.out.2.1.cell i hlt
        obtain ⟨a2, rfl, hc2⟩ := HV4.out.2.2.cell i hlt
        obtain ⟨x, hx⟩ : ∃ x, L[i] = x := ⟨_, rfl⟩
        clear hc1 hc2
        obtain ⟨xa, xk, xp, xv⟩ := x
        have HY := Lib.hid (fun (u : World) (hu : Below v4.heap.size v4 u) => (show u.cell? (a1.add (i * 4)) = some (.int .i64 xa) ∧ u.cell? ⟨(a1.add (i * 4)).block, (a1.add (i * 4)).off + 1, none⟩ = some (.int .i64 xk) ∧ u.cell? ⟨(a1.add (i * 4)).block, (a1.add (i * 4)).off + 2, none⟩ = some (.int .i64 xp) ∧ u.cell? ⟨(a1.add (i * 4)).block, (a1.add (i * 4)).off + 3, none⟩ = some (.int .i64 xv) by
          obtain ⟨a3, ha3, hc3⟩ := (HV4.out.2.1.below hu).cell i hlt
          obtain rfl := Option.some.inj ha3
          rw [hx] at hc3
          have g0 := hc3 0 _ rfl
          have g1 := hc3 1 _ rfl
          have g2 := hc3 2 _ rfl
          have g3 := hc3 3 _ rfl
          rw [Nat.add_zero] at g0
          rw [add_field _ _ _ (by decide)] at g1 g2 g3
          exact ⟨g0, g1, g2, g3⟩))
        have HR := Lib.hid (fun (u : World) (hu : Below v4.heap.size v4 u) => (show Rd encP 4 u (some (a2.add (i * 4))) [⟨xa, xk, xp, xv⟩] by
          have h1 := rd_take (rd_drop (HV4.out.2.2.below hu) (HCC.out.2 _ rfl) i) 1
          rw [List.drop_eq_getElem_cons hlt, hx] at h1
          exact h1))
        have hop := fun (c3 : Nat) (u : World) (hu : Below v4.heap.size v4 u) => (show Calls Try.prog 9 #[.slice (some (a2.add (i * 4))) 1 c3] u (ClonePost encP 4 38 [⟨xa, xk, xp, xv⟩] u) from ops_copy [⟨xa, xk, xp, xv⟩] (some (a2.add (i * 4))) c3 u (HR.out u hu) (by simp))
        have HOP := Lib.hid hop
        have HB := Lib.hid hb
        clear hb hop hx
        have hw1 : wrap64 ((i : Int) + 1) = (i : Int) + 1 := wrap64_fit _ (by omega)
        have hw2 : IntKind.i64.wrap ((i : Int) + 1) = (i : Int) + 1 := by simp only [IntKind.wrap, IntKind.signed, IntKind.bits]; simp; omega
        have htn : ((i : Int) + 1).toNat = i + 1 := by omega
        have h0 : (0 : Int) ≤ (i : Int) + 1 := by omega
        have hile : (i : Int) ≤ (i : Int) + 1 := by omega
        have hicN : i + 1 ≤ cC := by omega
        have hicN2 : i ≤ cC := by omega
        have hicI2 : (i : Int) ≤ (cC : Int) := by omega
        have hq2 := fun (u : World) => eq38' ⟨xa, xk, xp, xv⟩ ⟨xa, xk, xp, xv⟩ u
        simp only [decide_true] at hq2
        go_upto_region 15 with fail
        refine wp_region_held_drew (S := (fun w' => w'.cell? (a1.add (i * 4)) = some (.int .i64 xa) ∧ w'.cell? ⟨(a1.add (i * 4)).block, (a1.add (i * 4)).off + 1, none⟩ = some (.int .i64 xk) ∧ w'.cell? ⟨(a1.add (i * 4)).block, (a1.add (i * 4)).off + 2, none⟩ = some (.int .i64 xp) ∧ w'.cell? ⟨(a1.add (i * 4)).block, (a1.add (i * 4)).off + 3, none⟩ = some (.int .i64 xv))) (by kernel_rfl) ?_ (fun hHelda => ?_)
        · (try dsimp only); exact HY.out _ HB.out.drew
        refine wpAnyH_take (i := 0) (oi := _) (v := ?va1) rfl (by kernel_rfl) (by kernel_rfl) (by kernel_rfl) (fun _ _ _ h => h) (Or.inl ⟨by rfl, ?hya1⟩) (by assumption) ?resta1
        case hya1 => (intro w hSw; (try dsimp only at hSw); go_simp; all_goals with_reducible rfl)
        try simp only [Act.put, List.getElem_toArray, List.getElem_cons_zero, List.getElem_cons_succ, List.setIfInBounds_toArray, List.set_cons_zero, List.set_cons_succ]
        refine wpAnyH_take (i := 1) (oi := _) (v := ?va2) rfl (by kernel_rfl) (by kernel_rfl) (by kernel_rfl) (fun _ _ _ h => h) (Or.inl ⟨by rfl, ?hya2⟩) (by assumption) ?resta2
        case hya2 => (intro w hSw; (try dsimp only at hSw); go_simp; all_goals with_reducible rfl)
        try simp only [Act.put, List.getElem_toArray, List.getElem_cons_zero, List.getElem_cons_succ, List.setIfInBounds_toArray, List.set_cons_zero, List.set_cons_succ]
        refine wpAnyH_take (i := 2) (oi := _) (v := ?va3) rfl (by kernel_rfl) (by kernel_rfl) (by kernel_rfl) (fun _ _ _ h => h) (Or.inl ⟨by rfl, ?hya3⟩) (by assumption) ?resta3
        case hya3 => (intro w hSw; (try dsimp only at hSw); go_simp; all_goals with_reducible rfl)
        try simp only [Act.put, List.getElem_toArray, List.getElem_cons_zero, List.getElem_cons_succ, List.setIfInBounds_toArray, List.set_cons_zero, List.set_cons_succ]
        refine wpAnyH_take (i := 3) (oi := _) (v := ?va4) rfl (by kernel_rfl) (by kernel_rfl) (by kernel_rfl) (fun _ _ _ h => h) (Or.inl ⟨by rfl, ?hya4⟩) (by assumption) ?resta4
        case hya4 => (intro w hSw; (try dsimp only at hSw); go_simp; all_goals with_reducible rfl)
        try simp only [Act.put, List.getElem_toArray, List.getElem_cons_zero, List.getElem_cons_succ, List.setIfInBounds_toArray, List.set_cons_zero, List.set_cons_succ]
        refine wpAnyH_take (i := 4) (oi := _) (v := ?va5) rfl (by kernel_rfl) (by kernel_rfl) (by kernel_rfl) (fun _ _ _ h => h) (Or.inl ⟨by rfl, ?hya5⟩) (by assumption) ?resta5
        case hya5 => (intro w hSw; (try dsimp only at hSw); go_simp; all_goals with_reducible rfl)
        try simp only [Act.put, List.getElem_toArray, List.getElem_cons_zero, List.getElem_cons_succ, List.setIfInBounds_toArray, List.set_cons_zero, List.set_cons_succ]
        refine wpAnyH_take (i := 5) (oi := _) (v := ?va6) rfl (by kernel_rfl) (by kernel_rfl) (by kernel_rfl) (fun _ _ _ h => h) (Or.inl ⟨by rfl, ?hya6⟩) (by assumption) ?resta6
        case hya6 => (intro w hSw; (try dsimp only at hSw); go_simp; all_goals with_reducible rfl)
        try simp only [Act.put, List.getElem_toArray, List.getElem_cons_zero, List.getElem_cons_succ, List.setIfInBounds_toArray, List.set_cons_zero, List.set_cons_succ]
        refine wpAnyH_take (i := 6) (oi := _) (v := ?va7) rfl (by kernel_rfl) (by kernel_rfl) (by kernel_rfl) (fun _ _ _ h => h) (Or.inl ⟨by rfl, ?hya7⟩) (by assumption) ?resta7
        case hya7 => (intro w hSw; (try dsimp only at hSw); go_simp; all_goals with_reducible rfl)
        try simp only [Act.put, List.getElem_toArray, List.getElem_cons_zero, List.getElem_cons_succ, List.setIfInBounds_toArray, List.set_cons_zero, List.set_cons_succ]
        refine wpAnyH_take (i := 7) (oi := _) (v := ?va8) rfl (by kernel_rfl) (by kernel_rfl) (by kernel_rfl) (fun _ _ _ h => h) (Or.inl ⟨by rfl, ?hya8⟩) (by assumption) ?resta8
        case hya8 => (intro w hSw; (try dsimp only at hSw); go_simp; all_goals with_reducible rfl)
        try simp only [Act.put, List.getElem_toArray, List.getElem_cons_zero, List.getElem_cons_succ, List.setIfInBounds_toArray, List.set_cons_zero, List.set_cons_succ]
        refine wpAnyH_take (i := 8) (oi := _) (v := ?va9) rfl (by kernel_rfl) (by kernel_rfl) (by kernel_rfl) (fun _ _ _ h => h) (Or.inl ⟨by rfl, ?hya9⟩) (by assumption) ?resta9
        case hya9 => (intro w hSw; (try dsimp only at hSw); go_simp; all_goals with_reducible rfl)
        try simp only [Act.put, List.getElem_toArray, List.getElem_cons_zero, List.getElem_cons_succ, List.setIfInBounds_toArray, List.set_cons_zero, List.set_cons_succ]
        refine wpAnyH_ready (rs := [9]) (by kernel_rfl) (by simp) ?_
        refine AllReadyH.cons (o := _) rfl (fun K hK => ?_) AllReadyH.nil
        go_simp
        try go_wp2_with fail
        (with_reducible refine (HOP.out _ _ HB.out.drew).mono ?_); rintro y w9 ⟨v9, rfl, ho9, hb9⟩
        obtain ⟨A9, c9, rfl, _, hr9, _⟩ := ho9.form lenP
        obtain ⟨b9, rfl, hc9⟩ := hr9.cell 0 (by simp)
        obtain ⟨g9, rfl, -, -⟩ := (own_slice lenP ho9).2.2.2 _ rfl
        have hb10 := Below.trans HB.out.drew (hb9.mono (Below.size HB.out.drew))
        have k0 := hc9 0 _ rfl
        have k1 := hc9 1 _ rfl
        have k2 := hc9 2 _ rfl
        have k3 := hc9 3 _ rfl
        rw [Nat.zero_mul, Nat.zero_add, add_at] at k0 k1 k2 k3
        have H9 := Lib.hid (And.intro hb10 (And.intro k0 (And.intro k1 (And.intro k2 k3))))
        clear hb9 hb10 ho9 hr9 hc9 k0 k1 k2 k3
        try simp only [List.length_cons, List.length_nil, Nat.zero_add]
        refine hK.out _ _ ?_ (fun hHelda10 => ?_)
        · (try dsimp only); exact HY.out _ H9.out.1
        clear hK K hHelda
        try simp only [Act.put, List.getElem_toArray, List.getElem_cons_zero, List.getElem_cons_succ, List.setIfInBounds_toArray, List.set_cons_zero, List.set_cons_succ]
        refine wpAnyH_take (i := 10) (oi := _) (v := ?va11) rfl (by kernel_rfl) (by kernel_rfl) (by kernel_rfl) (fun _ _ _ h => h) (Or.inl ⟨by rfl, ?hya11⟩) (by assumption) ?resta11
        case hya11 => (intro w hSw; (try dsimp only at hSw); go_simp; all_goals with_reducible rfl)
        try simp only [Act.put, List.getElem_toArray, List.getElem_cons_zero, List.getElem_cons_succ, List.setIfInBounds_toArray, List.set_cons_zero, List.set_cons_succ]
        refine wpAnyH_ready (rs := [11]) (by kernel_rfl) (by simp) ?_
        refine AllReadyH.cons (o := _) rfl (fun K hK => ?_) AllReadyH.nil
        obtain ⟨k0, k1, k2, k3⟩ := H9.out.2
        go_simp
        clear k0 k1 k2 k3
        refine hK.out _ _ ?_ (fun hHelda12 => ?_)
        · (try dsimp only); exact HY.out _ H9.out.1
        clear hK K hHelda10
        try simp only [Act.put, List.getElem_toArray, List.getElem_cons_zero, List.getElem_cons_succ, List.setIfInBounds_toArray, List.set_cons_zero, List.set_cons_succ]
        refine wpAnyH_take (i := 12) (oi := _) (v := ?va13) rfl (by kernel_rfl) (by kernel_rfl) (by kernel_rfl) (fun _ _ _ h => h) (Or.inl ⟨by rfl, ?hya13⟩) (by assumption) ?resta13
        case hya13 => (intro w hSw; (try dsimp only at hSw); go_simp; all_goals with_reducible rfl)
        try simp only [Act.put, List.getElem_toArray, List.getElem_cons_zero, List.getElem_cons_succ, List.setIfInBounds_toArray, List.set_cons_zero, List.set_cons_succ]
        refine wpAnyH_done (by kernel_rfl) ?_ _
        go_wp2_with fail
        go_roundg (L.length - (i + 1))
        case measure => omega
        case rel => exact ⟨i + 1, by omega, by go_num, H9.out.1⟩
      · have hd : decide (i < L.length) = false := decide_eq_false hlt
        have HB := Lib.hid hb
        clear hb
        go_wp2_with ((with_reducible refine (awake_calls _).mono ?_); rintro e w9 ⟨rfl, hb⟩; have HV := Lib.hid hb; clear hb)
        go_ret
        have h1 := (H8.out _ (HV4.out.1.trans (HB.out.mono HV4.out.1.size))).2.2.2.2
        exact ⟨rfl, h1.trans (HV.out.mono h1.size)⟩
end Go.Proofs.Ytggidakiflnhhaa
