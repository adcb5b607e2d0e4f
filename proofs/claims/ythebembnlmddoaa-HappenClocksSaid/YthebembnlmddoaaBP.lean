import Derived.Test.YthebembnlmddoaaBO
import Derived.Test.YthebembnlmddoaaAZ
namespace Go.Proofs.Ythebembnlmddoaa
open Go.RowKit
set_option maxHeartbeats 16000000
set_option maxRecDepth 100000
set_option linter.unusedSimpArgs false
set_option linter.unusedVariables false

def CkB (rows : List (List Int)) (n : Int) (w : World) (e : Ending) (w' : World) : Prop := ∃ S cS, e = .returned (.tuple #[.slice S rows.length cS, .int .i64 n]) ∧ RwN w' S rows ∧ Below w.heap.size w w'
theorem ErPost.ck {n : Int} {w w' : World} {e : Ending} (h : ErPost n w e w') : CkB [] n w e w' := ⟨none, 0, h.1, RwN.nil _ _, h.2⟩
theorem bothC_calls (l : List Ev) (hok : ∀ e ∈ l, e.ok) : ∃ (rows : List (List Int)) (n : Int), rows.length ≤ 2000 ∧
    (∀ (A : Option Addr) (c : Nat) (w : World), Rd encE 11 w A l → Calls Try.prog 16 #[.slice A l.length c] w (CkB rows n w)) ∧
    (∀ (A : Option Addr) (c : Nat) (w : World), Rd encE 11 w A l → Calls Try.prog 17 #[.slice A l.length c] w (CkB rows n w)) := by
  by_cases hk : chkF l = 0
  · exact ⟨ckL l, 0, by rw [ckL_len]; exact (chk_zero l hk).1, fun A c w hA => clocks_rows l hok hk A c w hA, fun A c w hA => clocksR_calls l hk A c w hA⟩
  · exact ⟨[], chkF l, by simp, fun A c w hA => (clocks_chk l hok hk A c w hA).mono fun e w' h => h.ck, fun A c w hA => (clocksR_chk l hk A c w hA).mono fun e w' h => h.ck⟩
theorem happenClocks_calls (l : List Ev) (hok : ∀ e ∈ l, e.ok) (i j : Int) (ea eb : Ev) (A : Option Addr) (c : Nat) (w : World) (hA : Rd encE 11 w A l) :
    Calls Try.prog 4 #[.slice A l.length c, .int .i64 i, .int .i64 j, ea.acc, eb.acc] w fun e w' => e = .returned (.bool true) ∧ Below w.heap.size w w' := by
  have hsm := hA.small
  obtain ⟨W1, hW1⟩ : ∃ W1, w.alloc (.cells ea.accs 39) = W1 := ⟨_, rfl⟩
  have hb1 : Below w.heap.size w W1 := by rw [← hW1]; exact (Below.refl _ w).alloc (Nat.le_refl _) _
  have hbx : W1.heap[w.heap.size]? = some (.cells ea.accs 39 (0, 0)) := by rw [← hW1]; exact Go.heap_alloc_new w _
  obtain ⟨W2, hW2⟩ : ∃ W2, W1.alloc (.cells eb.accs 39) = W2 := ⟨_, rfl⟩
  have hb2 : Below W1.heap.size W1 W2 := by rw [← hW2]; exact (Below.refl _ _).alloc (Nat.le_refl _) _
  have hby : W2.heap[W1.heap.size]? = some (.cells eb.accs 39 (0, 0)) := by rw [← hW2]; exact Go.heap_alloc_new W1 _
  have hlo := hb1.trans (hb2.mono hb1.size)
  have hbx2 := (hb2.block _ (Array.getElem?_eq_some_iff.1 hbx).1).trans hbx
  obtain ⟨bx, hbxe⟩ : ∃ bx, w.heap.size = bx := ⟨_, rfl⟩
  have hbye : W1.heap.size = bx + 1 := by rw [← hW1, ← hbxe]; simp
  have HB := Lib.hid (And.intro hbxe hbye)
  have HW1 := Lib.hid hW1
  have HW2 := Lib.hid hW2
  have HR := Lib.hid (And.intro hA hok)
  rw [hbxe] at hbx2
  rw [hbye] at hby
  have H2 := Lib.hid (And.intro hlo (And.intro hbx2 hby))
  have ha := fun w => awake_calls w
  have HA := Lib.hid ha
  clear ha hA hok hW1 hW2 hb1 hb2 hbx hby hlo hbx2 hbxe hbye
  go_enter Try.func4, Try.ntmps4
  go_upto_region 1 with fail
  rw [HW1.out]
  try rw [HW2.out]
  try rw [HB.out.1]
  try rw [HB.out.2]
  by_cases hskip : (80 < l.length ∧ l.length ≤ 2000) ∨ 2100 < l.length
  · have HS := Lib.hid hskip
    by_cases h1 : 80 < l.length
    · have d1 : decide (80 < l.length) = true := decide_eq_true h1
      have d2 : decide ((80 : Int) < (l.length : Int)) = true := decide_eq_true (by omega)
      by_cases h2 : l.length ≤ 2000
      · have d3 : decide (l.length ≤ 2000) = true := decide_eq_true h2
        have d4 : decide ((l.length : Int) ≤ 2000) = true := decide_eq_true (by omega)
        clear hskip
        go_wp2_with fail
        (with_reducible refine (HA.out _).mono ?_); rintro e w5 ⟨rfl, hb5⟩
        have H5 := Lib.hid (H2.out.1.trans (hb5.mono H2.out.1.size))
        clear hb5
        go_wp2_with fail
        go_ret
        exact ⟨rfl, H5.out⟩
      · have d3 : decide (l.length ≤ 2000) = false := decide_eq_false h2
        have d4 : decide ((l.length : Int) ≤ 2000) = false := decide_eq_false (by omega)
        have d5 : decide (2100 < l.length) = true := decide_eq_true (by omega)
        have d6 : decide ((2100 : Int) < (l.length : Int)) = true := decide_eq_true (by omega)
        clear hskip
        go_wp2_with fail
        (with_reducible refine (HA.out _).mono ?_); rintro e w5 ⟨rfl, hb5⟩
        have H5 := Lib.hid (H2.out.1.trans (hb5.mono H2.out.1.size))
        clear hb5
        go_wp2_with fail
        go_ret
        exact ⟨rfl, H5.out⟩
    · exfalso; omega
  · have hcut : True := trivial
    have h21 : l.length ≤ 2100 := by omega
    go_cut [32] (fun s32 wx => s32 = .bool false ∧ wx = W2)
    case first =>
      by_cases h1 : 80 < l.length
      · have d1 : decide (80 < l.length) = true := decide_eq_true h1
        have d2 : decide ((80 : Int) < (l.length : Int)) = true := decide_eq_true (by omega)
        have h2 : ¬ l.length ≤ 2000 := by omega
        have d3 : decide (l.length ≤ 2000) = false := decide_eq_false h2
        have d4 : decide ((l.length : Int) ≤ 2000) = false := decide_eq_false (by omega)
        have d5 : decide (2100 < l.length) = false := decide_eq_false (by omega)
        have d6 : decide ((2100 : Int) < (l.length : Int)) = false := decide_eq_false (by omega)
        clear hskip h2 h21
        go_wp2_with fail
        go_meet
        exact ⟨rfl, rfl⟩
      · have d1 : decide (80 < l.length) = false := decide_eq_false h1
        have d2 : decide ((80 : Int) < (l.length : Int)) = false := decide_eq_false (by omega)
        have d5 : decide (2100 < l.length) = false := decide_eq_false (by omega)
        have d6 : decide ((2100 : Int) < (l.length : Int)) = false := decide_eq_false (by omega)
        clear hskip h21
        go_wp2_with fail
        go_meet
        exact ⟨rfl, rfl⟩
    case rest =>
      obtain ⟨rfl, rfl⟩ := hcut
      have ho := own_calls l A c wc (HR.out.1.below H2.out.1) (by omega)
      have HO := Lib.hid ho
      have H21 := Lib.hid h21
      clear ho hskip h21
      go_wp2_with fail
      (with_reducible refine (HO.out).mono ?_); rintro e w3 ⟨v, rfl, hown, hb3⟩
      obtain ⟨C, cp, rfl, hbc, hrd, _⟩ := hown.form lenE
      have hlo3 := H2.out.1.trans (hb3.mono H2.out.1.size)
      have hx3 := (hb3.block _ (Array.getElem?_eq_some_iff.1 H2.out.2.1).1).trans H2.out.2.1
      have hy3 := (hb3.block _ (Array.getElem?_eq_some_iff.1 H2.out.2.2).1).trans H2.out.2.2
      obtain ⟨rows, n, hrows, hc1, hc2⟩ := bothC_calls l HR.out.2
      have HC1 := Lib.hid (hc1 C cp w3 hrd)
      have HC2 := Lib.hid hc2
      have H3 := Lib.hid (And.intro hrd (And.intro hlo3 (And.intro hx3 (And.intro hy3 hrows))))
      clear hown hb3 hbc hrd hlo3 hx3 hy3 hrows hc1 hc2
      go_wp2_with fail
      (with_reducible refine (HC1.out).mono ?_); rintro e w4 ⟨S4, c4, rfl, hr4, hb4⟩
      have hlo4 := H3.out.2.1.trans (hb4.mono H3.out.2.1.size)
      have HC2' := Lib.hid (HC2.out A c w4 (HR.out.1.below hlo4))
      have H4 := Lib.hid (And.intro hb4 (And.intro hlo4 hr4))
      clear hb4 hlo4 hr4
      go_wp2_with fail
      (with_reducible refine (HC2'.out).mono ?_); rintro e w5 ⟨S5, c5, rfl, hr5, hb5⟩
      have hlo5 := H4.out.2.1.trans (hb5.mono H4.out.2.1.size)
      have hb35 := H4.out.1.trans (hb5.mono H4.out.1.size)
      have hbf := beforeH_calls l HR.out.2 i j C cp w5 (H3.out.1.below hb35)
      have hbg : ∀ w', Below w5.heap.size w5 w' → Calls Try.prog 19 #[.slice A l.length c, .int .i64 i, .int .i64 j] w' (BfPost l i j w') := fun w' h => beforeR_calls l i j A c w' (HR.out.1.below (hlo5.trans (h.mono hlo5.size)))
      unfold BfPost at hbf hbg
      generalize (bfV l i j).1 = f1 at *
      generalize (bfV l i j).2 = f2 at *
      have HBF := Lib.hid hbf
      have HBG := Lib.hid hbg
      have H5 := Lib.hid (And.intro hb35 (And.intro hlo5 (And.intro (H4.out.2.2.below hb5) hr5)))
      clear hb5 hlo5 hb35 hr5 hbf hbg
      go_wp2_with fail
      (with_reducible refine (HBF.out).mono ?_); rintro e w6 ⟨rfl, hb6⟩
      have HBG' := Lib.hid (HBG.out w6 hb6)
      have H6 := Lib.hid hb6
      clear hb6
      go_wp2_with fail
      (with_reducible refine (HBG'.out).mono ?_); rintro e w7 ⟨rfl, hb7⟩
      have hb57 := H6.out.trans (hb7.mono H6.out.size)
      have hb37 := H5.out.1.trans (hb57.mono H5.out.1.size)
      have hlo7 := H5.out.2.1.trans (hb57.mono H5.out.2.1.size)
      have hx7 := (hb37.block _ (Array.getElem?_eq_some_iff.1 H3.out.2.2.1).1).trans H3.out.2.2.1
      have hy7 := (hb37.block _ (Array.getElem?_eq_some_iff.1 H3.out.2.2.2.1).1).trans H3.out.2.2.2.1
      have hq20 : ∀ w', Below w7.heap.size w7 w' → Calls Try.prog 20 #[.slice C l.length cp] w' fun e w'' => e = .returned (.int .i64 (chkF l)) ∧ Below w7.heap.size w7 w'' := fun w' h => (check_calls l HR.out.2 C cp w' ((H3.out.1.below hb37).below h)).mono fun e w'' g => ⟨g.1, h.trans (g.2.mono h.size)⟩
      have hq21 : ∀ w', Below w7.heap.size w7 w' → Calls Try.prog 21 #[.slice A l.length c] w' fun e w'' => e = .returned (.int .i64 (chkF l)) ∧ Below w7.heap.size w7 w'' := fun w' h => (checkR_calls l A c w' (HR.out.1.below (hlo7.trans (h.mono hlo7.size)))).mono fun e w'' g => ⟨g.1, h.trans (g.2.mono h.size)⟩
      have hq22 : ∀ w', Below w7.heap.size w7 w' → Calls Try.prog 22 #[.slice S4 rows.length c4, .slice S5 rows.length c5, .func (.func 23) #[] #[]] w' fun e w'' => e = .returned (.bool true) ∧ Below w7.heap.size w7 w'' := fun w' h => (equal22_calls rows H3.out.2.2.2.2 S4 S5 c4 c5 w' ((H5.out.2.2.1.below hb57).below h) ((H5.out.2.2.2.below hb57).below h)).mono fun e w'' g => ⟨g.1, h.trans (g.2.mono h.size)⟩
      have hq24 : ∀ w', Below w7.heap.size w7 w' → Calls Try.prog 24 #[ea.acc, eb.acc] w' fun e w'' => e = .returned (.bool (cfB ea eb)) ∧ Below w7.heap.size w7 w'' := fun w' h => (conflict_calls ea eb w').mono fun e w'' g => ⟨g.1, h.trans (g.2.mono h.size)⟩
      have hq25 : ∀ w', Below w7.heap.size w7 w' → Calls Try.prog 25 #[ea.acc, eb.acc] w' fun e w'' => e = .returned (.bool (cfB ea eb)) ∧ Below w7.heap.size w7 w'' := fun w' h => (conflictR_calls ea eb w').mono fun e w'' g => ⟨g.1, h.trans (g.2.mono h.size)⟩
      have hq11 : ∀ w', Below w7.heap.size w7 w' → Calls Try.prog 11 #[] w' fun e w'' => e = .returned (.bool true) ∧ Below w7.heap.size w7 w'' := fun w' h => (HA.out w').mono fun e w'' g => ⟨g.1, h.trans (g.2.mono h.size)⟩
      generalize chkF l = ck at *
      generalize cfB ea eb = cf at *
      have Q20 := Lib.hid hq20
      have Q21 := Lib.hid hq21
      have Q22 := Lib.hid hq22
      have Q24 := Lib.hid hq24
      have Q25 := Lib.hid hq25
      have Q11 := Lib.hid hq11
      have hS : ∀ w', Below w7.heap.size w7 w' → (w'.cell? ⟨bx, 0, none⟩ = some (.int .i64 ea.t) ∧ w'.cell? ⟨bx, 1, none⟩ = some (.int .i64 ea.p) ∧ w'.cell? ⟨bx, 2, none⟩ = some (.int .i64 ea.q) ∧ w'.cell? ⟨bx, 3, none⟩ = some (.int .i64 ea.r) ∧ w'.cell? ⟨bx, 4, none⟩ = some (.int .i64 ea.m) ∧ w'.cell? ⟨bx, 5, none⟩ = some (.int .i64 ea.f) ∧ w'.cell? ⟨bx, 6, none⟩ = some (.int .i64 ea.a) ∧ w'.cell? ⟨bx + 1, 0, none⟩ = some (.int .i64 eb.t) ∧ w'.cell? ⟨bx + 1, 1, none⟩ = some (.int .i64 eb.p) ∧ w'.cell? ⟨bx + 1, 2, none⟩ = some (.int .i64 eb.q) ∧ w'.cell? ⟨bx + 1, 3, none⟩ = some (.int .i64 eb.r) ∧ w'.cell? ⟨bx + 1, 4, none⟩ = some (.int .i64 eb.m) ∧ w'.cell? ⟨bx + 1, 5, none⟩ = some (.int .i64 eb.f) ∧ w'.cell? ⟨bx + 1, 6, none⟩ = some (.int .i64 eb.a)) := fun w' hb => by
        have xx := (hb.block _ (Array.getElem?_eq_some_iff.1 hx7).1).trans hx7
        have yy := (hb.block _ (Array.getElem?_eq_some_iff.1 hy7).1).trans hy7
        have x0 := cell_of_row _ bx 0 _ _ _ xx
        have y0 := cell_of_row _ (bx + 1) 0 _ _ _ yy
        have x1 := cell_of_row _ bx 1 _ _ _ xx
        have y1 := cell_of_row _ (bx + 1) 1 _ _ _ yy
        have x2 := cell_of_row _ bx 2 _ _ _ xx
        have y2 := cell_of_row _ (bx + 1) 2 _ _ _ yy
        have x3 := cell_of_row _ bx 3 _ _ _ xx
        have y3 := cell_of_row _ (bx + 1) 3 _ _ _ yy
        have x4 := cell_of_row _ bx 4 _ _ _ xx
        have y4 := cell_of_row _ (bx + 1) 4 _ _ _ yy
        have x5 := cell_of_row _ bx 5 _ _ _ xx
        have y5 := cell_of_row _ (bx + 1) 5 _ _ _ yy
        have x6 := cell_of_row _ bx 6 _ _ _ xx
        have y6 := cell_of_row _ (bx + 1) 6 _ _ _ yy
        simp [Ev.accs] at x0 y0 x1 y1 x2 y2 x3 y3 x4 y4 x5 y5 x6 y6
        exact ⟨x0, x1, x2, x3, x4, x5, x6, y0, y1, y2, y3, y4, y5, y6⟩
      have HSK := Lib.hid hS
      have H7 := Lib.hid hlo7
      clear hb7 hb57 hb37 hlo7 hx7 hy7 hq20 hq21 hq22 hq24 hq25 hq11 hS
      go_upto_region 8 with fail
      refine wp_region_held_drew (S := (fun w' => w'.cell? ⟨bx, 0, none⟩ = some (.int .i64 ea.t) ∧ w'.cell? ⟨bx, 1, none⟩ = some (.int .i64 ea.p) ∧ w'.cell? ⟨bx, 2, none⟩ = some (.int .i64 ea.q) ∧ w'.cell? ⟨bx, 3, none⟩ = some (.int .i64 ea.r) ∧ w'.cell? ⟨bx, 4, none⟩ = some (.int .i64 ea.m) ∧ w'.cell? ⟨bx, 5, none⟩ = some (.int .i64 ea.f) ∧ w'.cell? ⟨bx, 6, none⟩ = some (.int .i64 ea.a) ∧ w'.cell? ⟨bx + 1, 0, none⟩ = some (.int .i64 eb.t) ∧ w'.cell? ⟨bx + 1, 1, none⟩ = some (.int .i64 eb.p) ∧ w'.cell? ⟨bx + 1, 2, none⟩ = some (.int .i64 eb.q) ∧ w'.cell? ⟨bx + 1, 3, none⟩ = some (.int .i64 eb.r) ∧ w'.cell? ⟨bx + 1, 4, none⟩ = some (.int .i64 eb.m) ∧ w'.cell? ⟨bx + 1, 5, none⟩ = some (.int .i64 eb.f) ∧ w'.cell? ⟨bx + 1, 6, none⟩ = some (.int .i64 eb.a))) (by kernel_rfl) ?_ (fun hHelda0 => ?_)
      · (try dsimp only); (first | with_reducible exact HSK.out _ (Below.refl _ _) | with_reducible exact HSK.out _ (bb_drew (Below.refl _ _)) | with_reducible exact HSK.out _ HBC1.out | with_reducible exact HSK.out _ HBC3.out | with_reducible exact HSK.out _ HBC8.out | with_reducible exact HSK.out _ HBC28.out | with_reducible exact HSK.out _ HBC31.out | with_reducible exact HSK.out _ HBC35.out)
      refine wpAnyH_take (i := 0) (oi := _) (v := ?av0) rfl (by kernel_rfl) (by kernel_rfl) (by kernel_rfl) (fun _ _ _ h => h) (Or.inl ⟨by rfl, ?ahy0⟩) (by assumption) ?arest0
      case ahy0 => (intro w hSw; (try dsimp only at hSw); go_simp; all_goals with_reducible rfl)
      try simp only [Act.put, List.getElem_toArray, List.getElem_cons_zero, List.getElem_cons_succ, List.setIfInBounds_toArray, List.set_cons_zero, List.set_cons_succ]
      refine wpAnyH_take (i := 2) (oi := _) (v := ?av2) rfl (by kernel_rfl) (by kernel_rfl) (by kernel_rfl) (fun _ _ _ h => h) (Or.inl ⟨by rfl, ?ahy2⟩) (by assumption) ?arest2
      case ahy2 => (intro w hSw; (try dsimp only at hSw); go_simp; all_goals with_reducible rfl)
      try simp only [Act.put, List.getElem_toArray, List.getElem_cons_zero, List.getElem_cons_succ, List.setIfInBounds_toArray, List.set_cons_zero, List.set_cons_succ]
      refine wpAnyH_ready (rs := [1]) (by kernel_rfl) (by simp) ?_
      refine AllReadyH.cons (o := _) rfl (fun K hK => ?_) AllReadyH.nil
      go_simp
      ((with_reducible refine (Q20.out _ (bb_drew (Below.refl _ _))).mono ?_); rintro e wc1 ⟨rfl, hbc1⟩; have HBC1 := Lib.hid hbc1; clear hbc1)
      try go_wp2_with fail
      refine hK.out _ _ ?_ (fun hHelda1 => ?_)
      · (try dsimp only); (first | with_reducible exact HSK.out _ (Below.refl _ _) | with_reducible exact HSK.out _ (bb_drew (Below.refl _ _)) | with_reducible exact HSK.out _ HBC1.out | with_reducible exact HSK.out _ HBC3.out | with_reducible exact HSK.out _ HBC8.out | with_reducible exact HSK.out _ HBC28.out | with_reducible exact HSK.out _ HBC31.out | with_reducible exact HSK.out _ HBC35.out)
      clear hK K hHelda0
      try simp only [Act.put, List.getElem_toArray, List.getElem_cons_zero, List.getElem_cons_succ, List.setIfInBounds_toArray, List.set_cons_zero, List.set_cons_succ]
      refine wpAnyH_ready (rs := [3]) (by kernel_rfl) (by simp) ?_
      refine AllReadyH.cons (o := _) rfl (fun K hK => ?_) AllReadyH.nil
      go_simp
      ((with_reducible refine (Q21.out _ HBC1.out).mono ?_); rintro e wc3 ⟨rfl, hbc3⟩; have HBC3 := Lib.hid hbc3; clear hbc3)
      try go_wp2_with fail
      refine hK.out _ _ ?_ (fun hHelda3 => ?_)
      · (try dsimp only); (first | with_reducible exact HSK.out _ (Below.refl _ _) | with_reducible exact HSK.out _ (bb_drew (Below.refl _ _)) | with_reducible exact HSK.out _ HBC1.out | with_reducible exact HSK.out _ HBC3.out | with_reducible exact HSK.out _ HBC8.out | with_reducible exact HSK.out _ HBC28.out | with_reducible exact HSK.out _ HBC31.out | with_reducible exact HSK.out _ HBC35.out)
      clear hK K hHelda1
      try simp only [Act.put, List.getElem_toArray, List.getElem_cons_zero, List.getElem_cons_succ, List.setIfInBounds_toArray, List.set_cons_zero, List.set_cons_succ]
      refine wpAnyH_take (i := 4) (oi := _) (v := ?av4) rfl (by kernel_rfl) (by kernel_rfl) (by kernel_rfl) (fun _ _ _ h => h) (Or.inl ⟨by rfl, ?ahy4⟩) (by assumption) ?arest4
      case ahy4 => (intro w hSw; (try dsimp only at hSw); go_simp; all_goals with_reducible rfl)
      try simp only [Act.put, List.getElem_toArray, List.getElem_cons_zero, List.getElem_cons_succ, List.setIfInBounds_toArray, List.set_cons_zero, List.set_cons_succ]
      refine wpAnyH_take (i := 5) (oi := _) (v := ?av5) rfl (by kernel_rfl) (by kernel_rfl) (by kernel_rfl) (fun _ _ _ h => h) (Or.inl ⟨by rfl, ?ahy5⟩) (by assumption) ?arest5
      case ahy5 => (intro w hSw; (try dsimp only at hSw); go_simp; all_goals with_reducible rfl)
      try simp only [Act.put, List.getElem_toArray, List.getElem_cons_zero, List.getElem_cons_succ, List.setIfInBounds_toArray, List.set_cons_zero, List.set_cons_succ]
      refine wpAnyH_take (i := 6) (oi := _) (v := ?av6) rfl (by kernel_rfl) (by kernel_rfl) (by kernel_rfl) (fun _ _ _ h => h) (Or.inl ⟨by rfl, ?ahy6⟩) (by assumption) ?arest6
      case ahy6 => (intro w hSw; (try dsimp only at hSw); go_simp; all_goals with_reducible rfl)
      try simp only [Act.put, List.getElem_toArray, List.getElem_cons_zero, List.getElem_cons_succ, List.setIfInBounds_toArray, List.set_cons_zero, List.set_cons_succ]
      refine wpAnyH_take (i := 7) (oi := _) (v := ?av7) rfl (by kernel_rfl) (by kernel_rfl) (by kernel_rfl) (fun _ _ _ h => h) (Or.inl ⟨by rfl, ?ahy7⟩) (by assumption) ?arest7
      case ahy7 => (intro w hSw; (try dsimp only at hSw); go_simp; all_goals with_reducible rfl)
      try simp only [Act.put, List.getElem_toArray, List.getElem_cons_zero, List.getElem_cons_succ, List.setIfInBounds_toArray, List.set_cons_zero, List.set_cons_succ]
      refine wpAnyH_ready (rs := [8]) (by kernel_rfl) (by simp) ?_
      refine AllReadyH.cons (o := _) rfl (fun K hK => ?_) AllReadyH.nil
      go_simp
      ((with_reducible refine (Q22.out _ HBC3.out).mono ?_); rintro e wc8 ⟨rfl, hbc8⟩; have HBC8 := Lib.hid hbc8; clear hbc8)
      try go_wp2_with fail
      refine hK.out _ _ ?_ (fun hHelda8 => ?_)
      · (try dsimp only); (first | with_reducible exact HSK.out _ (Below.refl _ _) | with_reducible exact HSK.out _ (bb_drew (Below.refl _ _)) | with_reducible exact HSK.out _ HBC1.out | with_reducible exact HSK.out _ HBC3.out | with_reducible exact HSK.out _ HBC8.out | with_reducible exact HSK.out _ HBC28.out | with_reducible exact HSK.out _ HBC31.out | with_reducible exact HSK.out _ HBC35.out)
      clear hK K hHelda3
      try simp only [Act.put, List.getElem_toArray, List.getElem_cons_zero, List.getElem_cons_succ, List.setIfInBounds_toArray, List.set_cons_zero, List.set_cons_succ]
      refine wpAnyH_take (i := 9) (oi := _) (v := ?av9) rfl (by kernel_rfl) (by kernel_rfl) (by kernel_rfl) (fun _ _ _ h => h) (Or.inl ⟨by rfl, ?ahy9⟩) (by assumption) ?arest9
      case ahy9 => (intro w hSw; (try dsimp only at hSw); go_simp; all_goals with_reducible rfl)
      try simp only [Act.put, List.getElem_toArray, List.getElem_cons_zero, List.getElem_cons_succ, List.setIfInBounds_toArray, List.set_cons_zero, List.set_cons_succ]
      refine wpAnyH_take (i := 10) (oi := _) (v := ?av10) rfl (by kernel_rfl) (by kernel_rfl) (by kernel_rfl) (fun _ _ _ h => h) (Or.inl ⟨by rfl, ?ahy10⟩) (by assumption) ?arest10
      case ahy10 => (intro w hSw; (try dsimp only at hSw); go_simp; all_goals with_reducible rfl)
      try simp only [Act.put, List.getElem_toArray, List.getElem_cons_zero, List.getElem_cons_succ, List.setIfInBounds_toArray, List.set_cons_zero, List.set_cons_succ]
      refine wpAnyH_take (i := 11) (oi := _) (v := ?av11) rfl (by kernel_rfl) (by kernel_rfl) (by kernel_rfl) (fun _ _ _ h => h) (Or.inl ⟨by rfl, ?ahy11⟩) (by assumption) ?arest11
      case ahy11 => (intro w hSw; (try dsimp only at hSw); go_simp; all_goals with_reducible rfl)
      try simp only [Act.put, List.getElem_toArray, List.getElem_cons_zero, List.getElem_cons_succ, List.setIfInBounds_toArray, List.set_cons_zero, List.set_cons_succ]
      refine wpAnyH_take (i := 12) (oi := _) (v := ?av12) rfl (by kernel_rfl) (by kernel_rfl) (by kernel_rfl) (fun _ _ _ h => h) (Or.inl ⟨by rfl, ?ahy12⟩) (by assumption) ?arest12
      case ahy12 => (intro w hSw; (try dsimp only at hSw); go_simp; all_goals with_reducible rfl)
      try simp only [Act.put, List.getElem_toArray, List.getElem_cons_zero, List.getElem_cons_succ, List.setIfInBounds_toArray, List.set_cons_zero, List.set_cons_succ]
      refine wpAnyH_take (i := 13) (oi := _) (v := ?av13) rfl (by kernel_rfl) (by kernel_rfl) (by kernel_rfl) (fun _ _ _ h => h) (Or.inl ⟨by rfl, ?ahy13⟩) (by assumption) ?arest13
      case ahy13 => (intro w hSw; (try dsimp only at hSw); go_simp; all_goals with_reducible rfl)
      try simp only [Act.put, List.getElem_toArray, List.getElem_cons_zero, List.getElem_cons_succ, List.setIfInBounds_toArray, List.set_cons_zero, List.set_cons_succ]
      refine wpAnyH_take (i := 14) (oi := _) (v := ?av14) rfl (by kernel_rfl) (by kernel_rfl) (by kernel_rfl) (fun _ _ _ h => h) (Or.inl ⟨by rfl, ?ahy14⟩) (by assumption) ?arest14
      case ahy14 => (intro w hSw; (try dsimp only at hSw); go_simp; all_goals with_reducible rfl)
      try simp only [Act.put, List.getElem_toArray, List.getElem_cons_zero, List.getElem_cons_succ, List.setIfInBounds_toArray, List.set_cons_zero, List.set_cons_succ]
      refine wpAnyH_take (i := 15) (oi := _) (v := ?av15) rfl (by kernel_rfl) (by kernel_rfl) (by kernel_rfl) (fun _ _ _ h => h) (Or.inl ⟨by rfl, ?ahy15⟩) (by assumption) ?arest15
      case ahy15 => (intro w hSw; (try dsimp only at hSw); go_simp; all_goals with_reducible rfl)
      try simp only [Act.put, List.getElem_toArray, List.getElem_cons_zero, List.getElem_cons_succ, List.setIfInBounds_toArray, List.set_cons_zero, List.set_cons_succ]
      refine wpAnyH_take (i := 16) (oi := _) (v := ?av16) rfl (by kernel_rfl) (by kernel_rfl) (by kernel_rfl) (fun _ _ _ h => h) (Or.inl ⟨by rfl, ?ahy16⟩) (by assumption) ?arest16
      case ahy16 => (intro w hSw; (try dsimp only at hSw); go_simp; all_goals with_reducible rfl)
      try simp only [Act.put, List.getElem_toArray, List.getElem_cons_zero, List.getElem_cons_succ, List.setIfInBounds_toArray, List.set_cons_zero, List.set_cons_succ]
      refine wpAnyH_take (i := 17) (oi := _) (v := ?av17) rfl (by kernel_rfl) (by kernel_rfl) (by kernel_rfl) (fun _ _ _ h => h) (Or.inl ⟨by rfl, ?ahy17⟩) (by assumption) ?arest17
      case ahy17 => (intro w hSw; (try dsimp only at hSw); go_simp; all_goals with_reducible rfl)
      try simp only [Act.put, List.getElem_toArray, List.getElem_cons_zero, List.getElem_cons_succ, List.setIfInBounds_toArray, List.set_cons_zero, List.set_cons_succ]
      refine wpAnyH_take (i := 18) (oi := _) (v := ?av18) rfl (by kernel_rfl) (by kernel_rfl) (by kernel_rfl) (fun _ _ _ h => h) (Or.inl ⟨by rfl, ?ahy18⟩) (by assumption) ?arest18
      case ahy18 => (intro w hSw; (try dsimp only at hSw); go_simp; all_goals with_reducible rfl)
      try simp only [Act.put, List.getElem_toArray, List.getElem_cons_zero, List.getElem_cons_succ, List.setIfInBounds_toArray, List.set_cons_zero, List.set_cons_succ]
      refine wpAnyH_take (i := 19) (oi := _) (v := ?av19) rfl (by kernel_rfl) (by kernel_rfl) (by kernel_rfl) (fun _ _ _ h => h) (Or.inl ⟨by rfl, ?ahy19⟩) (by assumption) ?arest19
      case ahy19 => (intro w hSw; (try dsimp only at hSw); go_simp; all_goals with_reducible rfl)
      try simp only [Act.put, List.getElem_toArray, List.getElem_cons_zero, List.getElem_cons_succ, List.setIfInBounds_toArray, List.set_cons_zero, List.set_cons_succ]
      refine wpAnyH_take (i := 20) (oi := _) (v := ?av20) rfl (by kernel_rfl) (by kernel_rfl) (by kernel_rfl) (fun _ _ _ h => h) (Or.inl ⟨by rfl, ?ahy20⟩) (by assumption) ?arest20
      case ahy20 => (intro w hSw; (try dsimp only at hSw); go_simp; all_goals with_reducible rfl)
      try simp only [Act.put, List.getElem_toArray, List.getElem_cons_zero, List.getElem_cons_succ, List.setIfInBounds_toArray, List.set_cons_zero, List.set_cons_succ]
      refine wpAnyH_take (i := 21) (oi := _) (v := ?av21) rfl (by kernel_rfl) (by kernel_rfl) (by kernel_rfl) (fun _ _ _ h => h) (Or.inl ⟨by rfl, ?ahy21⟩) (by assumption) ?arest21
      case ahy21 => (intro w hSw; (try dsimp only at hSw); go_simp; all_goals with_reducible rfl)
      try simp only [Act.put, List.getElem_toArray, List.getElem_cons_zero, List.getElem_cons_succ, List.setIfInBounds_toArray, List.set_cons_zero, List.set_cons_succ]
      refine wpAnyH_take (i := 22) (oi := _) (v := ?av22) rfl (by kernel_rfl) (by kernel_rfl) (by kernel_rfl) (fun _ _ _ h => h) (Or.inl ⟨by rfl, ?ahy22⟩) (by assumption) ?arest22
      case ahy22 => (intro w hSw; (try dsimp only at hSw); go_simp; all_goals with_reducible rfl)
      try simp only [Act.put, List.getElem_toArray, List.getElem_cons_zero, List.getElem_cons_succ, List.setIfInBounds_toArray, List.set_cons_zero, List.set_cons_succ]
      refine wpAnyH_take (i := 23) (oi := _) (v := ?av23) rfl (by kernel_rfl) (by kernel_rfl) (by kernel_rfl) (fun _ _ _ h => h) (Or.inl ⟨by rfl, ?ahy23⟩) (by assumption) ?arest23
      case ahy23 => (intro w hSw; (try dsimp only at hSw); go_simp; all_goals with_reducible rfl)
      try simp only [Act.put, List.getElem_toArray, List.getElem_cons_zero, List.getElem_cons_succ, List.setIfInBounds_toArray, List.set_cons_zero, List.set_cons_succ]
      refine wpAnyH_take (i := 24) (oi := _) (v := ?av24) rfl (by kernel_rfl) (by kernel_rfl) (by kernel_rfl) (fun _ _ _ h => h) (Or.inl ⟨by rfl, ?ahy24⟩) (by assumption) ?arest24
      case ahy24 => (intro w hSw; (try dsimp only at hSw); go_simp; all_goals with_reducible rfl)
      try simp only [Act.put, List.getElem_toArray, List.getElem_cons_zero, List.getElem_cons_succ, List.setIfInBounds_toArray, List.set_cons_zero, List.set_cons_succ]
      refine wpAnyH_take (i := 25) (oi := _) (v := ?av25) rfl (by kernel_rfl) (by kernel_rfl) (by kernel_rfl) (fun _ _ _ h => h) (Or.inl ⟨by rfl, ?ahy25⟩) (by assumption) ?arest25
      case ahy25 => (intro w hSw; (try dsimp only at hSw); go_simp; all_goals with_reducible rfl)
      try simp only [Act.put, List.getElem_toArray, List.getElem_cons_zero, List.getElem_cons_succ, List.setIfInBounds_toArray, List.set_cons_zero, List.set_cons_succ]
      refine wpAnyH_take (i := 26) (oi := _) (v := ?av26) rfl (by kernel_rfl) (by kernel_rfl) (by kernel_rfl) (fun _ _ _ h => h) (Or.inl ⟨by rfl, ?ahy26⟩) (by assumption) ?arest26
      case ahy26 => (intro w hSw; (try dsimp only at hSw); go_simp; all_goals with_reducible rfl)
      try simp only [Act.put, List.getElem_toArray, List.getElem_cons_zero, List.getElem_cons_succ, List.setIfInBounds_toArray, List.set_cons_zero, List.set_cons_succ]
      refine wpAnyH_take (i := 27) (oi := _) (v := ?av27) rfl (by kernel_rfl) (by kernel_rfl) (by kernel_rfl) (fun _ _ _ h => h) (Or.inl ⟨by rfl, ?ahy27⟩) (by assumption) ?arest27
      case ahy27 => (intro w hSw; (try dsimp only at hSw); go_simp; all_goals with_reducible rfl)
      try simp only [Act.put, List.getElem_toArray, List.getElem_cons_zero, List.getElem_cons_succ, List.setIfInBounds_toArray, List.set_cons_zero, List.set_cons_succ]
      refine wpAnyH_take (i := 29) (oi := _) (v := ?av29) rfl (by kernel_rfl) (by kernel_rfl) (by kernel_rfl) (fun _ _ _ h => h) (Or.inl ⟨by rfl, ?ahy29⟩) (by assumption) ?arest29
      case ahy29 => (intro w hSw; (try dsimp only at hSw); go_simp; all_goals with_reducible rfl)
      try simp only [Act.put, List.getElem_toArray, List.getElem_cons_zero, List.getElem_cons_succ, List.setIfInBounds_toArray, List.set_cons_zero, List.set_cons_succ]
      refine wpAnyH_take (i := 30) (oi := _) (v := ?av30) rfl (by kernel_rfl) (by kernel_rfl) (by kernel_rfl) (fun _ _ _ h => h) (Or.inl ⟨by rfl, ?ahy30⟩) (by assumption) ?arest30
      case ahy30 => (intro w hSw; (try dsimp only at hSw); go_simp; all_goals with_reducible rfl)
      try simp only [Act.put, List.getElem_toArray, List.getElem_cons_zero, List.getElem_cons_succ, List.setIfInBounds_toArray, List.set_cons_zero, List.set_cons_succ]
      refine wpAnyH_ready (rs := [28]) (by kernel_rfl) (by simp) ?_
      refine AllReadyH.cons (o := _) rfl (fun K hK => ?_) AllReadyH.nil
      go_simp
      ((with_reducible refine (Q24.out _ HBC8.out).mono ?_); rintro e wc28 ⟨rfl, hbc28⟩; have HBC28 := Lib.hid hbc28; clear hbc28)
      try go_wp2_with fail
      refine hK.out _ _ ?_ (fun hHelda28 => ?_)
      · (try dsimp only); (first | with_reducible exact HSK.out _ (Below.refl _ _) | with_reducible exact HSK.out _ (bb_drew (Below.refl _ _)) | with_reducible exact HSK.out _ HBC1.out | with_reducible exact HSK.out _ HBC3.out | with_reducible exact HSK.out _ HBC8.out | with_reducible exact HSK.out _ HBC28.out | with_reducible exact HSK.out _ HBC31.out | with_reducible exact HSK.out _ HBC35.out)
      clear hK K hHelda8
      try simp only [Act.put, List.getElem_toArray, List.getElem_cons_zero, List.getElem_cons_succ, List.setIfInBounds_toArray, List.set_cons_zero, List.set_cons_succ]
      refine wpAnyH_ready (rs := [31]) (by kernel_rfl) (by simp) ?_
      refine AllReadyH.cons (o := _) rfl (fun K hK => ?_) AllReadyH.nil
      go_simp
      ((with_reducible refine (Q25.out _ HBC28.out).mono ?_); rintro e wc31 ⟨rfl, hbc31⟩; have HBC31 := Lib.hid hbc31; clear hbc31)
      try go_wp2_with fail
      refine hK.out _ _ ?_ (fun hHelda31 => ?_)
      · (try dsimp only); (first | with_reducible exact HSK.out _ (Below.refl _ _) | with_reducible exact HSK.out _ (bb_drew (Below.refl _ _)) | with_reducible exact HSK.out _ HBC1.out | with_reducible exact HSK.out _ HBC3.out | with_reducible exact HSK.out _ HBC8.out | with_reducible exact HSK.out _ HBC28.out | with_reducible exact HSK.out _ HBC31.out | with_reducible exact HSK.out _ HBC35.out)
      clear hK K hHelda28
      try simp only [Act.put, List.getElem_toArray, List.getElem_cons_zero, List.getElem_cons_succ, List.setIfInBounds_toArray, List.set_cons_zero, List.set_cons_succ]
      refine wpAnyH_take (i := 32) (oi := _) (v := ?av32) rfl (by kernel_rfl) (by kernel_rfl) (by kernel_rfl) (fun _ _ _ h => h) (Or.inl ⟨by rfl, ?ahy32⟩) (by assumption) ?arest32
      case ahy32 => (intro w hSw; (try dsimp only at hSw); go_simp; all_goals with_reducible rfl)
      try simp only [Act.put, List.getElem_toArray, List.getElem_cons_zero, List.getElem_cons_succ, List.setIfInBounds_toArray, List.set_cons_zero, List.set_cons_succ]
      refine wpAnyH_take (i := 33) (oi := _) (v := ?av33) rfl (by kernel_rfl) (by kernel_rfl) (by kernel_rfl) (fun _ _ _ h => h) (Or.inl ⟨by rfl, ?ahy33⟩) (by assumption) ?arest33
      case ahy33 => (intro w hSw; (try dsimp only at hSw); go_simp; all_goals with_reducible rfl)
      try simp only [Act.put, List.getElem_toArray, List.getElem_cons_zero, List.getElem_cons_succ, List.setIfInBounds_toArray, List.set_cons_zero, List.set_cons_succ]
      refine wpAnyH_take (i := 34) (oi := _) (v := ?av34) rfl (by kernel_rfl) (by kernel_rfl) (by kernel_rfl) (fun _ _ _ h => h) (Or.inl ⟨by rfl, ?ahy34⟩) (by assumption) ?arest34
      case ahy34 => (intro w hSw; (try dsimp only at hSw); go_simp; all_goals with_reducible rfl)
      try simp only [Act.put, List.getElem_toArray, List.getElem_cons_zero, List.getElem_cons_succ, List.setIfInBounds_toArray, List.set_cons_zero, List.set_cons_succ]
      refine wpAnyH_ready (rs := [35]) (by kernel_rfl) (by simp) ?_
      refine AllReadyH.cons (o := _) rfl (fun K hK => ?_) AllReadyH.nil
      go_simp
      ((with_reducible refine (Q11.out _ HBC31.out).mono ?_); rintro e wc35 ⟨rfl, hbc35⟩; have HBC35 := Lib.hid hbc35; clear hbc35)
      try go_wp2_with fail
      refine hK.out _ _ ?_ (fun hHelda35 => ?_)
      · (try dsimp only); (first | with_reducible exact HSK.out _ (Below.refl _ _) | with_reducible exact HSK.out _ (bb_drew (Below.refl _ _)) | with_reducible exact HSK.out _ HBC1.out | with_reducible exact HSK.out _ HBC3.out | with_reducible exact HSK.out _ HBC8.out | with_reducible exact HSK.out _ HBC28.out | with_reducible exact HSK.out _ HBC31.out | with_reducible exact HSK.out _ HBC35.out)
      clear hK K hHelda31
      try simp only [Act.put, List.getElem_toArray, List.getElem_cons_zero, List.getElem_cons_succ, List.setIfInBounds_toArray, List.set_cons_zero, List.set_cons_succ]
      refine wpAnyH_take (i := 36) (oi := _) (v := ?av36) rfl (by kernel_rfl) (by kernel_rfl) (by kernel_rfl) (fun _ _ _ h => h) (Or.inl ⟨by rfl, ?ahy36⟩) (by assumption) ?arest36
      case ahy36 => (intro w hSw; (try dsimp only at hSw); go_simp; all_goals with_reducible rfl)
      try simp only [Act.put, List.getElem_toArray, List.getElem_cons_zero, List.getElem_cons_succ, List.setIfInBounds_toArray, List.set_cons_zero, List.set_cons_succ]
      refine wpAnyH_take (i := 37) (oi := _) (v := ?av37) rfl (by kernel_rfl) (by kernel_rfl) (by kernel_rfl) (fun _ _ _ h => h) (Or.inl ⟨by rfl, ?ahy37⟩) (by assumption) ?arest37
      case ahy37 => (intro w hSw; (try dsimp only at hSw); go_simp; all_goals with_reducible rfl)
      try simp only [Act.put, List.getElem_toArray, List.getElem_cons_zero, List.getElem_cons_succ, List.setIfInBounds_toArray, List.set_cons_zero, List.set_cons_succ]
      refine wpAnyH_done (by kernel_rfl) ?_ _
      go_wp2_with fail
      go_ret
      exact ⟨rfl, H7.out.trans (HBC35.out.mono H7.out.size)⟩

end Go.Proofs.Ythebembnlmddoaa
