import Derived.Test.YthebembnlmddoaaBC
namespace Go.Proofs.Ythebembnlmddoaa
open Go.RowKit
set_option maxHeartbeats 16000000
set_option maxRecDepth 100000
set_option linter.unusedSimpArgs false
set_option linter.unusedVariables false

/-- slices.Equal of the same numbers twice -/
theorem equalN_calls (xs : List Nat) (A B : Option Addr) (c c' : Nat) (w : World) (hA : Rd encN 1 w A xs) (hB : Rd encN 1 w B xs) :
    Calls Try.prog 23 #[.slice A xs.length c, .slice B xs.length c'] w fun e w' => e = .returned (.bool true) ∧ Below w.heap.size w w' := by
  have hsm := hA.small
  have HR := Lib.hid (And.intro hA hB)
  clear hA hB
  go_enter Try.func23, Try.ntmps23
  go_wp2_with fail
  go_loopg [5, 13, 14, 15, 16, 17, 18, 19, 20, 21, 22, 23, 24, 25] xs.length (fun gk v5 v13 v14 v15 v16 v17 v18 v19 v20 v21 v22 v23 v24 v25 wr => ∃ k : Nat, k + gk = xs.length ∧ v13 = .int .i64 (k : Int) ∧ Below w.heap.size w wr)
  case atStart => exact ⟨0, by omega, rfl, Below.refl _ _⟩
  case round =>
    obtain ⟨k, hk, rfl, hbl⟩ := hrel
    by_cases hlt : k < xs.length
    · have hd : decide (k < xs.length) = true := decide_eq_true hlt
      obtain ⟨a, rfl, h1⟩ := (HR.out.1.below hbl).cell k hlt
      obtain ⟨b, rfl, h2⟩ := (HR.out.2.below hbl).cell k hlt
      have x1 := h1 0 _ rfl
      have x2 := h2 0 _ rfl
      rw [Nat.mul_one, Nat.add_zero] at x1 x2
      generalize xs[k] = x at *
      have HB := Lib.hid hbl
      have hki : (k : Int) < (xs.length : Int) := by omega
      clear hbl h1 h2
      go_upto_region 6 with fail
      go_quiet (fail)
      go_wp2_with fail
      go_roundg (gk - 1)
      case measure => omega
      case rel => exact ⟨k + 1, by omega, by go_num, drewN_below HB.out _⟩
    · have hd : decide (k < xs.length) = false := decide_eq_false hlt
      have HB := Lib.hid hbl
      clear hbl
      go_wp2_with fail
      go_ret
      exact ⟨rfl, HB.out⟩
/-- HappenRaces$1 of the same race twice -/
theorem sameR_calls (x : Nat × Nat) (w : World) : Calls Try.prog 38 #[.agg #[.int .i64 (x.1 : Int), .int .i64 (x.2 : Int)], .agg #[.int .i64 (x.1 : Int), .int .i64 (x.2 : Int)]] w fun e w' => e = .returned (.bool true) ∧ Below w.heap.size w w' := by
  have hb : Below w.heap.size w ((w.alloc (.cells #[.int .i64 (x.1 : Int), .int .i64 (x.2 : Int)] 29)).alloc (.cells #[.int .i64 (x.1 : Int), .int .i64 (x.2 : Int)] 74)) := ((Below.refl _ w).alloc (Nat.le_refl _) _).alloc (by simp) _
  have HB := Lib.hid hb
  have heq := fun w => run_eq29 x x w
  rw [decide_eq_true rfl] at heq
  clear hb
  go_enter Try.func38, Try.ntmps38
  go_wp2_with fail
  go_ret
  exact ⟨rfl, HB.out⟩
/-- slices.EqualFunc of the same races twice -/
theorem equalR_calls (xs : List (Nat × Nat)) (A B : Option Addr) (c c' : Nat) (w : World) (hA : Rd encRC 2 w A xs) (hB : Rd encRC 2 w B xs) :
    Calls Try.prog 37 #[.slice A xs.length c, .slice B xs.length c', .func (.func 38) #[] #[]] w fun e w' => e = .returned (.bool true) ∧ Below w.heap.size w w' := by
  have hsm := hA.small
  have HR := Lib.hid (And.intro hA hB)
  have hs := fun x w => sameR_calls x w
  have HS := Lib.hid hs
  clear hA hB hs
  go_enter Try.func37, Try.ntmps37
  go_wp2_with fail
  go_loopg [7, 8, 9, 17, 18, 19, 20, 21, 22, 23, 24, 25, 26, 27, 28, 29, 30, 31] xs.length (fun gk v7 v8 v9 v17 v18 v19 v20 v21 v22 v23 v24 v25 v26 v27 v28 v29 v30 v31 wr => ∃ k : Nat, k + gk = xs.length ∧ v17 = .int .i64 (k : Int) ∧ Below w.heap.size w wr)
  case atStart => exact ⟨0, by omega, rfl, Below.refl _ _⟩
  case round =>
    obtain ⟨k, hk, rfl, hbl⟩ := hrel
    obtain ⟨wq, hwq⟩ : ∃ wq, wq = wr := ⟨_, rfl⟩
    subst hwq
    by_cases hlt : k < xs.length
    · have hd : decide (k < xs.length) = true := decide_eq_true hlt
      obtain ⟨a, rfl, h1⟩ := (HR.out.1.below hbl).cell k hlt
      obtain ⟨b, rfl, h2⟩ := (HR.out.2.below hbl).cell k hlt
      have x0 := h1 0 _ rfl
      have x1 := h1 1 _ rfl
      have z0 := h2 0 _ rfl
      have z1 := h2 1 _ rfl
      rw [Nat.add_zero] at x0 z0
      rw [add_field _ _ _ (by decide)] at x1 z1
      generalize xs[k] = x at *
      have hki : (k : Int) < (xs.length : Int) := by omega
      obtain ⟨W2, hW2⟩ : ∃ W2, wq.alloc (.cells #[.int .i64 (x.1 : Int), .int .i64 (x.2 : Int)] 29) = W2 := ⟨_, rfl⟩
      have hb2 : Below wq.heap.size wq W2 := by rw [← hW2]; exact (Below.refl _ wq).alloc (Nat.le_refl _) _
      have hbx : W2.heap[wq.heap.size]? = some (.cells #[.int .i64 (x.1 : Int), .int .i64 (x.2 : Int)] 29 (0, 0)) := by rw [← hW2]; exact Go.heap_alloc_new wq _
      have z0' := (hb2.cell (World.block_lt_of_cell? _ _ z0)).trans z0
      have z1' := (hb2.cell (World.block_lt_of_cell? _ _ z1)).trans z1
      have hb3 : Below W2.heap.size W2 (W2.alloc (.cells #[.int .i64 (x.1 : Int), .int .i64 (x.2 : Int)] 74)) := (Below.refl _ W2).alloc (Nat.le_refl _) _
      have hbx3 := (hb3.block _ (Array.getElem?_eq_some_iff.1 hbx).1).trans hbx
      obtain ⟨W3, hW3⟩ : ∃ W3, W2.alloc (.cells #[.int .i64 (x.1 : Int), .int .i64 (x.2 : Int)] 74) = W3 := ⟨_, rfl⟩
      have hby : W3.heap[W2.heap.size]? = some (.cells #[.int .i64 (x.1 : Int), .int .i64 (x.2 : Int)] 74 (0, 0)) := by rw [← hW3]; exact Go.heap_alloc_new W2 _
      rw [hW3] at hb3 hbx3
      have HB := Lib.hid (hbl.trans ((hb2.trans (hb3.mono hb2.size)).mono hbl.size))
      have HW := Lib.hid (And.intro hW2 hW3)
      have b0 := cell_of_row _ wq.heap.size 0 _ _ _ hbx3
      have b1 := cell_of_row _ wq.heap.size 1 _ _ _ hbx3
      have b2 := cell_of_row _ W2.heap.size 0 _ _ _ hby
      have b3 := cell_of_row _ W2.heap.size 1 _ _ _ hby
      simp at b0 b1 b2 b3
      clear hbl h1 h2 hb2 hb3 hbx hbx3 hby hW2 hW3
      go_upto_region 6 with fail
      rw [HW.out.1]
      clear x0 x1 z0 z1
      go_upto_region 7 with fail
      rw [HW.out.2]
      clear z0' z1'
      go_wp2_with ((with_reducible refine (HS.out x _).mono ?_); rintro e w5 ⟨rfl, hb5⟩; have HB5 := Lib.hid (HB.out.trans (hb5.mono HB.out.size)); clear hb5)
      go_roundg (gk - 1)
      case measure => omega
      case rel => exact ⟨k + 1, by omega, by go_num, HB5.out⟩
    · have hd : decide (k < xs.length) = false := decide_eq_false hlt
      have HB := Lib.hid hbl
      clear hbl
      go_wp2_with fail
      go_ret
      exact ⟨rfl, HB.out⟩
theorem happenRaces_calls (l : List Ev) (hok : ∀ e ∈ l, e.ok) (r1 r2 : Int) (A : Option Addr) (c : Nat) (w : World) (hA : Rd encE 11 w A l) :
    Calls Try.prog 8 #[.slice A l.length c, .agg #[.int .i64 r1, .int .i64 r2]] w fun e w' => e = .returned (.bool true) ∧ Below w.heap.size w w' := by
  have hsm := hA.small
  obtain ⟨W1, hW1⟩ : ∃ W1, w.alloc (.cells #[.int .i64 r1, .int .i64 r2] 74) = W1 := ⟨_, rfl⟩
  have hb1 : Below w.heap.size w W1 := by rw [← hW1]; exact (Below.refl _ w).alloc (Nat.le_refl _) _
  have hbx : W1.heap[w.heap.size]? = some (.cells #[.int .i64 r1, .int .i64 r2] 74 (0, 0)) := by rw [← hW1]; exact Go.heap_alloc_new w _
  have HR := Lib.hid (And.intro hA hok)
  have HW := Lib.hid hW1
  have H1 := Lib.hid (And.intro hb1 hbx)
  have ha := fun w => awake_calls w
  have HA := Lib.hid ha
  clear ha hA hok hW1 hb1 hbx
  go_enter Try.func8, Try.ntmps8
  go_upto_region 1 with fail
  rw [HW.out]
  by_cases h80 : 80 < l.length
  · have d1 : decide (80 < l.length) = true := decide_eq_true h80
    have d2 : decide ((80 : Int) < (l.length : Int)) = true := decide_eq_true (by omega)
    go_wp2_with fail
    (with_reducible refine (HA.out _).mono ?_); rintro e w2 ⟨rfl, hb2⟩
    have H2 := Lib.hid (H1.out.1.trans (hb2.mono H1.out.1.size))
    clear hb2
    go_wp2_with fail
    go_ret
    exact ⟨rfl, H2.out⟩
  · have d1 : decide (80 < l.length) = false := decide_eq_false h80
    have d2 : decide ((80 : Int) < (l.length : Int)) = false := decide_eq_false (by omega)
    have hl80 : l.length ≤ 80 := by omega
    have ho := own_calls l A c W1 (HR.out.1.below H1.out.1) (by omega)
    have HO := Lib.hid ho
    obtain ⟨bx, hbx⟩ : ∃ bx, w.heap.size = bx := ⟨_, rfl⟩
    rw [hbx] at H1 ⊢
    have HBX := Lib.hid hbx
    clear ho hbx h80
    go_wp2_with fail
    (with_reducible refine (HO.out).mono ?_); rintro e w2 ⟨v, rfl, hown, hb2⟩
    obtain ⟨B, cp, rfl, hbc, hrd, _⟩ := hown.form lenE
    have hsz1 : bx ≤ W1.heap.size := by rw [← HBX.out]; have := H1.out.1.size; exact this
    have hlo2 : Below w.heap.size w w2 := by rw [HBX.out]; exact H1.out.1.trans (hb2.mono hsz1)
    have hbx2 := (hb2.block _ (Array.getElem?_eq_some_iff.1 H1.out.2).1).trans H1.out.2
    have hra := allraces_calls l HR.out.2 hl80 B cp hbc w2 hrd
    have HRA := Lib.hid hra
    have H2 := Lib.hid (And.intro hrd (And.intro hbc (And.intro hlo2 hbx2)))
    clear hra hown hbc hrd hlo2 hbx2 hb2 hsz1
    go_wp2_with fail
    (with_reducible refine (HRA.out).mono ?_); rintro e w3 ⟨v3, rfl, ho3, hb3⟩
    have hlo3 := H2.out.2.2.1.trans (hb3.mono H2.out.2.2.1.size)
    have hrb := racesR_calls l hl80 A c w3 (HR.out.1.below hlo3)
    have HRB := Lib.hid hrb
    have H3 := Lib.hid (And.intro ho3 (And.intro hlo3 ((hb3.block _ (Array.getElem?_eq_some_iff.1 H2.out.2.2.2).1).trans H2.out.2.2.2)))
    have HB3 := Lib.hid hb3
    clear hrb ho3 hlo3 hb3
    go_wp2_with fail
    (with_reducible refine (HRB.out).mono ?_); rintro e w4 ⟨v4, rfl, ho4, hb4⟩
    have hlo4 := H3.out.2.1.trans (hb4.mono H3.out.2.1.size)
    have hrd4 := (H2.out.1.below HB3.out).below hb4
    have hfc := first_calls l HR.out.2 B cp H2.out.2.1 w4 hrd4
    have hfr : ∀ w', Below w.heap.size w w' → Calls Try.prog 34 #[.slice A l.length c] w' (FPost l w') := fun w' h => firstR_calls l A c w' (HR.out.1.below h)
    unfold FPost at hfc hfr
    generalize (firstF l).1 = f1 at *
    generalize (firstF l).2.1 = f2 at *
    generalize (firstF l).2.2.1 = f3 at *
    generalize (firstF l).2.2.2 = f4 at *
    have HFC := Lib.hid hfc
    have HFR := Lib.hid hfr
    obtain ⟨xs, hxs⟩ : ∃ xs, (if chkF l = 0 then racesF l else []) = xs := ⟨_, rfl⟩
    have ho3 := H3.out.1
    rw [hxs] at ho3 ho4
    obtain ⟨S3, c3, rfl, _, hr3, _⟩ := ho3.form lenRC
    obtain ⟨S4, c4, rfl, _, hr4, _⟩ := ho4.form lenRC
    have H4 := Lib.hid (And.intro (hr3.below hb4) (And.intro hr4 (And.intro hlo4 (And.intro ((hb4.block _ (Array.getElem?_eq_some_iff.1 H3.out.2.2).1).trans H3.out.2.2) hrd4))))
    clear hfc hfr hxs ho3 ho4 hr3 hr4 hlo4 hrd4 hb4
    go_wp2_with fail
    (with_reducible refine (HFC.out).mono ?_); rintro e w5 ⟨rfl, hb5⟩
    obtain ⟨W6, hW6⟩ : ∃ W6, w5.alloc (.cells #[.int .i64 f1, .int .i64 f2] 29) = W6 := ⟨_, rfl⟩
    have hb6 : Below w5.heap.size w5 W6 := by rw [← hW6]; exact (Below.refl _ _).alloc (Nat.le_refl _) _
    have hby : W6.heap[w5.heap.size]? = some (.cells #[.int .i64 f1, .int .i64 f2] 29 (0, 0)) := by rw [← hW6]; exact Go.heap_alloc_new w5 _
    have hb46 := hb5.trans (hb6.mono hb5.size)
    have hlo6 := H4.out.2.2.1.trans (hb46.mono H4.out.2.2.1.size)
    have hfr := HFR.out W6 hlo6
    have HFR6 := Lib.hid hfr
    have H6 := Lib.hid (And.intro hb46 (And.intro hlo6 hby))
    have HW6 := Lib.hid hW6
    clear hb5 hW6 hb6 hby hb46 hlo6 hfr
    go_upto_region 7 with fail
    rw [HW6.out]
    go_wp2_with fail
    (with_reducible refine (HFR6.out).mono ?_); rintro e w7 ⟨rfl, hb7⟩
    obtain ⟨W8, hW8⟩ : ∃ W8, w7.alloc (.cells #[.int .i64 f1, .int .i64 f2] 74) = W8 := ⟨_, rfl⟩
    have hb8 : Below w7.heap.size w7 W8 := by rw [← hW8]; exact (Below.refl _ _).alloc (Nat.le_refl _) _
    have hbz : W8.heap[w7.heap.size]? = some (.cells #[.int .i64 f1, .int .i64 f2] 74 (0, 0)) := by rw [← hW8]; exact Go.heap_alloc_new w7 _
    have hb68 := hb7.trans (hb8.mono hb7.size)
    have hb48 := H6.out.1.trans (hb68.mono H6.out.1.size)
    have hlo8 := H6.out.2.1.trans (hb68.mono H6.out.2.1.size)
    have hby8 := (hb68.block _ (Array.getElem?_eq_some_iff.1 H6.out.2.2).1).trans H6.out.2.2
    have hbx8 := (hb48.block _ (Array.getElem?_eq_some_iff.1 H4.out.2.2.2.1).1).trans H4.out.2.2.2.1
    have hwt := witness_calls l HR.out.2 hl80 r1 r2 B cp W8 (H4.out.2.2.2.2.below hb48)
    have HWT := Lib.hid hwt
    have H8 := Lib.hid (And.intro (H4.out.1.below hb48) (And.intro (H4.out.2.1.below hb48) (And.intro hlo8 (And.intro hby8 (And.intro hbx8 hbz)))))
    have HW8 := Lib.hid hW8
    clear hb7 hW8 hb8 hb68 hb48 hlo8 hby8 hwt hbz
    have y0 := cell_of_row _ bx 0 _ _ _ hbx8
    have y1 := cell_of_row _ bx 1 _ _ _ hbx8
    simp at y0 y1
    clear hbx8
    go_upto_region 8 with fail
    rw [HW8.out]
    go_wp2_with fail
    (with_reducible refine (HWT.out).mono ?_); rintro e w9 ⟨v9, rfl, ho9, hb9⟩
    have hlo9 := H8.out.2.2.1.trans (hb9.mono H8.out.2.2.1.size)
    have hwr := witnessR_calls l hl80 r1 r2 A c w9 (HR.out.1.below hlo9)
    have HWR := Lib.hid hwr
    have y0 := (hb9.cell (World.block_lt_of_cell? _ _ y0)).trans y0
    have y1 := (hb9.cell (World.block_lt_of_cell? _ _ y1)).trans y1
    have H9 := Lib.hid (And.intro ho9 (And.intro hlo9 hb9))
    clear ho9 hlo9 hb9 hwr
    go_wp2_with fail
    (with_reducible refine (HWR.out).mono ?_); rintro e w10 ⟨v10, rfl, ho10, hb10⟩
    have hb810 := H9.out.2.2.trans (hb10.mono H9.out.2.2.size)
    have hlo10 := H8.out.2.2.1.trans (hb810.mono H8.out.2.2.1.size)
    have hby10 := (hb810.block _ (Array.getElem?_eq_some_iff.1 H8.out.2.2.2.1).1).trans H8.out.2.2.2.1
    have hbz10 := (hb810.block _ (Array.getElem?_eq_some_iff.1 H8.out.2.2.2.2.2).1).trans H8.out.2.2.2.2.2
    obtain ⟨ys, hys⟩ : ∃ ys, (if witE l r1 r2 = 0 then witL l r1.toNat r2.toNat else []) = ys := ⟨_, rfl⟩
    have ho9 := H9.out.1
    rw [hys] at ho9 ho10
    obtain ⟨S9, c9, rfl, _, hr9, _⟩ := ho9.form lenN
    obtain ⟨S10, c10, rfl, _, hr10, _⟩ := ho10.form lenN
    have heq := equalR_calls xs S3 S4 c3 c4 w10 (H8.out.1.below hb810) (H8.out.2.1.below hb810)
    have HEQ := Lib.hid heq
    have H10 := Lib.hid (And.intro (hr9.below hb10) (And.intro hr10 (And.intro hlo10 (And.intro hby10 hbz10))))
    generalize witE l r1 r2 = we at *
    generalize chkF l = ck at *
    clear ho9 ho10 hys hr9 hr10 hb10 hb810 hlo10 heq y0 y1 hby10 hbz10
    go_wp2_with fail
    (with_reducible refine (HEQ.out).mono ?_); rintro e w11 ⟨rfl, hb11⟩
    have hby11 := (hb11.block _ (Array.getElem?_eq_some_iff.1 H10.out.2.2.2.1).1).trans H10.out.2.2.2.1
    have hbz11 := (hb11.block _ (Array.getElem?_eq_some_iff.1 H10.out.2.2.2.2).1).trans H10.out.2.2.2.2
    have z0 := cell_of_row _ w5.heap.size 0 _ _ _ hby11
    have z1 := cell_of_row _ w5.heap.size 1 _ _ _ hby11
    have z2 := cell_of_row _ w7.heap.size 0 _ _ _ hbz11
    have z3 := cell_of_row _ w7.heap.size 1 _ _ _ hbz11
    simp at z0 z1 z2 z3
    have hen := equalN_calls ys S9 S10 c9 c10 w11 (H10.out.1.below hb11) (H10.out.2.1.below hb11)
    have HEN := Lib.hid hen
    have heq29 : ∀ w, (binOp .eql 29 (.agg #[.int .i64 f1, .int .i64 f2]) (.agg #[.int .i64 f1, .int .i64 f2])).run Try.prog w = .ok (.bool true) w := fun w => by
      rw [run_eql_struct, eq29 9998]
      simp
    have H11 := Lib.hid (H10.out.2.2.1.trans (hb11.mono H10.out.2.2.1.size))
    clear hb11 hby11 hbz11 hen
    cases f3 <;> (
      go_wp2_with fail
      (with_reducible refine (HEN.out).mono ?_); rintro e w12 ⟨rfl, hb12⟩
      have H12 := Lib.hid (H11.out.trans (hb12.mono H11.out.size))
      clear hb12
      go_wp2_with fail
      (with_reducible refine (HA.out _).mono ?_); rintro e w13 ⟨rfl, hb13⟩
      have H13 := Lib.hid (H12.out.trans (hb13.mono H12.out.size))
      clear hb13
      go_wp2_with fail
      go_ret
      exact ⟨rfl, H13.out⟩)
end Go.Proofs.Ythebembnlmddoaa
