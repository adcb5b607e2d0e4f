import Derived.Test.YthccnaemocdcbaaAF
import Derived.Test.YthccnaemocdcbaaH
namespace Go.Proofs.Ythccnaemocdcbaa
open Go.RowKit Go.Maps Go.WideMaps
set_option maxHeartbeats 4000000
set_option maxRecDepth 100000
set_option linter.unusedSimpArgs false
set_option linter.unusedVariables false

theorem rproduct_calls (rows parts : Int) (m : List En) (v : List Int) (A V : Option Addr) (ca cv : Nat) (w : World) (hA : Rd encN 3 w A m) (hV : Rd encI 1 w V v) :
    Calls Try.prog 17 #[.int .i64 rows, .slice A m.length ca, .slice V v.length cv, .int .i64 parts] w (ProdPost (prodO rows m v parts) (prodT rows m v parts) (prodC rows m v parts) w) := by
  by_cases h1 : rows < 0 ∨ 1024 < rows ∨ parts < 1 ∨ 16 < parts
  · have hc : prodC rows m v parts = 4 := by unfold prodC; rw [if_pos h1]
    unfold prodO prodT
    rw [hc]
    exact rproduct_err4 rows parts h1 _ _ _ _ _ _ _
  · have hr : 0 ≤ rows ∧ rows ≤ 1024 ∧ 1 ≤ parts ∧ parts ≤ 16 := by omega
    by_cases h2 : 1024 < v.length
    · have hc : prodC rows m v parts = 410 := by unfold prodC; rw [if_neg h1, if_pos h2]
      unfold prodO prodT
      rw [hc]
      exact rproduct_err410 rows parts hr _ _ _ _ h2 hV.small _ _ _
    · by_cases h3 : 5000 < m.length
      · have hc : prodC rows m v parts = 5 := by unfold prodC; rw [if_neg h1, if_neg h2, if_pos h3]
        unfold prodO prodT
        rw [hc]
        exact rproduct_err5 rows parts hr _ _ _ _ (by omega) h3 hA.small _ _ _
      · obtain ⟨R, rfl⟩ := Int.eq_ofNat_of_zero_le hr.1
        obtain ⟨P, rfl⟩ := Int.eq_ofNat_of_zero_le (show 0 ≤ parts by omega)
        exact rproduct_calls1 R P (by omega) (by omega) (by omega) m v (by omega) (by omega) A V ca cv w hA hV

theorem products_early (rows parts : Int) (lm lv cm cv : Nat) (hlm : lm ≤ maxLen) (hlv : lv ≤ maxLen) (h : (100 < lm ∧ lm ≤ 5000) ∨ 5002 < lm ∨ (60 < lv ∧ lv ≤ 1024) ∨ 1026 < lv) (A V : Option Addr) (w : World) :
    Calls Try.prog 5 #[.int .i64 rows, .slice A lm cm, .slice V lv cv, .int .i64 parts] w fun e w' => e = .returned (.bool true) ∧ Below w.heap.size w w' := by
  have ha := fun w => awake_calls w
  have HA := Lib.hid ha
  clear ha
  unfold maxLen at *
  by_cases h1 : 100 < lm
  · by_cases h2 : lm ≤ 5000
    · have hd1 : decide (100 < lm) = true := decide_eq_true h1
      have hd2 : decide (lm ≤ 5000) = true := decide_eq_true h2
      go_enter Try.func5, Try.ntmps5
      go_wp2_with ((with_reducible refine (HA.out _).mono ?_); rintro e w1 ⟨rfl, hb1⟩)
      go_ret
      exact ⟨rfl, hb1⟩
    · have hd1 : decide (100 < lm) = true := decide_eq_true h1
      have hd2 : decide (lm ≤ 5000) = false := decide_eq_false h2
      by_cases h3 : 5002 < lm
      · have hd3 : decide (5002 < lm) = true := decide_eq_true h3
        go_enter Try.func5, Try.ntmps5
        go_wp2_with ((with_reducible refine (HA.out _).mono ?_); rintro e w1 ⟨rfl, hb1⟩)
        go_ret
        exact ⟨rfl, hb1⟩
      · have hd3 : decide (5002 < lm) = false := decide_eq_false h3
        by_cases h4 : 60 < lv
        · by_cases h5 : lv ≤ 1024
          · go_enter Try.func5, Try.ntmps5
            go_wp2_with ((with_reducible refine (HA.out _).mono ?_); rintro e w1 ⟨rfl, hb1⟩)
            go_ret
            exact ⟨rfl, hb1⟩
          · have h6 : 1026 < lv := by omega
            go_enter Try.func5, Try.ntmps5
            go_wp2_with ((with_reducible refine (HA.out _).mono ?_); rintro e w1 ⟨rfl, hb1⟩)
            go_ret
            exact ⟨rfl, hb1⟩
        · exfalso; omega
  · have hd1 : decide (100 < lm) = false := decide_eq_false h1
    have hd3 : decide (5002 < lm) = false := decide_eq_false (by omega)
    by_cases h4 : 60 < lv
    · by_cases h5 : lv ≤ 1024
      · go_enter Try.func5, Try.ntmps5
        go_wp2_with ((with_reducible refine (HA.out _).mono ?_); rintro e w1 ⟨rfl, hb1⟩)
        go_ret
        exact ⟨rfl, hb1⟩
      · have h6 : 1026 < lv := by omega
        go_enter Try.func5, Try.ntmps5
        go_wp2_with ((with_reducible refine (HA.out _).mono ?_); rintro e w1 ⟨rfl, hb1⟩)
        go_ret
        exact ⟨rfl, hb1⟩
    · exfalso; omega
theorem products_calls (rows parts : Int) (m : List En) (v : List Int) (h : ¬ ((100 < m.length ∧ m.length ≤ 5000) ∨ 5002 < m.length ∨ (60 < v.length ∧ v.length ≤ 1024) ∨ 1026 < v.length))
    (A V : Option Addr) (cm cv : Nat) (w : World) (hA : Rd encN 3 w A m) (hV : Rd encI 1 w V v) :
    Calls Try.prog 5 #[.int .i64 rows, .slice A m.length cm, .slice V v.length cv, .int .i64 parts] w fun e w' => e = .returned (.bool true) ∧ Below w.heap.size w w' := by
  have hent := entries_calls A m cm w hA (by omega)
  have hsm := hA.small
  have hsv := hV.small
  have hp := fun A' ca (w' : World) (hb : Below w.heap.size w w') (h : Rd encN 3 w' A' m) => product_calls rows parts m v A' V ca cv w' h (hV.below hb)
  have hr := fun (w' : World) (hb : Below w.heap.size w w') => rproduct_calls rows parts m v A V cm cv w' (hA.below hb) (hV.below hb)
  have hpre := fun (w' : World) (hb : Below w.heap.size w w') => prefix_calls v V cv w' (hV.below hb)
  have hrpre := fun (w' : World) (hb : Below w.heap.size w w') => rprefix_calls v V cv w' (hV.below hb)
  have hint := fun xs A A' c c' w h h' => ints_calls xs A A' c c' w h h'
  have ha := fun w => awake_calls w
  have HA := Lib.hid ha
  have HI := Lib.hid hint
  have H1 := Lib.hid hent
  have H2 := Lib.hid hp
  have H3 := Lib.hid hr
  have H4 := Lib.hid hpre
  have H5 := Lib.hid hrpre
  generalize prodC rows m v parts = C at *
  generalize prodO rows m v parts = O at *
  generalize prodT rows m v parts = T at *
  generalize preC v = pc at *
  generalize preO v = po at *
  generalize preK v = pk at *
  clear ha hint hent hp hr hpre hrpre hA hV
  generalize hlm : m.length = lm at *
  generalize hlv : v.length = lv at *
  have HM := Lib.hid hlm
  clear hlm hlv
  have hc : (lm ≤ 100 ∨ (5000 < lm ∧ lm ≤ 5002)) ∧ (lv ≤ 60 ∨ (1024 < lv ∧ lv ≤ 1026)) := by omega
  clear h
  obtain ⟨hc1 | hc1, hc2 | hc2⟩ := hc
  · have hd1 : decide (100 < lm) = false := decide_eq_false (by omega)
    have hd2 : decide (5002 < lm) = false := decide_eq_false (by omega)
    have hd3 : decide (60 < lv) = false := decide_eq_false (by omega)
    have hd4 : decide (1026 < lv) = false := decide_eq_false (by omega)
    go_enter Try.func5, Try.ntmps5
    go_wp2_with fail
    (with_reducible refine (H1.out).mono ?_); rintro e w1 ⟨v1, rfl, hown1, hb1⟩
    obtain ⟨A1, k1, rfl, hr1⟩ := hown1.rd lenN
    rw [HM.out]
    have G1 := Lib.hid (And.intro hr1 hb1)
    clear hown1 hr1 hb1
    go_wp2_with fail
    (with_reducible refine (H2.out A1 k1 w1 G1.out.2 G1.out.1).mono ?_); rintro e w2 ⟨vo1, vf1, rfl, o1, o1', hb2⟩
    obtain ⟨B1, j1, rfl, r1⟩ := o1.rd lenI
    obtain ⟨B2, j2, rfl, r2⟩ := o1'.rd lenI
    have G2 := Lib.hid (And.intro (G1.out.2.trans (hb2.mono G1.out.2.size)) (And.intro r1 r2))
    clear o1 o1' r1 r2 hb2
    go_wp2_with fail
    (with_reducible refine (H3.out w2 G2.out.1).mono ?_); rintro e w3 ⟨vo1, vf1, rfl, o1, o1', hb2⟩
    obtain ⟨B3, j3, rfl, r1⟩ := o1.rd lenI
    obtain ⟨B4, j4, rfl, r2⟩ := o1'.rd lenI
    have G3 := Lib.hid (And.intro (G2.out.1.trans (hb2.mono G2.out.1.size)) (And.intro (G2.out.2.1.below hb2) (And.intro (G2.out.2.2.below hb2) (And.intro r1 r2))))
    clear o1 o1' r1 r2 hb2
    go_wp2_with fail
    (with_reducible refine (HI.out O B1 B3 j1 j3 w3 G3.out.2.1 G3.out.2.2.2.1).mono ?_); rintro e w4 ⟨rfl, hb2⟩
    have G4 := Lib.hid (And.intro (G3.out.1.trans (hb2.mono G3.out.1.size)) (And.intro (G3.out.2.2.1.below hb2) (G3.out.2.2.2.2.below hb2)))
    clear hb2
    go_wp2_with fail
    (with_reducible refine (HI.out T B2 B4 j2 j4 w4 G4.out.2.1 G4.out.2.2).mono ?_); rintro e w5 ⟨rfl, hb2⟩
    have G5 := Lib.hid (G4.out.1.trans (hb2.mono G4.out.1.size))
    clear hb2
    go_wp2_with fail
    (with_reducible refine (H4.out w5 G5.out).mono ?_); rintro e w6 ⟨vo, rfl, o1, hb2⟩
    obtain ⟨B5, j5, rfl, r1⟩ := o1.rd lenI
    have G6 := Lib.hid (And.intro (G5.out.trans (hb2.mono G5.out.size)) r1)
    clear o1 r1 hb2
    go_wp2_with fail
    (with_reducible refine (H5.out w6 G6.out.1).mono ?_); rintro e w7 ⟨vo, rfl, o1, hb2⟩
    obtain ⟨B6, j6, rfl, r1⟩ := o1.rd lenI
    have G7 := Lib.hid (And.intro (G6.out.1.trans (hb2.mono G6.out.1.size)) (And.intro (G6.out.2.below hb2) r1))
    clear o1 r1 hb2
    go_wp2_with fail
    (with_reducible refine (HI.out po B5 B6 j5 j6 w7 G7.out.2.1 G7.out.2.2).mono ?_); rintro e w8 ⟨rfl, hb2⟩
    have G8 := Lib.hid (G7.out.1.trans (hb2.mono G7.out.1.size))
    clear hb2
    go_wp2_with fail
    (with_reducible refine (HA.out w8).mono ?_); rintro e w9 ⟨rfl, hb2⟩
    go_wp2_with fail
    go_ret
    exact ⟨rfl, G8.out.trans (hb2.mono G8.out.size)⟩
  · have hd1 : decide (100 < lm) = false := decide_eq_false (by omega)
    have hd2 : decide (5002 < lm) = false := decide_eq_false (by omega)
    have hd3 : decide (60 < lv) = true := decide_eq_true (by omega)
    have hd5 : decide (lv ≤ 1024) = false := decide_eq_false (by omega)
    have hd4 : decide (1026 < lv) = false := decide_eq_false (by omega)
    go_enter Try.func5, Try.ntmps5
    go_wp2_with fail
    (with_reducible refine (H1.out).mono ?_); rintro e w1 ⟨v1, rfl, hown1, hb1⟩
    obtain ⟨A1, k1, rfl, hr1⟩ := hown1.rd lenN
    rw [HM.out]
    have G1 := Lib.hid (And.intro hr1 hb1)
    clear hown1 hr1 hb1
    go_wp2_with fail
    (with_reducible refine (H2.out A1 k1 w1 G1.out.2 G1.out.1).mono ?_); rintro e w2 ⟨vo1, vf1, rfl, o1, o1', hb2⟩
    obtain ⟨B1, j1, rfl, r1⟩ := o1.rd lenI
    obtain ⟨B2, j2, rfl, r2⟩ := o1'.rd lenI
    have G2 := Lib.hid (And.intro (G1.out.2.trans (hb2.mono G1.out.2.size)) (And.intro r1 r2))
    clear o1 o1' r1 r2 hb2
    go_wp2_with fail
    (with_reducible refine (H3.out w2 G2.out.1).mono ?_); rintro e w3 ⟨vo1, vf1, rfl, o1, o1', hb2⟩
    obtain ⟨B3, j3, rfl, r1⟩ := o1.rd lenI
    obtain ⟨B4, j4, rfl, r2⟩ := o1'.rd lenI
    have G3 := Lib.hid (And.intro (G2.out.1.trans (hb2.mono G2.out.1.size)) (And.intro (G2.out.2.1.below hb2) (And.intro (G2.out.2.2.below hb2) (And.intro r1 r2))))
    clear o1 o1' r1 r2 hb2
    go_wp2_with fail
    (with_reducible refine (HI.out O B1 B3 j1 j3 w3 G3.out.2.1 G3.out.2.2.2.1).mono ?_); rintro e w4 ⟨rfl, hb2⟩
    have G4 := Lib.hid (And.intro (G3.out.1.trans (hb2.mono G3.out.1.size)) (And.intro (G3.out.2.2.1.below hb2) (G3.out.2.2.2.2.below hb2)))
    clear hb2
    go_wp2_with fail
    (with_reducible refine (HI.out T B2 B4 j2 j4 w4 G4.out.2.1 G4.out.2.2).mono ?_); rintro e w5 ⟨rfl, hb2⟩
    have G5 := Lib.hid (G4.out.1.trans (hb2.mono G4.out.1.size))
    clear hb2
    go_wp2_with fail
    (with_reducible refine (H4.out w5 G5.out).mono ?_); rintro e w6 ⟨vo, rfl, o1, hb2⟩
    obtain ⟨B5, j5, rfl, r1⟩ := o1.rd lenI
    have G6 := Lib.hid (And.intro (G5.out.trans (hb2.mono G5.out.size)) r1)
    clear o1 r1 hb2
    go_wp2_with fail
    (with_reducible refine (H5.out w6 G6.out.1).mono ?_); rintro e w7 ⟨vo, rfl, o1, hb2⟩
    obtain ⟨B6, j6, rfl, r1⟩ := o1.rd lenI
    have G7 := Lib.hid (And.intro (G6.out.1.trans (hb2.mono G6.out.1.size)) (And.intro (G6.out.2.below hb2) r1))
    clear o1 r1 hb2
    go_wp2_with fail
    (with_reducible refine (HI.out po B5 B6 j5 j6 w7 G7.out.2.1 G7.out.2.2).mono ?_); rintro e w8 ⟨rfl, hb2⟩
    have G8 := Lib.hid (G7.out.1.trans (hb2.mono G7.out.1.size))
    clear hb2
    go_wp2_with fail
    (with_reducible refine (HA.out w8).mono ?_); rintro e w9 ⟨rfl, hb2⟩
    go_wp2_with fail
    go_ret
    exact ⟨rfl, G8.out.trans (hb2.mono G8.out.size)⟩
  · have hd1 : decide (100 < lm) = true := decide_eq_true (by omega)
    have hd6 : decide (lm ≤ 5000) = false := decide_eq_false (by omega)
    have hd2 : decide (5002 < lm) = false := decide_eq_false (by omega)
    have hd3 : decide (60 < lv) = false := decide_eq_false (by omega)
    have hd4 : decide (1026 < lv) = false := decide_eq_false (by omega)
    go_enter Try.func5, Try.ntmps5
    go_wp2_with fail
    (with_reducible refine (H1.out).mono ?_); rintro e w1 ⟨v1, rfl, hown1, hb1⟩
    obtain ⟨A1, k1, rfl, hr1⟩ := hown1.rd lenN
    rw [HM.out]
    have G1 := Lib.hid (And.intro hr1 hb1)
    clear hown1 hr1 hb1
    go_wp2_with fail
    (with_reducible refine (H2.out A1 k1 w1 G1.out.2 G1.out.1).mono ?_); rintro e w2 ⟨vo1, vf1, rfl, o1, o1', hb2⟩
    obtain ⟨B1, j1, rfl, r1⟩ := o1.rd lenI
    obtain ⟨B2, j2, rfl, r2⟩ := o1'.rd lenI
    have G2 := Lib.hid (And.intro (G1.out.2.trans (hb2.mono G1.out.2.size)) (And.intro r1 r2))
    clear o1 o1' r1 r2 hb2
    go_wp2_with fail
    (with_reducible refine (H3.out w2 G2.out.1).mono ?_); rintro e w3 ⟨vo1, vf1, rfl, o1, o1', hb2⟩
    obtain ⟨B3, j3, rfl, r1⟩ := o1.rd lenI
    obtain ⟨B4, j4, rfl, r2⟩ := o1'.rd lenI
    have G3 := Lib.hid (And.intro (G2.out.1.trans (hb2.mono G2.out.1.size)) (And.intro (G2.out.2.1.below hb2) (And.intro (G2.out.2.2.below hb2) (And.intro r1 r2))))
    clear o1 o1' r1 r2 hb2
    go_wp2_with fail
    (with_reducible refine (HI.out O B1 B3 j1 j3 w3 G3.out.2.1 G3.out.2.2.2.1).mono ?_); rintro e w4 ⟨rfl, hb2⟩
    have G4 := Lib.hid (And.intro (G3.out.1.trans (hb2.mono G3.out.1.size)) (And.intro (G3.out.2.2.1.below hb2) (G3.out.2.2.2.2.below hb2)))
    clear hb2
    go_wp2_with fail
    (with_reducible refine (HI.out T B2 B4 j2 j4 w4 G4.out.2.1 G4.out.2.2).mono ?_); rintro e w5 ⟨rfl, hb2⟩
    have G5 := Lib.hid (G4.out.1.trans (hb2.mono G4.out.1.size))
    clear hb2
    go_wp2_with fail
    (with_reducible refine (H4.out w5 G5.out).mono ?_); rintro e w6 ⟨vo, rfl, o1, hb2⟩
    obtain ⟨B5, j5, rfl, r1⟩ := o1.rd lenI
    have G6 := Lib.hid (And.intro (G5.out.trans (hb2.mono G5.out.size)) r1)
    clear o1 r1 hb2
    go_wp2_with fail
    (with_reducible refine (H5.out w6 G6.out.1).mono ?_); rintro e w7 ⟨vo, rfl, o1, hb2⟩
    obtain ⟨B6, j6, rfl, r1⟩ := o1.rd lenI
    have G7 := Lib.hid (And.intro (G6.out.1.trans (hb2.mono G6.out.1.size)) (And.intro (G6.out.2.below hb2) r1))
    clear o1 r1 hb2
    go_wp2_with fail
    (with_reducible refine (HI.out po B5 B6 j5 j6 w7 G7.out.2.1 G7.out.2.2).mono ?_); rintro e w8 ⟨rfl, hb2⟩
    have G8 := Lib.hid (G7.out.1.trans (hb2.mono G7.out.1.size))
    clear hb2
    go_wp2_with fail
    (with_reducible refine (HA.out w8).mono ?_); rintro e w9 ⟨rfl, hb2⟩
    go_wp2_with fail
    go_ret
    exact ⟨rfl, G8.out.trans (hb2.mono G8.out.size)⟩
  · have hd1 : decide (100 < lm) = true := decide_eq_true (by omega)
    have hd6 : decide (lm ≤ 5000) = false := decide_eq_false (by omega)
    have hd2 : decide (5002 < lm) = false := decide_eq_false (by omega)
    have hd3 : decide (60 < lv) = true := decide_eq_true (by omega)
    have hd5 : decide (lv ≤ 1024) = false := decide_eq_false (by omega)
    have hd4 : decide (1026 < lv) = false := decide_eq_false (by omega)
    go_enter Try.func5, Try.ntmps5
    go_wp2_with fail
    (with_reducible refine (H1.out).mono ?_); rintro e w1 ⟨v1, rfl, hown1, hb1⟩
    obtain ⟨A1, k1, rfl, hr1⟩ := hown1.rd lenN
    rw [HM.out]
    have G1 := Lib.hid (And.intro hr1 hb1)
    clear hown1 hr1 hb1
    go_wp2_with fail
    (with_reducible refine (H2.out A1 k1 w1 G1.out.2 G1.out.1).mono ?_); rintro e w2 ⟨vo1, vf1, rfl, o1, o1', hb2⟩
    obtain ⟨B1, j1, rfl, r1⟩ := o1.rd lenI
    obtain ⟨B2, j2, rfl, r2⟩ := o1'.rd lenI
    have G2 := Lib.hid (And.intro (G1.out.2.trans (hb2.mono G1.out.2.size)) (And.intro r1 r2))
    clear o1 o1' r1 r2 hb2
    go_wp2_with fail
    (with_reducible refine (H3.out w2 G2.out.1).mono ?_); rintro e w3 ⟨vo1, vf1, rfl, o1, o1', hb2⟩
    obtain ⟨B3, j3, rfl, r1⟩ := o1.rd lenI
    obtain ⟨B4, j4, rfl, r2⟩ := o1'.rd lenI
    have G3 := Lib.hid (And.intro (G2.out.1.trans (hb2.mono G2.out.1.size)) (And.intro (G2.out.2.1.below hb2) (And.intro (G2.out.2.2.below hb2) (And.intro r1 r2))))
    clear o1 o1' r1 r2 hb2
    go_wp2_with fail
    (with_reducible refine (HI.out O B1 B3 j1 j3 w3 G3.out.2.1 G3.out.2.2.2.1).mono ?_); rintro e w4 ⟨rfl, hb2⟩
    have G4 := Lib.hid (And.intro (G3.out.1.trans (hb2.mono G3.out.1.size)) (And.intro (G3.out.2.2.1.below hb2) (G3.out.2.2.2.2.below hb2)))
    clear hb2
    go_wp2_with fail
    (with_reducible refine (HI.out T B2 B4 j2 j4 w4 G4.out.2.1 G4.out.2.2).mono ?_); rintro e w5 ⟨rfl, hb2⟩
    have G5 := Lib.hid (G4.out.1.trans (hb2.mono G4.out.1.size))
    clear hb2
    go_wp2_with fail
    (with_reducible refine (H4.out w5 G5.out).mono ?_); rintro e w6 ⟨vo, rfl, o1, hb2⟩
    obtain ⟨B5, j5, rfl, r1⟩ := o1.rd lenI
    have G6 := Lib.hid (And.intro (G5.out.trans (hb2.mono G5.out.size)) r1)
    clear o1 r1 hb2
    go_wp2_with fail
    (with_reducible refine (H5.out w6 G6.out.1).mono ?_); rintro e w7 ⟨vo, rfl, o1, hb2⟩
    obtain ⟨B6, j6, rfl, r1⟩ := o1.rd lenI
    have G7 := Lib.hid (And.intro (G6.out.1.trans (hb2.mono G6.out.1.size)) (And.intro (G6.out.2.below hb2) r1))
    clear o1 r1 hb2
    go_wp2_with fail
    (with_reducible refine (HI.out po B5 B6 j5 j6 w7 G7.out.2.1 G7.out.2.2).mono ?_); rintro e w8 ⟨rfl, hb2⟩
    have G8 := Lib.hid (G7.out.1.trans (hb2.mono G7.out.1.size))
    clear hb2
    go_wp2_with fail
    (with_reducible refine (HA.out w8).mono ?_); rintro e w9 ⟨rfl, hb2⟩
    go_wp2_with fail
    go_ret
    exact ⟨rfl, G8.out.trans (hb2.mono G8.out.size)⟩
end Go.Proofs.Ythccnaemocdcbaa
