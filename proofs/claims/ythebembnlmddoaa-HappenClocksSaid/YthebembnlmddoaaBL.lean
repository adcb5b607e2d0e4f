import Derived.Test.YthebembnlmddoaaBI
import Derived.Test.YthebembnlmddoaaAQ
namespace Go.Proofs.Ythebembnlmddoaa
open Go.RowKit
set_option maxHeartbeats 8000000
set_option maxRecDepth 100000
set_option linter.unusedSimpArgs false
set_option linter.unusedVariables false

/-- what Before answers -/
def bfV (l : List Ev) (i j : Int) : Bool × Int := if chkF l = 0 then (if 0 ≤ i ∧ i < (l.length : Int) ∧ 0 ≤ j ∧ j < (l.length : Int) then (bfB l i.toNat j.toNat, 0) else (false, 4)) else (false, chkF l)
def BfPost (l : List Ev) (i j : Int) (w : World) (e : Ending) (w' : World) : Prop := e = .returned (.tuple #[.bool (bfV l i j).1, .int .i64 (bfV l i j).2]) ∧ Below w.heap.size w w'
theorem clocks_chk (l : List Ev) (hok : ∀ e ∈ l, e.ok) (hk0 : chkF l ≠ 0) (A : Option Addr) (c : Nat) (w : World) (hA : Rd encE 11 w A l) :
    Calls Try.prog 16 #[.slice A l.length c] w (ErPost (chkF l) w) := by
  have hck := check_calls l hok A c w hA
  have hsm := hA.small
  have hkc : (chkF l != 0) = true := by simp [hk0]
  generalize chkF l = m at *
  have HC := Lib.hid hck
  clear hA hok hk0 hck
  go_enter Try.func16, Try.ntmps16
  go_wp2_with fail
  (with_reducible refine (HC.out).mono ?_); rintro e w2 ⟨rfl, hb2⟩
  have H2 := Lib.hid hb2
  clear hb2
  go_wp2_with fail
  go_ret2
  exact ⟨rfl, H2.out⟩
theorem beforeH_calls (l : List Ev) (hok : ∀ e ∈ l, e.ok) (i j : Int) (A : Option Addr) (c : Nat) (w : World) (hA : Rd encE 11 w A l) :
    Calls Try.prog 18 #[.slice A l.length c, .int .i64 i, .int .i64 j] w (BfPost l i j w) := by
  have hsm := hA.small
  have hck := check_calls l hok A c w hA
  have HC := Lib.hid hck
  have HR := Lib.hid (And.intro hA hok)
  clear hck hA hok
  go_enter Try.func18, Try.ntmps18
  go_upto_region 1 with fail
  go_wp2_with fail
  (with_reducible refine (HC.out).mono ?_); rintro e w2 ⟨rfl, hb2⟩
  have H2 := Lib.hid hb2
  clear hb2
  by_cases hk : chkF l = 0
  · have hkc : (chkF l != 0) = false := by rw [bne_eq_false_iff_eq]; exact hk
    have HK := Lib.hid (And.intro hk (chk_zero l hk))
    clear hk
    by_cases hi0 : i < 0
    · have di0 : decide (i < 0) = true := decide_eq_true hi0
      have hv : bfV l i j = (false, 4) := by unfold bfV; rw [if_pos HK.out.1, if_neg (by omega)]
      have HV := Lib.hid hv
      clear hv
      go_wp2_with fail
      go_ret2
      exact ⟨by rw [HV.out]; rfl, H2.out⟩
    · have di0 : decide (i < 0) = false := decide_eq_false hi0
      by_cases hi1 : (l.length : Int) ≤ i
      · have di1 : decide ((l.length : Int) ≤ i) = true := decide_eq_true hi1
        have hv : bfV l i j = (false, 4) := by unfold bfV; rw [if_pos HK.out.1, if_neg (by omega)]
        have HV := Lib.hid hv
        clear hv
        go_wp2_with fail
        go_ret2
        exact ⟨by rw [HV.out]; rfl, H2.out⟩
      · have di1 : decide ((l.length : Int) ≤ i) = false := decide_eq_false hi1
        by_cases hj0 : j < 0
        · have dj0 : decide (j < 0) = true := decide_eq_true hj0
          have hv : bfV l i j = (false, 4) := by unfold bfV; rw [if_pos HK.out.1, if_neg (by omega)]
          have HV := Lib.hid hv
          clear hv
          go_wp2_with fail
          go_ret2
          exact ⟨by rw [HV.out]; rfl, H2.out⟩
        · have dj0 : decide (j < 0) = false := decide_eq_false hj0
          by_cases hj1 : (l.length : Int) ≤ j
          · have dj1 : decide ((l.length : Int) ≤ j) = true := decide_eq_true hj1
            have hv : bfV l i j = (false, 4) := by unfold bfV; rw [if_pos HK.out.1, if_neg (by omega)]
            have HV := Lib.hid hv
            clear hv
            go_wp2_with fail
            go_ret2
            exact ⟨by rw [HV.out]; rfl, H2.out⟩
          · have dj1 : decide ((l.length : Int) ≤ j) = false := decide_eq_false hj1
            have hv : bfV l i j = (bfB l i.toNat j.toNat, 0) := by unfold bfV; rw [if_pos HK.out.1, if_pos (by omega)]
            obtain ⟨x, rfl⟩ := Int.eq_ofNat_of_zero_le (show 0 ≤ i by omega)
            obtain ⟨y, rfl⟩ := Int.eq_ofNat_of_zero_le (show 0 ≤ j by omega)
            have hxl : x < l.length := by omega
            have hyl : y < l.length := by omega
            have dx : decide (l.length ≤ x) = false := decide_eq_false (by omega)
            have dy : decide (l.length ≤ y) = false := decide_eq_false (by omega)
            have hxx : (x : Int) < (l.length : Int) := by omega
            have hyy : (y : Int) < (l.length : Int) := by omega
            rw [Int.toNat_natCast, Int.toNat_natCast] at hv
            have HV := Lib.hid hv
            clear hv
            have hnc := newClocks_calls l HR.out.2 (rtB_fm l HK.out.2.2) HK.out.2.1 A c w2 (HR.out.1.below H2.out)
            have HN := Lib.hid hnc
            clear hnc
            go_wp2_with fail
            (with_reducible refine (HN.out).mono ?_); rintro e w3 ⟨cb, rfl, hCk, hb3⟩
            have hlo3 := H2.out.trans (hb3.mono H2.out.size)
            have hbc := before_callsB l HR.out.2 x y hxl hyl A c cb _ w3 (HR.out.1.below hlo3) hCk
            have HB := Lib.hid (And.intro hbc hlo3)
            clear hbc hlo3 hCk hb3
            go_wp2_with fail
            (with_reducible refine (HB.out.1).mono ?_); rintro e w4 ⟨rfl, hb4⟩
            have H4 := Lib.hid (HB.out.2.trans (hb4.mono HB.out.2.size))
            clear hb4
            go_wp2_with fail
            go_ret2
            exact ⟨by rw [HV.out]; rfl, H4.out⟩
  · have hkc : (chkF l != 0) = true := by simp [hk]
    have hv : bfV l i j = (false, chkF l) := by unfold bfV; rw [if_neg hk]
    have HV := Lib.hid hv
    clear hv
    go_wp2_with fail
    go_ret2
    exact ⟨by rw [HV.out]; rfl, H2.out⟩
theorem beforeR_calls (l : List Ev) (i j : Int) (A : Option Addr) (c : Nat) (w : World) (hA : Rd encE 11 w A l) :
    Calls Try.prog 19 #[.slice A l.length c, .int .i64 i, .int .i64 j] w (BfPost l i j w) := by
  have hsm := hA.small
  have hck := checkR_calls l A c w hA
  have HC := Lib.hid hck
  have HR := Lib.hid (And.intro hA trivial)
  clear hck hA 
  go_enter Try.func19, Try.ntmps19
  go_upto_region 1 with fail
  go_wp2_with fail
  (with_reducible refine (HC.out).mono ?_); rintro e w2 ⟨rfl, hb2⟩
  have H2 := Lib.hid hb2
  clear hb2
  by_cases hk : chkF l = 0
  · have hkc : (chkF l != 0) = false := by rw [bne_eq_false_iff_eq]; exact hk
    have HK := Lib.hid (And.intro hk (chk_zero l hk))
    clear hk
    by_cases hi0 : i < 0
    · have di0 : decide (i < 0) = true := decide_eq_true hi0
      have hv : bfV l i j = (false, 4) := by unfold bfV; rw [if_pos HK.out.1, if_neg (by omega)]
      have HV := Lib.hid hv
      clear hv
      go_wp2_with fail
      go_ret2
      exact ⟨by rw [HV.out]; rfl, H2.out⟩
    · have di0 : decide (i < 0) = false := decide_eq_false hi0
      by_cases hj0 : j < 0
      · have dj0 : decide (j < 0) = true := decide_eq_true hj0
        have hv : bfV l i j = (false, 4) := by unfold bfV; rw [if_pos HK.out.1, if_neg (by omega)]
        have HV := Lib.hid hv
        clear hv
        go_wp2_with fail
        go_ret2
        exact ⟨by rw [HV.out]; rfl, H2.out⟩
      · have dj0 : decide (j < 0) = false := decide_eq_false hj0
        by_cases hi1 : (l.length : Int) ≤ i
        · have di1 : decide ((l.length : Int) ≤ i) = true := decide_eq_true hi1
          have hv : bfV l i j = (false, 4) := by unfold bfV; rw [if_pos HK.out.1, if_neg (by omega)]
          have HV := Lib.hid hv
          clear hv
          go_wp2_with fail
          go_ret2
          exact ⟨by rw [HV.out]; rfl, H2.out⟩
        · have di1 : decide ((l.length : Int) ≤ i) = false := decide_eq_false hi1
          by_cases hj1 : (l.length : Int) ≤ j
          · have dj1 : decide ((l.length : Int) ≤ j) = true := decide_eq_true hj1
            have hv : bfV l i j = (false, 4) := by unfold bfV; rw [if_pos HK.out.1, if_neg (by omega)]
            have HV := Lib.hid hv
            clear hv
            go_wp2_with fail
            go_ret2
            exact ⟨by rw [HV.out]; rfl, H2.out⟩
          · have dj1 : decide ((l.length : Int) ≤ j) = false := decide_eq_false hj1
            have hv : bfV l i j = (bfB l i.toNat j.toNat, 0) := by unfold bfV; rw [if_pos HK.out.1, if_pos (by omega)]
            obtain ⟨x, rfl⟩ := Int.eq_ofNat_of_zero_le (show 0 ≤ i by omega)
            obtain ⟨y, rfl⟩ := Int.eq_ofNat_of_zero_le (show 0 ≤ j by omega)
            have hxl : x < l.length := by omega
            have hyl : y < l.length := by omega
            have dx : decide (l.length ≤ x) = false := decide_eq_false (by omega)
            have dy : decide (l.length ≤ y) = false := decide_eq_false (by omega)
            have hxx : (x : Int) < (l.length : Int) := by omega
            have hyy : (y : Int) < (l.length : Int) := by omega
            rw [Int.toNat_natCast, Int.toNat_natCast] at hv
            have HV := Lib.hid hv
            clear hv
            have hah := ahead_calls l HK.out.2.2 HK.out.2.1 A c w2 (HR.out.1.below H2.out)
            have HN := Lib.hid hah
            clear hah
            go_wp2_with fail
            (with_reducible refine (HN.out).mono ?_); rintro e w3 ⟨ST, cT, rfl, htab, hb3⟩
            have hlo3 := H2.out.trans (hb3.mono H2.out.size)
            obtain ⟨aT, g, cc, rfl, t1, t2⟩ := htab y hyl
            have s1 := t2 x hxl
            have H3 := Lib.hid hlo3
            clear htab t2 hlo3 hb3
            go_wp2_with fail
            go_ret2
            exact ⟨by rw [HV.out]; rfl, H3.out⟩
  · have hkc : (chkF l != 0) = true := by simp [hk]
    have hv : bfV l i j = (false, chkF l) := by unfold bfV; rw [if_neg hk]
    have HV := Lib.hid hv
    clear hv
    go_wp2_with fail
    go_ret2
    exact ⟨by rw [HV.out]; rfl, H2.out⟩
end Go.Proofs.Ythebembnlmddoaa
