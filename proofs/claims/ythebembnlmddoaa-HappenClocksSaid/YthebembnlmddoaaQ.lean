import Derived.Test.YthebembnlmddoaaP
import Derived.Test.YthebembnlmddoaaF
namespace Go.Proofs.Ythebembnlmddoaa
open Go.RowKit
set_option maxHeartbeats 8000000
set_option maxRecDepth 100000
set_option linter.unusedSimpArgs false
set_option linter.unusedVariables false

/-- Before, of a right trace and two places in it -/
theorem Before_calls (l : List Ev) (hok : ∀ e ∈ l, e.ok) (hk : chkF l = 0) (i j : Nat) (hi : i < l.length) (hj : j < l.length) (A : Option Addr) (c : Nat) (w : World) (hA : Rd encE 11 w A l) :
    Calls Try.prog 18 #[.slice A l.length c, .int .i64 (i : Int), .int .i64 (j : Int)] w fun e w' => e = .returned (.tuple #[.bool (bfB l i j), .int .i64 0]) ∧ Below w.heap.size w w' := by
  have hz := chk_zero l hk
  have hck := check_calls l hok A c w hA
  rw [hk] at hck
  have hsm := hA.small
  have HC := Lib.hid hck
  have HR := Lib.hid (And.intro hA (And.intro hok (And.intro (rtB_fm l hz.2) hz.1)))
  have HI := Lib.hid (And.intro hi hj)
  clear hck hA hok hz hk
  have hii : (i : Int) < (l.length : Int) := by omega
  have hjj : (j : Int) < (l.length : Int) := by omega
  have d1 : decide (l.length ≤ i) = false := decide_eq_false (by omega)
  have d2 : decide (l.length ≤ j) = false := decide_eq_false (by omega)
  have e1 : decide ((i : Int) < 0) = false := decide_eq_false (by omega)
  have e2 : decide ((j : Int) < 0) = false := decide_eq_false (by omega)
  clear hi hj
  go_enter Try.func18, Try.ntmps18
  go_wp2_with fail
  (with_reducible refine (HC.out).mono ?_); rintro e w1 ⟨rfl, hb1⟩
  have hnc := newClocks_calls l HR.out.2.1 HR.out.2.2.1 HR.out.2.2.2 A c w1 (HR.out.1.below hb1)
  have HN := Lib.hid (And.intro hnc hb1)
  clear hnc hb1
  go_wp2_with fail
  (with_reducible refine (HN.out.1).mono ?_); rintro e w2 ⟨cb, rfl, hCk, hb2⟩
  have hl2 := HN.out.2.trans (hb2.mono HN.out.2.size)
  have hbc := before_calls l HR.out.2.1 i j HI.out.1 HI.out.2 A c cb _ w2 (HR.out.1.below hl2) hCk
  have HB := Lib.hid (And.intro hbc hl2)
  clear hbc hl2 hCk hb2
  go_wp2_with fail
  (with_reducible refine (HB.out.1).mono ?_); rintro e w3 ⟨rfl, n, hn⟩
  have hl3 : Below w.heap.size w w3 := by rw [hn]; exact drewN_below HB.out.2 n
  have H3 := Lib.hid hl3
  clear hn hl3
  go_wp2_with fail
  go_ret2
  exact ⟨rfl, H3.out⟩
/-- is a trace right and of at most 40 events -/
def gvB (l : List Ev) : Bool := decide (l.length ≤ 40) && decide (chkF l = 0)
def GPost (l : List Ev) (w : World) (e : Ending) (w' : World) : Prop := ∃ v, e = .returned (.tuple #[v, .bool (gvB l)]) ∧ Own encE 11 42 w' w.heap.size v l ∧ Below w.heap.size w w'
theorem given_calls (l : List Ev) (hok : ∀ e ∈ l, e.ok) (A : Option Addr) (c : Nat) (w : World) (hA : Rd encE 11 w A l) (hb : l.length * 88 ≤ 140737488351232) :
    Calls Try.prog 10 #[.slice A l.length c] w (GPost l w) := by
  have hsm := hA.small
  have ho := own_calls l A c w hA hb
  have HO := Lib.hid ho
  have HR := Lib.hid (And.intro hA hok)
  clear ho hA hok
  go_enter Try.func10, Try.ntmps10
  go_wp2_with fail
  (with_reducible refine (HO.out).mono ?_); rintro e w1 ⟨v, rfl, hown, hb1⟩
  obtain ⟨B, cp, rfl, hrd⟩ := hown.rd lenE
  have hck := check_calls l HR.out.2 B cp w1 hrd
  have H1 := Lib.hid (And.intro hown (And.intro hb1 hck))
  clear hown hb1 hck hrd
  by_cases h40 : l.length ≤ 40
  · have hd : decide (l.length ≤ 40) = true := decide_eq_true h40
    have hd2 : decide ((l.length : Int) ≤ 40) = true := decide_eq_true (by omega)
    have hg : gvB l = decide (chkF l = 0) := by simp [gvB, h40]
    have HG := Lib.hid hg
    clear hg h40
    go_wp2_with fail
    (with_reducible refine (H1.out.2.2).mono ?_); rintro e w2 ⟨rfl, hb2⟩
    have H2 := Lib.hid (And.intro (H1.out.1.rest hb2) (H1.out.2.1.trans (hb2.mono H1.out.2.1.size)))
    clear hb2
    by_cases hz : chkF l = 0
    · have hzc : (chkF l == 0) = true := by simpa using hz
      have HZ := Lib.hid hz
      clear hz
      go_wp2_with fail
      go_ret2
      exact ⟨_, by rw [HG.out, HZ.out]; rfl, H2.out.1, H2.out.2⟩
    · have hzc : (chkF l == 0) = false := by simpa using hz
      have HZ := Lib.hid hz
      clear hz
      go_wp2_with fail
      go_ret2
      exact ⟨_, by rw [HG.out, decide_eq_false HZ.out]; rfl, H2.out.1, H2.out.2⟩
  · have hd : decide (l.length ≤ 40) = false := decide_eq_false h40
    have hd2 : decide ((l.length : Int) ≤ 40) = false := decide_eq_false (by omega)
    have hg : gvB l = false := by simp [gvB, h40]
    have HG := Lib.hid hg
    clear hg h40
    go_wp2_with fail
    go_ret2
    exact ⟨_, by rw [HG.out]; rfl, H1.out.1, H1.out.2.1⟩
end Go.Proofs.Ythebembnlmddoaa
