import Derived.Test.YthebembnlmddoaaAU
namespace Go.Proofs.Ythebembnlmddoaa
open Go.RowKit
set_option maxHeartbeats 8000000
set_option maxRecDepth 100000
set_option linter.unusedSimpArgs false
set_option linter.unusedVariables false

/-! ### the reference's forks, acts, strong, direct -/
/-- how often a task is forked ahead of an index -/
def fkN (l : List Ev) (t : Int) (m : Nat) : Nat := (l.take m).countP (fun e => decide (e.k = 2) && decide (e.o = t))
theorem fkN_succ (l : List Ev) (t : Int) (m : Nat) (h : m < l.length) : fkN l t (m + 1) = fkN l t m + if (decide ((evA l m).k = 2) && decide ((evA l m).o = t)) = true then 1 else 0 := by
  unfold fkN
  rw [take_snoc l m h, List.countP_append, ← evA_eq l m h]
  cases hc : (decide ((evA l m).k = 2) && decide ((evA l m).o = t)) <;> simp [List.countP_cons, hc]
theorem fkN_le (l : List Ev) (t : Int) (m : Nat) : fkN l t m ≤ m := by
  unfold fkN
  refine Nat.le_trans List.countP_le_length ?_
  rw [List.length_take]
  omega
theorem forks_calls (l : List Ev) (t : Int) (m : Nat) (hm : m ≤ l.length) (A : Option Addr) (c : Nat) (w : World) (hA : Rd encE 11 w A l) :
    Calls Try.prog 47 #[.slice A l.length c, .int .i64 t, .int .i64 (m : Int)] w fun e w' => e = .returned (.int .i64 (fkN l t m : Int)) ∧ w' = w := by
  have hsm := hA.small
  have HA := Lib.hid hA
  clear hA
  go_enter Try.func47, Try.ntmps47
  go_wp2_with fail
  go_loopg [7, 8, 9, 10, 11, 12, 13, 14, 15, 16, 17, 18, 19, 20, 21, 22, 23, 24, 25, 26, 27, 28, 29, 30] m (fun gk v7 v8 v9 v10 v11 v12 v13 v14 v15 v16 v17 v18 v19 v20 v21 v22 v23 v24 v25 v26 v27 v28 v29 v30 wr => ∃ k : Nat, k + gk = m ∧ v8 = .int .i64 (k : Int) ∧ v7 = .int .i64 (fkN l t k : Int) ∧ w = wr)
  case atStart => exact ⟨0, by omega, rfl, rfl, rfl⟩
  case round =>
    obtain ⟨k, hk, rfl, rfl, rfl⟩ := hrel
    by_cases hlt : k < m
    · have hd : decide (k < m) = true := decide_eq_true hlt
      have hkl : k < l.length := by omega
      cases A with
      | none =>
        exfalso
        obtain ⟨a, ha, _⟩ := HA.out.cell k hkl
        cases ha
      | some a =>
      obtain ⟨p0, p1, p2, p3, p4, p5, p6, p7, p8, p9, p10⟩ := ev_eleven (ev_cells HA.out k hkl)
      rw [← evA_eq l k hkl] at p0 p8
      have hs := fkN_succ l t k hkl
      have hle := fkN_le l t k
      clear p1 p2 p3 p4 p5 p6 p7 p9 p10
      generalize evA l k = e at *
      generalize fkN l t k = n at *
      have HS := Lib.hid hs
      have hki : (k : Int) < (l.length : Int) := by omega
      clear hs
      by_cases h1 : e.k = 2
      · have g1 : (e.k == 2) = true := by simpa using h1
        by_cases h2 : e.o = t
        · have g2 : (e.o == t) = true := by simpa using h2
          have HN := Lib.hid (And.intro h1 h2)
          clear h1 h2
          go_wp2_with fail
          go_roundg (gk - 1)
          case measure => omega
          case rel => exact ⟨k + 1, by omega, by go_num, by rw [HS.out, decide_eq_true HN.out.1, decide_eq_true HN.out.2]; go_num, rfl⟩
        · have g2 : (e.o == t) = false := by simpa using h2
          have HN := Lib.hid h2
          clear h1 h2
          go_wp2_with fail
          go_roundg (gk - 1)
          case measure => omega
          case rel => exact ⟨k + 1, by omega, by go_num, by rw [HS.out, decide_eq_false HN.out, Bool.and_false]; rfl, rfl⟩
      · have g1 : (e.k == 2) = false := by simpa using h1
        have HN := Lib.hid h1
        clear h1
        go_wp2_with fail
        go_roundg (gk - 1)
        case measure => omega
        case rel => exact ⟨k + 1, by omega, by go_num, by rw [HS.out, decide_eq_false HN.out, Bool.false_and]; rfl, rfl⟩
    · have hd : decide (k < m) = false := decide_eq_false hlt
      obtain rfl : k = m := by omega
      go_wp2_with fail
      go_ret
      exact ⟨rfl, rfl⟩
/-- has a task an event from one index on, up to another one -/
def acB (l : List Ev) (t : Int) (p q : Nat) : Bool := (List.range q).any (fun i => decide (p ≤ i) && decide ((evA l i).t = t))
theorem acB_iff (l : List Ev) (t : Int) (p q : Nat) : acB l t p q = true ↔ ∃ i, p ≤ i ∧ i < q ∧ (evA l i).t = t := by
  unfold acB
  rw [List.any_eq_true]
  simp only [List.mem_range, Bool.and_eq_true, decide_eq_true_eq]
  constructor
  · rintro ⟨i, h1, h2, h3⟩; exact ⟨i, h2, h1, h3⟩
  · rintro ⟨i, h1, h2, h3⟩; exact ⟨i, h2, h1, h3⟩
theorem acts_calls (l : List Ev) (t : Int) (p q : Nat) (hpq : p ≤ q) (hq : q ≤ l.length) (A : Option Addr) (c : Nat) (w : World) (hA : Rd encE 11 w A l) :
    Calls Try.prog 42 #[.slice A l.length c, .int .i64 t, .int .i64 (p : Int), .int .i64 (q : Int)] w fun e w' => e = .returned (.bool (acB l t p q)) ∧ w' = w := by
  have hsm := hA.small
  have HA := Lib.hid hA
  clear hA
  go_enter Try.func42, Try.ntmps42
  go_wp2_with fail
  go_loopg [9, 11, 12, 13, 14, 15, 16, 17, 18, 19, 20, 21, 22, 23] (q - p) (fun gk v9 v11 v12 v13 v14 v15 v16 v17 v18 v19 v20 v21 v22 v23 wr => ∃ k : Nat, k + gk = q ∧ p ≤ k ∧ v9 = .int .i64 (k : Int) ∧ (∀ x, p ≤ x → x < k → ¬ (evA l x).t = t) ∧ w = wr)
  case atStart => exact ⟨p, by omega, Nat.le_refl _, rfl, fun x h1 h2 => by omega, rfl⟩
  case round =>
    obtain ⟨k, hk, hpk, rfl, hall, rfl⟩ := hrel
    by_cases hlt : k < q
    · have hd : decide (k < q) = true := decide_eq_true hlt
      have hkl : k < l.length := by omega
      cases A with
      | none =>
        exfalso
        obtain ⟨a, ha, _⟩ := HA.out.cell k hkl
        cases ha
      | some a =>
      obtain ⟨p0, p1, p2, p3, p4, p5, p6, p7, p8, p9, p10⟩ := ev_eleven (ev_cells HA.out k hkl)
      rw [← evA_eq l k hkl] at p1
      clear p0 p2 p3 p4 p5 p6 p7 p8 p9 p10
      have hki : (k : Int) < (l.length : Int) := by omega
      have HL := Lib.hid hall
      clear hall
      generalize he : evA l k = e at *
      by_cases h1 : e.t = t
      · have g1 : (e.t == t) = true := by simpa using h1
        have HN := Lib.hid (And.intro h1 he)
        clear h1 he
        go_wp2_with fail
        go_ret
        exact ⟨ret_bool ((acB_iff l t p q).2 ⟨k, hpk, hlt, by rw [HN.out.2]; exact HN.out.1⟩).symm, rfl⟩
      · have g1 : (e.t == t) = false := by simpa using h1
        have HN := Lib.hid (And.intro h1 he)
        clear h1 he
        go_wp2_with fail
        go_roundg (gk - 1)
        case measure => omega
        case rel => exact ⟨k + 1, by omega, by omega, by go_num, fun x h1 h2 => by
          by_cases ex : x = k
          · subst ex; rw [HN.out.2]; exact HN.out.1
          · exact HL.out x h1 (by omega), rfl⟩
    · have hd : decide (k < q) = false := decide_eq_false hlt
      have HL := Lib.hid hall
      clear hall
      go_wp2_with fail
      go_ret
      refine ⟨ret_bool ?_, rfl⟩
      symm
      rw [Bool.eq_false_iff]
      intro h
      obtain ⟨x, h1, h2, h3⟩ := (acB_iff l t p q).1 h
      exact HL.out x h1 (by omega) h3
def sgB (x : Ev) : Bool := decide (x.m = 3) || decide (x.m = 4)
theorem strong_calls (e : Ev) (w : World) : Calls Try.prog 60 #[e.acc] w fun x w' => x = .returned (.bool (sgB e)) ∧ Below w.heap.size w w' := by
  have hb : Below w.heap.size w (w.alloc (.cells e.accs 39)) := (Below.refl _ w).alloc (Nat.le_refl _) _
  have HB := Lib.hid hb
  clear hb
  by_cases h1 : e.m = 3
  · have g1 : (e.m == 3) = true := by simpa using h1
    have hr : sgB e = true := by simp [sgB, h1]
    rw [hr]
    clear hr h1
    go_enter Try.func60, Try.ntmps60
    go_wp2_with fail
    go_ret
    exact ⟨rfl, HB.out⟩
  · have g1 : (e.m == 3) = false := by simpa using h1
    by_cases h2 : e.m = 4
    · have g2 : (e.m == 4) = true := by simpa using h2
      have hr : sgB e = true := by simp [sgB, h2]
      rw [hr]
      clear hr h1 h2
      go_enter Try.func60, Try.ntmps60
      go_wp2_with fail
      go_ret
      exact ⟨rfl, HB.out⟩
    · have g2 : (e.m == 4) = false := by simpa using h2
      have hr : sgB e = false := by simp [sgB, h1, h2]
      rw [hr]
      clear hr h1 h2
      go_enter Try.func60, Try.ntmps60
      go_wp2_with fail
      go_ret
      exact ⟨rfl, HB.out⟩
end Go.Proofs.Ythebembnlmddoaa
