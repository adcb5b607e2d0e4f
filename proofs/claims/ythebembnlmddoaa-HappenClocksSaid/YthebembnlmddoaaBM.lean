import Derived.Test.YthebembnlmddoaaBL
namespace Go.Proofs.Ythebembnlmddoaa
open Go.RowKit
set_option maxHeartbeats 8000000
set_option maxRecDepth 100000
set_option linter.unusedSimpArgs false
set_option linter.unusedVariables false

/-- slices.Equal of the same numbers twice -/
theorem equalI_calls (xs : List Int) (A B : Option Addr) (c c' : Nat) (w : World) (hA : Rd encI 1 w A xs) (hB : Rd encI 1 w B xs) :
    Calls Try.prog 23 #[.slice A xs.length c, .slice B xs.length c'] w fun e w' => e = .returned (.bool true) ∧ Below w.heap.size w w' := by
  have hsm := hA.small
  have HR := Lib.hid (And.intro hA hB)
  clear hA hB
  go_enter Try.func23, Try.ntmps23
  go_wp2_with fail
  go_loopg [5, 13, 14, 15, 16, 17, 18, 19, 20, 21, 22, 23, 24, 25] xs.length (fun gk v5 v13 v14 v15 v16 v17 v18 v19 v20 v21 v22 v23 v24 v25 wr => ∃ k : Nat, k + gk = xs.length ∧ v13 = .int .i64 (k : Int) ∧ Below w.heap.size w wr)
  case atStart => exact ⟨0, by omega, rfl, Below.refl _ _⟩
  case round =>
    obtain ⟨k, hk, rfl, hbl⟩ := hrel
    by_cases hlt : k < xs.length
    · have hd : decide (k < xs.length) = true := decide_eq_true hlt
      obtain ⟨a, rfl, h1⟩ := (HR.out.1.below hbl).cell k hlt
      obtain ⟨b, rfl, h2⟩ := (HR.out.2.below hbl).cell k hlt
      have x1 := h1 0 _ rfl
      have x2 := h2 0 _ rfl
      rw [Nat.mul_one, Nat.add_zero] at x1 x2
      generalize xs[k] = x at *
      have HB := Lib.hid hbl
      have hki : (k : Int) < (xs.length : Int) := by omega
      clear hbl h1 h2
      go_upto_region 6 with fail
      go_quiet (fail)
      go_wp2_with fail
      go_roundg (gk - 1)
      case measure => omega
      case rel => exact ⟨k + 1, by omega, by go_num, drewN_below HB.out _⟩
    · have hd : decide (k < xs.length) = false := decide_eq_false hlt
      have HB := Lib.hid hbl
      clear hbl
      go_wp2_with fail
      go_ret
      exact ⟨rfl, HB.out⟩
/-- rows of numbers, each in a block of its own or not -/
def RwN (w : World) (A : Option Addr) (rows : List (List Int)) : Prop := ∀ i (h : i < rows.length), ∃ a s cg, A = some a ∧ w.cell? (a.add i) = some (.slice s rows[i].length cg) ∧ Rd encI 1 w s rows[i]
theorem RwN.nil (w : World) (A : Option Addr) : RwN w A [] := fun i h => by simp at h
theorem RwN.below {w w' : World} {A : Option Addr} {rows : List (List Int)} (h : RwN w A rows) (hb : Below w.heap.size w w') : RwN w' A rows := fun i hi => by
  obtain ⟨a, s, cg, h1, h2, h3⟩ := h i hi
  exact ⟨a, s, cg, h1, (hb.cell (World.block_lt_of_cell? _ _ h2)).trans h2, h3.below hb⟩
/-- slices.EqualFunc(x, y, slices.Equal) of the same rows twice -/
theorem equal22_calls (rows : List (List Int)) (hsz : rows.length ≤ 2000) (A B : Option Addr) (c c' : Nat) (w : World) (hA : RwN w A rows) (hB : RwN w B rows) :
    Calls Try.prog 22 #[.slice A rows.length c, .slice B rows.length c', .func (.func 23) #[] #[]] w fun e w' => e = .returned (.bool true) ∧ Below w.heap.size w w' := by
  have HR := Lib.hid (And.intro hA hB)
  have hs := fun xs A B c c' w hA hB => equalI_calls xs A B c c' w hA hB
  have HS := Lib.hid hs
  clear hA hB hs
  go_enter Try.func22, Try.ntmps22
  go_wp2_with fail
  go_loopg [6, 7, 8, 9, 17, 18, 19, 20, 21, 22, 23, 24, 25, 26, 27, 28, 29, 30, 31] rows.length (fun gk v6 v7 v8 v9 v17 v18 v19 v20 v21 v22 v23 v24 v25 v26 v27 v28 v29 v30 v31 wr => ∃ k : Nat, k + gk = rows.length ∧ v17 = .int .i64 (k : Int) ∧ Below w.heap.size w wr)
  case atStart => exact ⟨0, by omega, rfl, Below.refl _ _⟩
  case round =>
    obtain ⟨k, hk, rfl, hbl⟩ := hrel
    obtain ⟨wq, hwq⟩ : ∃ wq, wq = wr := ⟨_, rfl⟩
    subst hwq
    by_cases hlt : k < rows.length
    · have hd : decide (k < rows.length) = true := decide_eq_true hlt
      obtain ⟨a, s, cg, rfl, x1, r1⟩ := (HR.out.1.below hbl) k hlt
      obtain ⟨b, s', cg', rfl, x2, r2⟩ := (HR.out.2.below hbl) k hlt
      have hki : (k : Int) < (rows.length : Int) := by omega
      have hcall := HS.out rows[k] s s' cg cg' wq r1 r2
      generalize rows[k] = xs at *
      have HB := Lib.hid (And.intro hbl hcall)
      clear hbl r1 r2 hcall
      go_wp2_with ((with_reducible refine (HB.out.2).mono ?_); rintro e w5 ⟨rfl, hb5⟩; have HB5 := Lib.hid (HB.out.1.trans (hb5.mono HB.out.1.size)); clear hb5)
      go_roundg (gk - 1)
      case measure => omega
      case rel => exact ⟨k + 1, by omega, by go_num, HB5.out⟩
    · have hd : decide (k < rows.length) = false := decide_eq_false hlt
      have HB := Lib.hid hbl
      clear hbl
      go_wp2_with fail
      go_ret
      exact ⟨rfl, HB.out⟩
/-- what Clocks answers, as rows -/
def ckL (l : List Ev) : List (List Int) := (List.range l.length).map (fun i => (List.range (tkF l).length).map (clkN l i))
theorem ckL_len (l : List Ev) : (ckL l).length = l.length := by simp [ckL]
theorem ClkR.rows {w : World} {SA : Option Addr} {l : List Ev} (hl : l.length ≤ 2000) (h : ClkR w SA l) : RwN w SA (ckL l) := fun i hi => by
  rw [ckL_len] at hi
  obtain ⟨sa, g, cg, h1, h2, h3⟩ := h i hi
  have hrow : (ckL l)[i]'(by rw [ckL_len]; exact hi) = (List.range (tkF l).length).map (clkN l i) := by simp [ckL]
  rw [hrow]
  refine ⟨sa, some ⟨g, 0, none⟩, cg, h1, by simpa using h2, ⟨?_, fun q hq => ⟨_, rfl, fun y v hv => ?_⟩⟩⟩
  · have := tkF_len l
    simp
    omega
  · have hq' : q < (tkF l).length := by simpa using hq
    cases y with
    | zero =>
      have h4 := h3 q hq'
      simp at hv
      rw [← hv, add_at]
      simpa using h4
    | succ y => simp at hv
theorem clocks_rows (l : List Ev) (hok : ∀ e ∈ l, e.ok) (hk : chkF l = 0) (A : Option Addr) (c : Nat) (w : World) (hA : Rd encE 11 w A l) :
    Calls Try.prog 16 #[.slice A l.length c] w fun e w' => ∃ S cS, e = .returned (.tuple #[.slice S (ckL l).length cS, .int .i64 0]) ∧ RwN w' S (ckL l) ∧ Below w.heap.size w w' :=
  (clocks_calls l hok hk A c w hA).mono fun e w' ⟨SA, cp, he, hr, hb⟩ => ⟨SA, cp, by rw [ckL_len]; exact he, hr.rows (chk_zero l hk).1, hb⟩
end Go.Proofs.Ythebembnlmddoaa
