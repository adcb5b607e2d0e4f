import Derived.Test.YthebembnlmddoaaBM
namespace Go.Proofs.Ythebembnlmddoaa
open Go.RowKit
set_option maxHeartbeats 8000000
set_option maxRecDepth 100000
set_option linter.unusedSimpArgs false
set_option linter.unusedVariables false

/-! ### what a clock says, counted -/
theorem clkN_nn (l : List Ev) (i k : Nat) : 0 ≤ clkN l i k := by
  have hb := st_bnd l l.length (Nat.le_refl _)
  rw [List.take_length] at hb
  unfold clkN clkF
  rw [List.getD_eq_getElem?_getD, List.getD_eq_getElem?_getD]
  cases h1 : (csF (tkF l) l).As[i]? with
  | none => simp
  | some row =>
    have hm := List.mem_of_getElem? h1
    have h2 := (hb.a row hm).2
    simp only [Option.getD_some]
    cases h3 : row[k]? with
    | none => simp
    | some x => exact (h2 x (List.mem_of_getElem? h3)).1
/-- the events of a task, among the first M, that are at j or happen before it -/
def rankB (l : List Ev) (j : Nat) (t : Int) (i : Nat) : Bool := (decide (i = j) || bfB l i j) && decide ((evA l i).t = t)
def rk (l : List Ev) (j M : Nat) (t : Int) : Nat := (List.range M).countP (rankB l j t)
theorem rk_succ (l : List Ev) (j M : Nat) (t : Int) : rk l j (M + 1) t = rk l j M t + if rankB l j t M = true then 1 else 0 := by
  unfold rk
  rw [List.range_succ, List.countP_append]
  by_cases h : rankB l j t M = true <;> simp [h]
theorem rk_min (l : List Ev) (hr : rtB l = true) (j : Nat) (hj : j < l.length) (t : Int) (ht : t ∈ tkF l) (M : Nat) (hM : M ≤ j + 1) : (rk l j M t : Int) = min (clkN l j ((tkF l).idxOf t)) (cnt l M t : Int) := by
  induction M with
  | zero =>
    have := clkN_nn l j ((tkF l).idxOf t)
    rw [cnt_zero]
    simp [rk]
    omega
  | succ M ih =>
    rw [rk_succ, cnt_succ l M (by omega)]
    have ih := ih (by omega)
    by_cases he : (evA l M).t = t
    · rw [if_pos he]
      have hc : rankB l j t M = true ↔ (cnt l (M + 1) t : Int) ≤ clkN l j ((tkF l).idxOf t) := by
        unfold rankB
        rw [decide_eq_true he, Bool.and_true]
        by_cases e : M = j
        · subst e
          have h1 := clk_num l hr M hj
          rw [he] at h1
          rw [clkN_eq l M _ hj, h1]
          simp
        · have h1 := bf_count l hr M j (by omega) hj e
          rw [he] at h1
          rw [h1]
          simp [e]
      rw [cnt_succ l M (by omega), if_pos he] at hc
      by_cases hb : rankB l j t M = true
      · have := hc.1 hb
        rw [if_pos hb]
        omega
      · have : ¬ _ := fun h => hb (hc.2 h)
        rw [if_neg hb]
        omega
    · rw [if_neg he]
      have : rankB l j t M = false := by unfold rankB; simp [he]
      rw [this]
      simpa using ih
theorem rk_clk (l : List Ev) (hr : rtB l = true) (j : Nat) (hj : j < l.length) (t : Int) (ht : t ∈ tkF l) : (rk l j (j + 1) t : Int) = clkN l j ((tkF l).idxOf t) := by
  rw [rk_min l hr j hj t ht (j + 1) (Nat.le_refl _)]
  have := clk_ub l hr j hj t ht
  rw [clkN_eq l j _ hj]
  omega
theorem tkS_nodup (acc : List Int) (e : Ev) (h : acc.Nodup) : (tkS acc e).Nodup := by
  unfold tkS
  split
  · exact h
  · rename_i hn
    rw [List.nodup_append]
    exact ⟨h, by simp, fun a ha b hb => by simp at hb; subst hb; intro e2; exact hn (by simpa [e2] using ha)⟩
theorem tkF_nodup (l : List Ev) : (tkF l).Nodup :=
  snocRec (P := fun l => (tkF l).Nodup) List.nodup_nil (fun p x h => by rw [tkF_snoc]; exact tkS_nodup _ _ h) l
/-- the row of counts is the row of the clock -/
theorem rk_row (l : List Ev) (hr : rtB l = true) (j : Nat) (hj : j < l.length) : (tkF l).map (fun t => (rk l j (j + 1) t : Int)) = (List.range (tkF l).length).map (clkN l j) := by
  apply List.ext_getElem
  · simp
  · intro k h1 h2
    have hk : k < (tkF l).length := by simpa using h1
    simp only [List.getElem_map, List.getElem_range]
    rw [rk_clk l hr j hj _ (List.getElem_mem hk), (tkF_nodup l).idxOf_getElem k hk]
end Go.Proofs.Ythebembnlmddoaa
