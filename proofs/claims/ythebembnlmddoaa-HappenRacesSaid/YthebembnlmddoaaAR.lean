import Derived.Test.YthebembnlmddoaaAQ
namespace Go.Proofs.Ythebembnlmddoaa
open Go.RowKit
set_option maxHeartbeats 4000000
set_option maxRecDepth 100000
set_option linter.unusedSimpArgs false
set_option linter.unusedVariables false

/-! ### the witness of a race is permitted -/
def wtO (l : List Ev) (i j p q : Nat) : List Nat := wtA l i j l.length ++ [p, q] ++ wtC l i j l.length
theorem witL_eq (l : List Ev) (i j : Nat) : witL l i j = wtO l i j i j := rfl
theorem wtA_mem (l : List Ev) (i j m x : Nat) : x ∈ wtA l i j m ↔ x < m ∧ x ≠ i ∧ x ≠ j ∧ wtB l i j x = true := by
  unfold wtA
  rw [List.mem_filter, List.mem_range]
  simp only [Bool.and_eq_true, Bool.not_eq_true', Bool.or_eq_false_iff, decide_eq_false_iff_not, and_assoc, ne_eq]
theorem wtC_mem (l : List Ev) (i j m x : Nat) : x ∈ wtC l i j m ↔ x < m ∧ x ≠ i ∧ x ≠ j ∧ wtB l i j x = false := by
  unfold wtC
  rw [List.mem_filter, List.mem_range]
  simp only [Bool.and_eq_true, Bool.not_eq_true', Bool.or_eq_false_iff, decide_eq_false_iff_not, and_assoc, ne_eq]
theorem wt_count (l : List Ev) (i j : Nat) (hij : i < j) (m : Nat) : (wtA l i j m).length + (wtC l i j m).length + (if i < m then 1 else 0) + (if j < m then 1 else 0) = m := by
  induction m with
  | zero => simp [wtA, wtC]
  | succ m ih =>
    rw [(wt_succ l i j m).1, (wt_succ l i j m).2, List.length_append, List.length_append]
    by_cases h1 : m = i
    · subst h1
      have hA : (if (!(decide (m = m) || decide (m = j)) && wtB l m j m) = true then [m] else []) = [] := by simp
      have hC : (if (!(decide (m = m) || decide (m = j)) && !wtB l m j m) = true then [m] else []) = [] := by simp
      have g1 : ¬ m < m := by omega
      have g2 : ¬ j < m := by omega
      have g3 : m < m + 1 := by omega
      have g4 : ¬ j < m + 1 := by omega
      rw [hA, hC, if_pos g3, if_neg g4, List.length_nil]
      simp only [if_neg g1, if_neg g2] at ih
      omega
    · by_cases h2 : m = j
      · subst h2
        have hA : (if (!(decide (m = i) || decide (m = m)) && wtB l i m m) = true then [m] else []) = [] := by simp
        have hC : (if (!(decide (m = i) || decide (m = m)) && !wtB l i m m) = true then [m] else []) = [] := by simp
        have g1 : i < m := hij
        have g2 : ¬ m < m := by omega
        have g3 : m < m + 1 := by omega
        have g4 : i < m + 1 := by omega
        rw [hA, hC, if_pos g3, if_pos g4, List.length_nil]
        simp only [if_pos g1, if_neg g2] at ih
        omega
      · have e : (!(decide (m = i) || decide (m = j))) = true := by simp [h1, h2]
        have a1 : (if i < m + 1 then 1 else 0) = if i < m then 1 else 0 := by
          by_cases h : i < m
          · rw [if_pos h, if_pos (by omega)]
          · rw [if_neg h, if_neg (by omega)]
        have a2 : (if j < m + 1 then 1 else 0) = if j < m then 1 else 0 := by
          by_cases h : j < m
          · rw [if_pos h, if_pos (by omega)]
          · rw [if_neg h, if_neg (by omega)]
        rw [a1, a2, e]
        cases wtB l i j m with
        | true => simp; omega
        | false => simp; omega
theorem app3_lt {α : Type} (A C : List α) (p q : α) (k : Nat) (h : k < A.length) (hk : k < (A ++ [p, q] ++ C).length) : (A ++ [p, q] ++ C)[k] = A[k] := by
  rw [List.getElem_append_left (by simp; omega), List.getElem_append_left h]
theorem app3_mid {α : Type} (A C : List α) (p q : α) (k : Nat) (h : k < 2) (hk : A.length + k < (A ++ [p, q] ++ C).length) : (A ++ [p, q] ++ C)[A.length + k] = [p, q][k] := by
  rw [List.getElem_append_left (by simp; omega), List.getElem_append_right (by omega)]
  simp
theorem app3_ge {α : Type} (A C : List α) (p q : α) (k : Nat) (h : k < C.length) (hk : A.length + 2 + k < (A ++ [p, q] ++ C).length) : (A ++ [p, q] ++ C)[A.length + 2 + k] = C[k] := by
  rw [List.getElem_append_right (by simp)]
  simp
theorem filter_sorted (P : Nat → Bool) (n : Nat) : ((List.range n).filter P).Pairwise (· < ·) := List.Pairwise.filter _ List.pairwise_lt_range
theorem sorted_take {xs : List Nat} (hs : xs.Pairwise (· < ·)) (k : Nat) (hk : k < xs.length) (x : Nat) (hx : x ∈ xs) (hlt : x < xs[k]) : x ∈ xs.take k := by
  obtain ⟨m, hm, rfl⟩ := List.mem_iff_getElem.1 hx
  rw [List.mem_take_iff_getElem]
  refine ⟨m, ?_, rfl⟩
  have : m < k := by
    apply Classical.byContradiction
    intro hn
    by_cases e : m = k
    · subst e; omega
    · have := (List.pairwise_iff_getElem.1 hs) k m hk hm (by omega)
      omega
  omega
theorem wt_perm (l : List Ev) (hr : rtB l = true) (i j : Nat) (hij : i < j) (hj : j < l.length) (hno : bfB l i j = false) (p q : Nat) (hpq : (p = i ∧ q = j) ∨ (p = j ∧ q = i)) : PermF l (wtO l i j p q) := by
  have hlen : (wtO l i j p q).length = l.length := by
    have := wt_count l i j hij l.length
    rw [if_pos (by omega), if_pos hj] at this
    unfold wtO
    simp
    omega
  have hA := filter_sorted (fun x => !(decide (x = i) || decide (x = j)) && wtB l i j x) l.length
  have hC := filter_sorted (fun x => !(decide (x = i) || decide (x = j)) && !wtB l i j x) l.length
  have ndA : (wtA l i j l.length).Nodup := hA.imp (fun h => by omega)
  have ndC : (wtC l i j l.length).Nodup := hC.imp (fun h => by omega)
  have inA : ∀ x, x < l.length → x ≠ i → x ≠ j → wtB l i j x = true → x ∈ wtA l i j l.length := fun x h1 h2 h3 h4 => (wtA_mem l i j _ x).2 ⟨h1, h2, h3, h4⟩
  have nb : ∀ x, bfB l x i = true ∨ bfB l x j = true → wtB l i j x = true := fun x h => by
    unfold wtB
    rcases h with h | h <;> simp [h]
  have nb' : ∀ x, wtB l i j x = true → bfB l x i = true ∨ bfB l x j = true := fun x h => by
    unfold wtB at h
    simpa using h
  refine ⟨⟨fun x hx => ?_, ?_, fun k hk x hx hb => ?_⟩, hlen⟩
  · unfold wtO at hx
    simp only [List.mem_append, List.mem_cons, List.not_mem_nil, or_false] at hx
    rcases hx with (hx | hx) | hx
    · exact ((wtA_mem l i j _ x).1 hx).1
    · rcases hpq with ⟨rfl, rfl⟩ | ⟨rfl, rfl⟩ <;> rcases hx with rfl | rfl <;> omega
    · exact ((wtC_mem l i j _ x).1 hx).1
  · unfold wtO
    rw [List.nodup_append, List.nodup_append]
    refine ⟨⟨ndA, ?_, fun a ha b hb => ?_⟩, ndC, fun a ha b hb => ?_⟩
    · have : p ≠ q := by rcases hpq with ⟨rfl, rfl⟩ | ⟨rfl, rfl⟩ <;> omega
      simpa using this
    · have h := (wtA_mem l i j _ a).1 ha
      simp only [List.mem_cons, List.not_mem_nil, or_false] at hb
      rcases hpq with ⟨rfl, rfl⟩ | ⟨rfl, rfl⟩ <;> rcases hb with rfl | rfl
      · exact h.2.1
      · exact h.2.2.1
      · exact h.2.2.1
      · exact h.2.1
    · have h := (wtC_mem l i j _ b).1 hb
      rw [List.mem_append] at ha
      rcases ha with ha | ha
      · have h2 := (wtA_mem l i j _ a).1 ha
        intro e
        subst e
        rw [h2.2.2.2] at h
        cases h.2.2.2
      · simp only [List.mem_cons, List.not_mem_nil, or_false] at ha
        intro e
        subst e
        rcases hpq with ⟨rfl, rfl⟩ | ⟨rfl, rfl⟩ <;> rcases ha with rfl | rfl
        · exact h.2.1 rfl
        · exact h.2.2.1 rfl
        · exact h.2.2.1 rfl
        · exact h.2.1 rfl
  · have hkl := hk
    rw [hlen] at hkl
    have hla : (wtA l i j l.length).length + 2 + (wtC l i j l.length).length = l.length := by
      have h1 := hlen
      unfold wtO at h1
      simp only [List.length_append, List.length_cons, List.length_nil] at h1
      omega
    by_cases c1 : k < (wtA l i j l.length).length
    · have e1 : (wtO l i j p q)[k] = (wtA l i j l.length)[k] := app3_lt _ _ _ _ k c1 hk
      have e2 : (wtO l i j p q).take k = (wtA l i j l.length).take k := by
        unfold wtO
        rw [List.append_assoc, List.take_append_of_le_length (by omega)]
      rw [e1] at hb
      rw [e2]
      have hy := (wtA_mem l i j _ _).1 (List.getElem_mem c1)
      have hxy := bf_lt l _ _ hb
      refine sorted_take hA k c1 x (inA x hx ?_ ?_ ?_) hxy
      · rintro rfl
        rcases nb' _ hy.2.2.2 with h | h
        · have := bf_lt l _ _ h; omega
        · have := bf_trans l hr _ _ _ hj hb h
          rw [hno] at this; cases this
      · rintro rfl
        rcases nb' _ hy.2.2.2 with h | h
        · have := bf_lt l _ _ h; omega
        · have := bf_lt l _ _ h; omega
      · rcases nb' _ hy.2.2.2 with h | h
        · exact nb x (.inl (bf_trans l hr _ _ _ (by omega) hb h))
        · exact nb x (.inr (bf_trans l hr _ _ _ hj hb h))
    · by_cases c2 : k < (wtA l i j l.length).length + 2
      · have hkx : (wtO l i j p q)[k] = i ∨ (wtO l i j p q)[k] = j := by
          obtain ⟨m, rfl⟩ : ∃ m, k = (wtA l i j l.length).length + m := ⟨k - (wtA l i j l.length).length, by omega⟩
          have e1 : (wtO l i j p q)[(wtA l i j l.length).length + m] = [p, q][m]'(by simp; omega) := app3_mid _ _ _ _ m (by omega) hk
          rw [e1]
          rcases (show m = 0 ∨ m = 1 by omega) with rfl | rfl
          · rcases hpq with ⟨rfl, rfl⟩ | ⟨rfl, rfl⟩ <;> simp
          · rcases hpq with ⟨rfl, rfl⟩ | ⟨rfl, rfl⟩ <;> simp
        have hxA : x ∈ wtA l i j l.length := by
          rcases hkx with h | h
          · rw [h] at hb
            have := bf_lt l _ _ hb
            exact inA x hx (by omega) (by omega) (nb x (.inl hb))
          · rw [h] at hb
            have := bf_lt l _ _ hb
            refine inA x hx ?_ (by omega) (nb x (.inr hb))
            rintro rfl
            rw [hno] at hb; cases hb
        have e2 : wtO l i j p q = wtA l i j l.length ++ ([p, q] ++ wtC l i j l.length) := by unfold wtO; rw [List.append_assoc]
        rw [e2, List.take_append]
        rw [List.mem_append]
        left
        rw [List.take_of_length_le (by omega)]
        exact hxA
      · have e2 : wtO l i j p q = (wtA l i j l.length ++ [p, q]) ++ wtC l i j l.length := rfl
        have hl2 : (wtA l i j l.length ++ [p, q]).length = (wtA l i j l.length).length + 2 := by simp
        obtain ⟨m, rfl⟩ : ∃ m, k = (wtA l i j l.length).length + 2 + m := ⟨k - ((wtA l i j l.length).length + 2), by omega⟩
        have e1 : (wtO l i j p q)[(wtA l i j l.length).length + 2 + m] = (wtC l i j l.length)[m]'(by omega) := app3_ge _ _ _ _ m (by omega) hk
        rw [e1] at hb
        have hxy := bf_lt l _ _ hb
        rw [e2, List.take_append, List.mem_append, List.take_of_length_le (by omega), hl2]
        by_cases hxi : x = i
        · left
          subst hxi
          rcases hpq with ⟨rfl, rfl⟩ | ⟨rfl, rfl⟩ <;> simp
        · by_cases hxj : x = j
          · left
            subst hxj
            rcases hpq with ⟨rfl, rfl⟩ | ⟨rfl, rfl⟩ <;> simp
          · cases hw : wtB l i j x with
            | true =>
              left
              rw [List.mem_append]
              exact .inl (inA x hx hxi hxj hw)
            | false =>
              right
              rw [show (wtA l i j l.length).length + 2 + m - ((wtA l i j l.length).length + 2) = m by omega]
              have hml : m < (wtC l i j l.length).length := by omega
              exact sorted_take (xs := wtC l i j l.length) hC m hml x ((wtC_mem l i j _ x).2 ⟨hx, hxi, hxj, hw⟩) hxy
end Go.Proofs.Ythebembnlmddoaa
