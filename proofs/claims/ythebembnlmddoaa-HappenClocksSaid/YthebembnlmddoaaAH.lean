import Derived.Test.YthebembnlmddoaaAD
namespace Go.Proofs.Ythebembnlmddoaa
open Go.RowKit
set_option maxHeartbeats 4000000
set_option maxRecDepth 100000
set_option linter.unusedSimpArgs false
set_option linter.unusedVariables false

/-! ### happening before is what direct steps give -/
/-- does an event happen directly before a later one -/
def dirE (x y : Ev) : Bool := decide (x.t = y.t) || (decide (x.k = 2) && decide (x.o = y.t)) || (decide (y.k = 3) && decide (y.o = x.t)) || (decide (x.k = 2) && decide (y.k = 3) && decide (x.o = y.o)) || (ordB x && ordB y && spB x y)
theorem dirE_iff (x y : Ev) : dirE x y = true ↔ x.t = y.t ∨ (x.k = 2 ∧ x.o = y.t) ∨ (y.k = 3 ∧ y.o = x.t) ∨ (x.k = 2 ∧ y.k = 3 ∧ x.o = y.o) ∨ (ordB x = true ∧ ordB y = true ∧ spB x y = true) := by
  unfold dirE
  simp only [Bool.or_eq_true, Bool.and_eq_true, decide_eq_true_eq, and_assoc, or_assoc]
theorem fk_take (l : List Ev) (i m : Nat) (him : i < m) (hm : m ≤ l.length) (hk : (evA l i).k = 2) : fkB (l.take m) (evA l i).o = true := by
  unfold fkB
  rw [List.any_eq_true]
  refine ⟨evA l i, ?_, by simp [hk]⟩
  rw [evA_eq l i (by omega), List.mem_take_iff_getElem]
  exact ⟨i, by omega, rfl⟩
theorem bg_take (l : List Ev) (i m : Nat) (him : i < m) (hm : m ≤ l.length) : bgB (l.take m) (evA l i).t = true := by
  unfold bgB
  rw [List.any_eq_true]
  refine ⟨evA l i, ?_, by simp⟩
  rw [evA_eq l i (by omega), List.mem_take_iff_getElem]
  exact ⟨i, by omega, rfl⟩
theorem jn_take (l : List Ev) (i m : Nat) (him : i < m) (hm : m ≤ l.length) (hk : (evA l i).k = 3) : jnB (l.take m) (evA l i).o = true := by
  unfold jnB
  rw [List.any_eq_true]
  refine ⟨evA l i, ?_, by simp [hk]⟩
  rw [evA_eq l i (by omega), List.mem_take_iff_getElem]
  exact ⟨i, by omega, rfl⟩
/-- what a right trace says of an event -/
theorem ok_fork (l : List Ev) (hr : rtB l = true) (m : Nat) (hm : m < l.length) (hk : (evA l m).k = 2) : fkB (l.take m) (evA l m).o = false ∧ bgB (l.take m) (evA l m).o = false ∧ jnB (l.take m) (evA l m).o = false ∧ (evA l m).o ≠ rootF l := by
  have hok := okE_at l hr m hm
  unfold okE at hok
  rw [if_pos hk] at hok
  simp only [Bool.and_eq_true, Bool.not_eq_true', decide_eq_false_iff_not] at hok
  exact ⟨hok.2.1.1.1, hok.2.1.1.2, hok.2.1.2, hok.2.2⟩
theorem ok_join (l : List Ev) (hr : rtB l = true) (m : Nat) (hm : m < l.length) (hk : (evA l m).k = 3) : fkB (l.take m) (evA l m).o = true := by
  have hok := okE_at l hr m hm
  unfold okE at hok
  rw [if_neg (by omega), if_pos hk] at hok
  simp only [Bool.and_eq_true] at hok
  exact hok.2
theorem ok_task (l : List Ev) (hr : rtB l = true) (m : Nat) (hm : m < l.length) : (m = 0 ∨ (evA l m).t = rootF l ∨ fkB (l.take m) (evA l m).t = true) ∧ jnB (l.take m) (evA l m).t = false := by
  have hok := okE_at l hr m hm
  unfold okE at hok
  simp only [Bool.and_eq_true, Bool.not_eq_true', Bool.or_eq_true, decide_eq_true_eq] at hok
  refine ⟨?_, hok.1.2⟩
  rcases hok.1.1.2 with (h | h) | h
  · left
    rw [List.isEmpty_iff, List.take_eq_nil_iff] at h
    rcases h with h | h
    · exact h
    · subst h; simp at hm
  · exact .inr (.inl h)
  · exact .inr (.inr h)
theorem fk_iff (l : List Ev) (m : Nat) (hm : m ≤ l.length) (t : Int) : fkB (l.take m) t = true ↔ ∃ i, i < m ∧ (evA l i).k = 2 ∧ (evA l i).o = t := by
  unfold fkB
  rw [List.any_eq_true]
  constructor
  · rintro ⟨e, he, hp⟩
    obtain ⟨i, hi, rfl⟩ := List.mem_take_iff_getElem.1 he
    simp only [Bool.and_eq_true, decide_eq_true_eq] at hp
    exact ⟨i, by omega, by rw [evA_eq l i (by omega)]; exact hp⟩
  · rintro ⟨i, hi, h1, h2⟩
    refine ⟨evA l i, ?_, by simp [h1, h2]⟩
    rw [evA_eq l i (by omega), List.mem_take_iff_getElem]
    exact ⟨i, by omega, rfl⟩
theorem jn_iff (l : List Ev) (m : Nat) (hm : m ≤ l.length) (t : Int) : jnB (l.take m) t = true ↔ ∃ i, i < m ∧ (evA l i).k = 3 ∧ (evA l i).o = t := by
  unfold jnB
  rw [List.any_eq_true]
  constructor
  · rintro ⟨e, he, hp⟩
    obtain ⟨i, hi, rfl⟩ := List.mem_take_iff_getElem.1 he
    simp only [Bool.and_eq_true, decide_eq_true_eq] at hp
    exact ⟨i, by omega, by rw [evA_eq l i (by omega)]; exact hp⟩
  · rintro ⟨i, hi, h1, h2⟩
    refine ⟨evA l i, ?_, by simp [h1, h2]⟩
    rw [evA_eq l i (by omega), List.mem_take_iff_getElem]
    exact ⟨i, by omega, rfl⟩
theorem bg_iff (l : List Ev) (m : Nat) (hm : m ≤ l.length) (t : Int) : bgB (l.take m) t = true ↔ ∃ i, i < m ∧ (evA l i).t = t := by
  unfold bgB
  rw [List.any_eq_true]
  constructor
  · rintro ⟨e, he, hp⟩
    obtain ⟨i, hi, rfl⟩ := List.mem_take_iff_getElem.1 he
    simp only [decide_eq_true_eq] at hp
    exact ⟨i, by omega, by rw [evA_eq l i (by omega)]; exact hp⟩
  · rintro ⟨i, hi, h1⟩
    refine ⟨evA l i, ?_, by simp [h1]⟩
    rw [evA_eq l i (by omega), List.mem_take_iff_getElem]
    exact ⟨i, by omega, rfl⟩
/-- behind a fork the clock of the task that it began never falls -/
theorem F_ge (l : List Ev) (hr : rtB l = true) (i : Nat) (hk : (evA l i).k = 2) (m : Nat) (him : i < m) (hm : m ≤ l.length) :
    ∃ r, (csF (tkF l) (l.take m)).T (evA l i).o = some r ∧ r.length = (tkF l).length ∧ leK (tkF l).length (ckA l i) r := by
  induction m with
  | zero => omega
  | succ m ih =>
    rw [csF_take _ l m (by omega)]
    simp only [csS]
    by_cases e : i = m
    · subst e
      refine ⟨ckA l i, ?_, ckA_len l i, leK.refl _ _⟩
      rw [if_pos ⟨hk, rfl⟩]
      rfl
    · obtain ⟨r, h1, h2, h3⟩ := ih (by omega) (by omega)
      by_cases hf : (evA l m).k = 2 ∧ (evA l i).o = (evA l m).o
      · exfalso
        have h4 := (ok_fork l hr m (by omega) hf.1).1
        rw [← hf.2, fk_take l i m (by omega) (by omega) hk] at h4
        cases h4
      · rw [if_neg hf]
        by_cases ht : (evA l i).o = (evA l m).t
        · rw [if_pos ht]
          exact ⟨_, rfl, nowF_len _ _ _, h3.trans (nowF_ge_T _ _ _ r (by rw [← ht]; exact h1) h2)⟩
        · rw [if_neg ht]
          exact ⟨r, h1, h2, h3⟩
theorem nowF_ge_J (ts : List Int) (s : Cs) (e : Ev) (r : List Int) (hk : e.k = 3) (hr : s.T e.o = some r) (hl : r.length = ts.length) : leK ts.length r (nowF ts s e) := by
  refine leK.trans ?_ (nowF_le ts s e)
  unfold now3
  rw [if_pos hk, hr]
  exact joinF_right _ _ r (now2_len _ _ _) hl
/-- a direct step is one of happening before -/
theorem dir_bf (l : List Ev) (hr : rtB l = true) (i j : Nat) (hij : i < j) (hj : j < l.length) (h : dirE (evA l i) (evA l j) = true) : bfB l i j = true := by
  rcases (dirE_iff _ _).1 h with h | ⟨h1, h2⟩ | ⟨h1, h2⟩ | ⟨h1, h2, h3⟩ | ⟨h1, h2, h3⟩
  · exact bf_task l hr i j hij hj h
  · obtain ⟨r, g1, g2, g3⟩ := F_ge l hr i h1 j hij (by omega)
    exact bfB_of l i j hij hj (g3.trans (nowF_ge_T _ _ _ r (by rw [← h2]; exact g1) g2))
  · obtain ⟨r, g1, g2, g3⟩ := T_ge l hr i j hij (by omega)
    exact bfB_of l i j hij hj (g3.trans (nowF_ge_J _ _ _ r h1 (by rw [h2]; exact g1) g2))
  · obtain ⟨r, g1, g2, g3⟩ := F_ge l hr i h1 j hij (by omega)
    exact bfB_of l i j hij hj (g3.trans (nowF_ge_J _ _ _ r h2 (by rw [← h3]; exact g1) g2))
  · exact bf_place l i j hij hj h1 h2 h3
/-- where the rows of a state come from -/
theorem src_all (l : List Ev) (m : Nat) (hm : m ≤ l.length) :
    (∀ t r, (csF (tkF l) (l.take m)).T t = some r → ∃ q, q < m ∧ r = ckA l q ∧ ((evA l q).t = t ∨ ((evA l q).k = 2 ∧ (evA l q).o = t))) ∧
    (∀ p r, (csF (tkF l) (l.take m)).P p = some r → ∃ q, q < m ∧ r = ckA l q ∧ ordB (evA l q) = true ∧ ((evA l q).p, (evA l q).q, (evA l q).r) = p) := by
  induction m with
  | zero => exact ⟨fun t r h => (by cases h), fun p r h => (by cases h)⟩
  | succ m ih =>
    obtain ⟨h1, h2⟩ := ih (by omega)
    rw [csF_take _ l m (by omega)]
    refine ⟨fun t r h => ?_, fun p r h => ?_⟩
    · simp only [csS] at h
      split at h
      · rename_i hc
        cases h
        exact ⟨m, by omega, rfl, .inr ⟨hc.1, hc.2.symm⟩⟩
      · split at h
        · rename_i hc
          cases h
          exact ⟨m, by omega, rfl, .inl hc.symm⟩
        · obtain ⟨q, g1, g2, g3⟩ := h1 t r h
          exact ⟨q, by omega, g2, g3⟩
    · simp only [csS] at h
      split at h
      · rename_i hc
        cases h
        exact ⟨m, by omega, rfl, hc.1, hc.2.symm⟩
      · obtain ⟨q, g1, g2, g3⟩ := h2 p r h
        exact ⟨q, by omega, g2, g3⟩
theorem joinF_or (xs : List Int) (o : Option (List Int)) (c : Nat) (h : c < xs.length) (X : Int) (hX : X ≤ (joinF xs (o.getD [])).getD c 0) : X ≤ xs.getD c 0 ∨ ∃ r, o = some r ∧ X ≤ r.getD c 0 := by
  rw [joinF_getD _ _ _ h] at hX
  cases o with
  | none => left; simpa using hX
  | some r =>
    simp only [Option.getD_some] at hX
    split at hX
    · by_cases e : X ≤ xs.getD c 0
      · exact .inl e
      · exact .inr ⟨r, rfl, by omega⟩
    · exact .inl hX
/-- what happens before an event happens before it by a last direct step -/
theorem bf_last (l : List Ev) (hr : rtB l = true) (i j : Nat) (hj : j < l.length) (h : bfB l i j = true) : ∃ s, s < j ∧ dirE (evA l s) (evA l j) = true ∧ (i = s ∨ bfB l i s = true) := by
  have hij := bf_lt l i j h
  by_cases ht : (evA l i).t = (evA l j).t
  · exact ⟨i, hij, (dirE_iff _ _).2 (.inl ht), .inl rfl⟩
  have hc : (tkF l).idxOf (evA l i).t < (tkF l).length := List.idxOf_lt_length_of_mem (evA_mem l i (by omega))
  rw [bf_count l hr i j (by omega) hj (by omega), decide_eq_true_eq, clkN_eq l j _ hj] at h
  have h1 : 1 ≤ cnt l (i + 1) (evA l i).t := by rw [cnt_succ l i (by omega), if_pos rfl]; omega
  have h2 : (cnt l (i + 1) (evA l i).t : Int) ≤ (now3 (tkF l).length (csF (tkF l) (l.take j)) (evA l j)).getD ((tkF l).idxOf (evA l i).t) 0 := by
    unfold ckA nowF at h
    rw [List.getD_eq_getElem?_getD, List.getElem?_set_ne (idx_ne (evA_mem l j hj) (evA_mem l i (by omega)) (fun e => ht e.symm)), ← List.getD_eq_getElem?_getD] at h
    exact h
  obtain ⟨s1, s2⟩ := src_all l j (by omega)
  have fin : ∀ q, q < j → (cnt l (i + 1) (evA l i).t : Int) ≤ (ckA l q).getD ((tkF l).idxOf (evA l i).t) 0 → i = q ∨ bfB l i q = true := fun q hq hle => by
    by_cases e : i = q
    · exact .inl e
    · right
      rw [bf_count l hr i q (by omega) (by omega) e, decide_eq_true_eq, clkN_eq l q _ (by omega)]
      exact hle
  have step3 : (cnt l (i + 1) (evA l i).t : Int) ≤ (now2 (tkF l).length (csF (tkF l) (l.take j)) (evA l j)).getD ((tkF l).idxOf (evA l i).t) 0 ∨ ((evA l j).k = 3 ∧ ∃ r, (csF (tkF l) (l.take j)).T (evA l j).o = some r ∧ (cnt l (i + 1) (evA l i).t : Int) ≤ r.getD ((tkF l).idxOf (evA l i).t) 0) := by
    unfold now3 at h2
    split at h2
    · rename_i hk
      rcases joinF_or _ _ _ (by rw [now2_len]; exact hc) _ h2 with g | g
      · exact .inl g
      · exact .inr ⟨hk, g⟩
    · exact .inl h2
  rcases step3 with g | ⟨hk, r, g1, g2⟩
  · have step2 : (cnt l (i + 1) (evA l i).t : Int) ≤ (now1 (tkF l).length (csF (tkF l) (l.take j)) (evA l j)).getD ((tkF l).idxOf (evA l i).t) 0 ∨ (ordB (evA l j) = true ∧ ∃ r, (csF (tkF l) (l.take j)).P ((evA l j).p, (evA l j).q, (evA l j).r) = some r ∧ (cnt l (i + 1) (evA l i).t : Int) ≤ r.getD ((tkF l).idxOf (evA l i).t) 0) := by
      unfold now2 at g
      split at g
      · rename_i ho
        rcases joinF_or _ _ _ (by rw [now1_len]; exact hc) _ g with g | g
        · exact .inl g
        · exact .inr ⟨ho, g⟩
      · exact .inl g
    rcases step2 with g | ⟨ho, r, g1, g2⟩
    · unfold now1 at g
      rcases joinF_or _ _ _ (by simpa using hc) _ g with g | ⟨r, g1, g2⟩
      · exfalso
        rw [getD_in _ _ (by simpa using hc), List.getElem_replicate] at g
        omega
      · obtain ⟨q, q1, rfl, q3⟩ := s1 _ _ g1
        refine ⟨q, q1, (dirE_iff _ _).2 ?_, fin q q1 g2⟩
        rcases q3 with q3 | q3
        · exact .inl q3
        · exact .inr (.inl q3)
    · obtain ⟨q, q1, rfl, q3, q4⟩ := s2 _ _ g1
      refine ⟨q, q1, (dirE_iff _ _).2 (.inr (.inr (.inr (.inr ⟨q3, ho, ?_⟩)))), fin q q1 g2⟩
      unfold spB
      simp only [Prod.mk.injEq] at q4
      simp [q4.1, q4.2.1, q4.2.2]
  · obtain ⟨q, q1, rfl, q3⟩ := s1 _ _ g1
    refine ⟨q, q1, (dirE_iff _ _).2 ?_, fin q q1 g2⟩
    rcases q3 with q3 | q3
    · exact .inr (.inr (.inl ⟨hk, q3.symm⟩))
    · exact .inr (.inr (.inr (.inl ⟨q3.1, hk, q3.2⟩)))
theorem bf_iff (l : List Ev) (hr : rtB l = true) (i j : Nat) (hj : j < l.length) : bfB l i j = true ↔ ∃ s, s < j ∧ dirE (evA l s) (evA l j) = true ∧ (i = s ∨ bfB l i s = true) := by
  refine ⟨bf_last l hr i j hj, ?_⟩
  rintro ⟨s, h1, h2, h3⟩
  have := dir_bf l hr s j h1 hj h2
  rcases h3 with rfl | h3
  · exact this
  · exact bf_trans l hr i s j hj h3 this
end Go.Proofs.Ythebembnlmddoaa
