import Derived.Test.YthebembnlmddoaaAC
namespace Go.Proofs.Ythebembnlmddoaa
open Go.RowKit
set_option maxHeartbeats 4000000
set_option maxRecDepth 100000
set_option linter.unusedSimpArgs false
set_option linter.unusedVariables false

/-! ### clocks count -/
def cnt (l : List Ev) (m : Nat) (t : Int) : Nat := (l.take m).countP (fun e => decide (e.t = t))
theorem cnt_zero (l : List Ev) (t : Int) : cnt l 0 t = 0 := rfl
theorem cnt_succ (l : List Ev) (m : Nat) (h : m < l.length) (t : Int) : cnt l (m + 1) t = cnt l m t + if (evA l m).t = t then 1 else 0 := by
  unfold cnt
  rw [take_snoc l m h, List.countP_append, ← evA_eq l m h]
  by_cases e : (evA l m).t = t <;> simp [e]
theorem cnt_mono (l : List Ev) (t : Int) (m n : Nat) (h : m ≤ n) (hn : n ≤ l.length) : cnt l m t ≤ cnt l n t := by
  induction n with
  | zero => obtain rfl : m = 0 := by omega
            exact Nat.le_refl _
  | succ n ih =>
    by_cases e : m = n + 1
    · subst e; exact Nat.le_refl _
    · rw [cnt_succ l n (by omega)]
      have := ih (by omega) (by omega)
      omega
theorem joinF_getD (xs ys : List Int) (c : Nat) (h : c < xs.length) : (joinF xs ys).getD c 0 = if c < ys.length then max (xs.getD c 0) (ys.getD c 0) else xs.getD c 0 := by
  rw [getD_in (joinF xs ys) c (by rw [joinF_len]; exact h), joinF_get]
theorem joinF_ub (xs ys : List Int) (c : Nat) (h : c < xs.length) (B : Int) (h1 : xs.getD c 0 ≤ B) (h2 : ys.getD c 0 ≤ B) : (joinF xs ys).getD c 0 ≤ B := by
  rw [joinF_getD xs ys c h]
  split <;> omega
/-- what the rows of a state say of the tasks' numbers of events -/
structure CntI (l : List Ev) (m : Nat) (s : Cs) : Prop where
  own : ∀ t r, s.T t = some r → r.getD ((tkF l).idxOf t) 0 = (cnt l m t : Int)
  non : ∀ t, s.T t = none → cnt l m t = 0
  tub : ∀ t u r, t ∈ tkF l → s.T u = some r → r.getD ((tkF l).idxOf t) 0 ≤ (cnt l m t : Int)
  pub : ∀ t p r, t ∈ tkF l → s.P p = some r → r.getD ((tkF l).idxOf t) 0 ≤ (cnt l m t : Int)
theorem now3_ub (l : List Ev) (m : Nat) (s : Cs) (h : CntI l m s) (e : Ev) (t : Int) (ht : t ∈ tkF l) : (now3 (tkF l).length s e).getD ((tkF l).idxOf t) 0 ≤ (cnt l m t : Int) := by
  have hi : (tkF l).idxOf t < (tkF l).length := List.idxOf_lt_length_of_mem ht
  have hT : ∀ u, ((s.T u).getD []).getD ((tkF l).idxOf t) 0 ≤ (cnt l m t : Int) := fun u => by
    cases hu : s.T u with
    | none => simp
    | some r => exact h.tub t u r ht hu
  have hP : ∀ p, ((s.P p).getD []).getD ((tkF l).idxOf t) 0 ≤ (cnt l m t : Int) := fun p => by
    cases hu : s.P p with
    | none => simp
    | some r => exact h.pub t p r ht hu
  have h1 : (now1 (tkF l).length s e).getD ((tkF l).idxOf t) 0 ≤ (cnt l m t : Int) := by
    unfold now1
    exact joinF_ub _ _ _ (by simpa using hi) _ (by rw [getD_in _ _ (by simpa using hi)]; simp) (hT _)
  have h2 : (now2 (tkF l).length s e).getD ((tkF l).idxOf t) 0 ≤ (cnt l m t : Int) := by
    unfold now2
    split
    · exact joinF_ub _ _ _ (by rw [now1_len]; exact hi) _ h1 (hP _)
    · exact h1
  unfold now3
  split
  · exact joinF_ub _ _ _ (by rw [now2_len]; exact hi) _ h2 (hT _)
  · exact h2
theorem now3_own (l : List Ev) (m : Nat) (s : Cs) (h : CntI l m s) (hb : s.bnd (tkF l).length m) (e : Ev) (ht : e.t ∈ tkF l) : (now3 (tkF l).length s e).getD ((tkF l).idxOf e.t) 0 = (cnt l m e.t : Int) := by
  have hi : (tkF l).idxOf e.t < (tkF l).length := List.idxOf_lt_length_of_mem ht
  have hle := now3_ub l m s h e e.t ht
  have hge : (cnt l m e.t : Int) ≤ (now3 (tkF l).length s e).getD ((tkF l).idxOf e.t) 0 := by
    cases hT : s.T e.t with
    | none =>
      rw [h.non _ hT, getD_in _ _ (by rw [now3_len]; exact hi)]
      exact (now3_bnd hb e _ (List.getElem_mem _)).1
    | some r =>
      rw [← h.own _ r hT]
      exact ((now1_le _ s e r hT (hb.t _ r hT).1).trans ((now12_le _ s e).trans (now23_le _ s e))) _ hi
  omega
theorem nowF_own (l : List Ev) (m : Nat) (hm : m < l.length) (s : Cs) (h : CntI l m s) (hb : s.bnd (tkF l).length m) (ht : (evA l m).t ∈ tkF l) : (nowF (tkF l) s (evA l m)).getD ((tkF l).idxOf (evA l m).t) 0 = (cnt l (m + 1) (evA l m).t : Int) := by
  have hi : (tkF l).idxOf (evA l m).t < (tkF l).length := List.idxOf_lt_length_of_mem ht
  unfold nowF
  rw [List.getD_eq_getElem?_getD (l := (now3 (tkF l).length s (evA l m)).set _ _), List.getElem?_set_self (by rw [now3_len]; exact hi), now3_own l m s h hb _ ht, cnt_succ l m hm, if_pos rfl]
  rfl
theorem idx_ne {ts : List Int} {a b : Int} (ha : a ∈ ts) (hb : b ∈ ts) (h : a ≠ b) : ts.idxOf a ≠ ts.idxOf b := by
  intro e
  have h1 := List.getElem_idxOf (List.idxOf_lt_length_of_mem ha)
  have h2 := List.getElem_idxOf (List.idxOf_lt_length_of_mem hb)
  simp only [e] at h1
  exact h (h1.symm.trans h2)
theorem nowF_ub (l : List Ev) (m : Nat) (hm : m < l.length) (s : Cs) (h : CntI l m s) (hb : s.bnd (tkF l).length m) (ht : (evA l m).t ∈ tkF l) (t : Int) (htt : t ∈ tkF l) : (nowF (tkF l) s (evA l m)).getD ((tkF l).idxOf t) 0 ≤ (cnt l (m + 1) t : Int) := by
  by_cases e : (evA l m).t = t
  · subst e
    rw [nowF_own l m hm s h hb ht]
    exact Int.le_refl _
  · have := now3_ub l m s h (evA l m) t htt
    rw [cnt_succ l m hm, if_neg e]
    unfold nowF
    rw [List.getD_eq_getElem?_getD (l := (now3 (tkF l).length s (evA l m)).set _ _), List.getElem?_set_ne (idx_ne ht htt e), ← List.getD_eq_getElem?_getD]
    exact this
theorem cnt_bg (l : List Ev) (m : Nat) (t : Int) (h : bgB (l.take m) t = false) : cnt l m t = 0 := by
  unfold cnt
  rw [List.countP_eq_zero]
  unfold bgB at h
  rw [List.any_eq_false] at h
  exact h
theorem evA_mem (l : List Ev) (m : Nat) (hm : m < l.length) : (evA l m).t ∈ tkF l := by rw [tkF_mem, evA_eq l m hm]; exact ⟨_, List.getElem_mem hm, rfl⟩
theorem cnt_all (l : List Ev) (hr : rtB l = true) (m : Nat) (hm : m ≤ l.length) : CntI l m (csF (tkF l) (l.take m)) := by
  induction m with
  | zero => exact ⟨fun t r h => (by cases h), fun t _ => rfl, fun t u r _ h => (by cases h), fun t p r _ h => (by cases h)⟩
  | succ m ih =>
    have h := ih (by omega)
    have hml : m < l.length := by omega
    have hb : (csF (tkF l) (l.take m)).bnd (tkF l).length m := by
      have := csF_bnd (tkF l) (l.take m) (fun e he => by rw [tkF_mem]; exact ⟨e, List.mem_of_mem_take he, rfl⟩)
      rw [List.length_take, Nat.min_eq_left (by omega)] at this
      exact this
    have ht := evA_mem l m hml
    have hub := fun t htt => nowF_ub l m hml _ h hb ht t htt
    have hown := nowF_own l m hml _ h hb ht
    have hnn := nowF_bnd hb (evA l m) ht
    have hfork : (evA l m).k = 2 → cnt l (m + 1) (evA l m).o = 0 := fun hk => by
      have hok := okE_at l hr m hml
      unfold okE at hok
      rw [if_pos hk] at hok
      simp only [Bool.and_eq_true, Bool.not_eq_true'] at hok
      rw [cnt_succ l m hml, cnt_bg l m _ hok.2.1.1.2, if_neg]
      intro e
      have hf := hok.1.1.1
      unfold fmB at hf
      by_cases h0 : (evA l m).t < 0
      · rw [if_pos h0] at hf; cases hf
      · rw [if_neg h0, if_neg (by omega), if_pos (Or.inl hk)] at hf
        simp only [Bool.and_eq_true, Bool.not_eq_true', decide_eq_false_iff_not] at hf
        exact hf.2 e.symm
    rw [csF_take _ l m hml]
    refine ⟨fun t r hr => ?_, fun t hr => ?_, fun t u r htt hr => ?_, fun t p r htt hr => ?_⟩
    · simp only [csS] at hr
      split at hr
      · rename_i hc
        cases hr
        obtain ⟨hk, rfl⟩ := hc
        rw [hfork hk]
        by_cases hto : (evA l m).o ∈ tkF l
        · have h1 := hub _ hto
          rw [hfork hk] at h1
          have hi : (tkF l).idxOf (evA l m).o < (nowF (tkF l) (csF (tkF l) (l.take m)) (evA l m)).length := by rw [nowF_len]; exact List.idxOf_lt_length_of_mem hto
          have h2 := (hnn _ (List.getElem_mem hi)).1
          rw [getD_in _ _ hi] at h1 ⊢
          omega
        · rw [List.getD_eq_getElem?_getD, List.getElem?_eq_none (by rw [nowF_len, List.idxOf_eq_length hto]; exact Nat.le_refl _)]
          rfl
      · split at hr
        · rename_i hc
          cases hr
          subst hc
          exact hown
        · rename_i hc
          rw [cnt_succ l m hml, if_neg (fun e => hc e.symm)]
          exact h.own t r hr
    · simp only [csS] at hr
      split at hr
      · cases hr
      · split at hr
        · cases hr
        · rename_i hc
          rw [cnt_succ l m hml, if_neg (fun e => hc e.symm)]
          exact h.non t hr
    · have hs : ∀ x : Int, x ≤ (cnt l m t : Int) → x ≤ (cnt l (m + 1) t : Int) := fun x hx => by
        have := cnt_mono l t m (m + 1) (by omega) (by omega)
        omega
      simp only [csS] at hr
      split at hr
      · cases hr; exact hub t htt
      · split at hr
        · cases hr; exact hub t htt
        · exact hs _ (h.tub t u r htt hr)
    · have hs : ∀ x : Int, x ≤ (cnt l m t : Int) → x ≤ (cnt l (m + 1) t : Int) := fun x hx => by
        have := cnt_mono l t m (m + 1) (by omega) (by omega)
        omega
      simp only [csS] at hr
      split at hr
      · cases hr; exact hub t htt
      · exact hs _ (h.pub t p r htt hr)
theorem st_bnd (l : List Ev) (m : Nat) (hm : m ≤ l.length) : (csF (tkF l) (l.take m)).bnd (tkF l).length m := by
  have := csF_bnd (tkF l) (l.take m) (fun e he => by rw [tkF_mem]; exact ⟨e, List.mem_of_mem_take he, rfl⟩)
  rw [List.length_take, Nat.min_eq_left hm] at this
  exact this
/-- the number of an event in its task -/
theorem clk_num (l : List Ev) (hr : rtB l = true) (i : Nat) (hi : i < l.length) : (ckA l i).getD ((tkF l).idxOf (evA l i).t) 0 = (cnt l (i + 1) (evA l i).t : Int) :=
  nowF_own l i hi _ (cnt_all l hr i (by omega)) (st_bnd l i (by omega)) (evA_mem l i hi)
theorem clk_ub (l : List Ev) (hr : rtB l = true) (j : Nat) (hj : j < l.length) (t : Int) (ht : t ∈ tkF l) : (ckA l j).getD ((tkF l).idxOf t) 0 ≤ (cnt l (j + 1) t : Int) :=
  nowF_ub l j hj _ (cnt_all l hr j (by omega)) (st_bnd l j (by omega)) (evA_mem l j hj) t ht
/-- an event happens before another one just if the other one's clock counts it -/
theorem bf_count (l : List Ev) (hr : rtB l = true) (i j : Nat) (hi : i < l.length) (hj : j < l.length) (hne : i ≠ j) : bfB l i j = decide ((cnt l (i + 1) (evA l i).t : Int) ≤ clkN l j ((tkF l).idxOf (evA l i).t)) := by
  have e1 : evT l i = (evA l i).t := by rw [evT_eq l i hi, evA_eq l i hi]
  unfold bfB
  rw [e1, clkN_eq l i _ hi, clkN_eq l j _ hj, clk_num l hr i hi]
  by_cases hij : i < j
  · rw [decide_eq_true hij, Bool.true_and]
  · rw [decide_eq_false hij, Bool.false_and]
    symm
    rw [decide_eq_false_iff_not]
    have h1 := clk_ub l hr j hj _ (evA_mem l i hi)
    have h2 := cnt_mono l (evA l i).t (j + 1) i (by omega) (by omega)
    have h3 := cnt_succ l i hi (evA l i).t
    rw [if_pos rfl] at h3
    omega
/-- a row knows: it stands above the clock of each event that it counts -/
def Kn (l : List Ev) (m : Nat) (r : List Int) : Prop := ∀ i, i < m → (ckA l i).getD ((tkF l).idxOf (evA l i).t) 0 ≤ r.getD ((tkF l).idxOf (evA l i).t) 0 → leK (tkF l).length (ckA l i) r
theorem Kn.join {l : List Ev} {m : Nat} {xs ys : List Int} (hml : m ≤ l.length) (hx : xs.length = (tkF l).length) (hy : ys.length = (tkF l).length) (h1 : Kn l m xs) (h2 : Kn l m ys) : Kn l m (joinF xs ys) := by
  intro i hi hle
  have hc : (tkF l).idxOf (evA l i).t < xs.length := by rw [hx]; exact List.idxOf_lt_length_of_mem (evA_mem l i (by omega))
  rw [joinF_getD xs ys _ hc, if_pos (by omega)] at hle
  by_cases h : (ckA l i).getD ((tkF l).idxOf (evA l i).t) 0 ≤ xs.getD ((tkF l).idxOf (evA l i).t) 0
  · exact (h1 i hi h).trans (joinF_left _ _ _ hx)
  · exact (h2 i hi (by omega)).trans (joinF_right _ _ _ hx hy)
theorem Kn.joinO {l : List Ev} {m : Nat} {xs : List Int} (o : Option (List Int)) (hml : m ≤ l.length) (hx : xs.length = (tkF l).length) (hy : ∀ r, o = some r → r.length = (tkF l).length) (h1 : Kn l m xs) (h2 : ∀ r, o = some r → Kn l m r) : Kn l m (joinF xs (o.getD [])) := by
  cases o with
  | none => simp only [Option.getD_none, joinF_nil]; exact h1
  | some r => exact h1.join hml hx (hy r rfl) (h2 r rfl)
theorem Kn.zero (l : List Ev) (hr : rtB l = true) (m : Nat) (hml : m ≤ l.length) : Kn l m (List.replicate (tkF l).length 0) := by
  intro i hi hle
  exfalso
  rw [clk_num l hr i (by omega)] at hle
  have hc : (tkF l).idxOf (evA l i).t < (tkF l).length := List.idxOf_lt_length_of_mem (evA_mem l i (by omega))
  rw [getD_in _ _ (by simpa using hc), List.getElem_replicate, cnt_succ l i (by omega), if_pos rfl] at hle
  omega
theorem Kn.now3 {l : List Ev} (hr : rtB l = true) {m : Nat} (hml : m ≤ l.length) {s : Cs} (hb : s.bnd (tkF l).length m) (hT : ∀ u r, s.T u = some r → Kn l m r) (hP : ∀ p r, s.P p = some r → Kn l m r) (e : Ev) : Kn l m (now3 (tkF l).length s e) := by
  have h1 : Kn l m (now1 (tkF l).length s e) := Kn.joinO _ hml (by simp) (fun r h => (hb.t _ r h).1) (Kn.zero l hr m hml) (fun r h => hT _ r h)
  have h2 : Kn l m (now2 (tkF l).length s e) := by
    unfold now2
    split
    · exact Kn.joinO _ hml (now1_len _ _ _) (fun r h => (hb.p _ r h).1) h1 (fun r h => hP _ r h)
    · exact h1
  unfold Ythebembnlmddoaa.now3
  split
  · exact Kn.joinO _ hml (now2_len _ _ _) (fun r h => (hb.t _ r h).1) h2 (fun r h => hT _ r h)
  · exact h2
theorem Kn.old {l : List Ev} (hr : rtB l = true) {m : Nat} (hml : m < l.length) {r : List Int} (h : Kn l m r) (hub : r.getD ((tkF l).idxOf (evA l m).t) 0 ≤ (cnt l m (evA l m).t : Int)) : Kn l (m + 1) r := by
  intro i hi hle
  by_cases e : i = m
  · subst e
    exfalso
    rw [clk_num l hr i hml, cnt_succ l i hml, if_pos rfl] at hle
    omega
  · exact h i (by omega) hle
theorem kn_all (l : List Ev) (hr : rtB l = true) (m : Nat) (hm : m ≤ l.length) : (∀ u r, (csF (tkF l) (l.take m)).T u = some r → Kn l m r) ∧ (∀ p r, (csF (tkF l) (l.take m)).P p = some r → Kn l m r) ∧ (∀ j, j < m → Kn l m (ckA l j)) := by
  induction m with
  | zero => exact ⟨fun u r h => (by cases h), fun p r h => (by cases h), fun j hj => by omega⟩
  | succ m ih =>
    have hml : m < l.length := by omega
    obtain ⟨h1, h2, h3⟩ := ih (by omega)
    have hb := st_bnd l m (by omega)
    have hc := cnt_all l hr m (by omega)
    have ht := evA_mem l m hml
    have hn3 := Kn.now3 hr (by omega) hb h1 h2 (evA l m)
    have hnow : Kn l (m + 1) (ckA l m) := by
      intro i hi hle
      by_cases e : i = m
      · subst e; exact leK.refl _ _
      · by_cases et : (evA l m).t = (evA l i).t
        · obtain ⟨r, g1, g2, g3⟩ := T_ge l hr i m (by omega) (by omega)
          exact g3.trans (nowF_ge_T _ _ _ r (by rw [et]; exact g1) g2)
        · have hq : (ckA l m).getD ((tkF l).idxOf (evA l i).t) 0 = (now3 (tkF l).length (csF (tkF l) (l.take m)) (evA l m)).getD ((tkF l).idxOf (evA l i).t) 0 := by
            unfold ckA nowF
            rw [List.getD_eq_getElem?_getD, List.getElem?_set_ne (idx_ne ht (evA_mem l i (by omega)) et), ← List.getD_eq_getElem?_getD]
          rw [hq] at hle
          exact (hn3 i (by omega) hle).trans (nowF_le _ _ _)
    rw [csF_take _ l m hml]
    refine ⟨fun u r hu => ?_, fun p r hu => ?_, fun j hj => ?_⟩
    · simp only [csS] at hu
      split at hu
      · cases hu; exact hnow
      · split at hu
        · cases hu; exact hnow
        · exact (h1 u r hu).old hr hml (hc.tub _ u r ht hu)
    · simp only [csS] at hu
      split at hu
      · cases hu; exact hnow
      · exact (h2 p r hu).old hr hml (hc.pub _ p r ht hu)
    · by_cases e : j = m
      · subst e; exact hnow
      · refine (h3 j (by omega)).old hr hml ?_
        have g1 := clk_ub l hr j (by omega) _ ht
        have g2 := cnt_mono l (evA l m).t (j + 1) m (by omega) (by omega)
        omega
/-- happening before is transitive -/
theorem bf_trans (l : List Ev) (hr : rtB l = true) (i j k : Nat) (hk : k < l.length) (h1 : bfB l i j = true) (h2 : bfB l j k = true) : bfB l i k = true := by
  have hij := bf_lt l i j h1
  have hjk := bf_lt l j k h2
  have e2 : evT l j = (evA l j).t := by rw [evT_eq l j (by omega), evA_eq l j (by omega)]
  have e1 : evT l i = (evA l i).t := by rw [evT_eq l i (by omega), evA_eq l i (by omega)]
  unfold bfB at h1 h2
  rw [Bool.and_eq_true, decide_eq_true_eq, decide_eq_true_eq] at h1 h2
  have hle := h2.2
  rw [e2, clkN_eq l j _ (by omega), clkN_eq l k _ hk] at hle
  have hkn := (kn_all l hr l.length (Nat.le_refl _)).2.2 k hk j (by omega) hle
  refine bfB_of l i k (by omega) hk ?_
  have hle1 := h1.2
  rw [e1, clkN_eq l i _ (by omega), clkN_eq l j _ (by omega)] at hle1
  exact ((kn_all l hr l.length (Nat.le_refl _)).2.2 j (by omega) i (by omega) hle1).trans hkn
/-- the trace's own order is permitted -/
theorem pm_id (l : List Ev) : pmA l (List.range l.length) = true := by
  unfold pmA
  rw [List.all_eq_true]
  intro k hk
  have hkl : k < l.length := by simpa using hk
  unfold pmB
  rw [Bool.not_eq_true', List.any_eq_false]
  intro x hx hb
  obtain ⟨q, hq, rfl⟩ := List.mem_iff_getElem.1 hx
  rw [List.getElem_drop, List.getElem_range, List.getD_eq_getElem?_getD, List.getElem?_range hkl] at hb
  have := bf_lt l _ _ hb
  simp at this
  omega
theorem map_id (l : List Ev) : (List.range l.length).map (evA l) = l := by
  apply List.ext_getElem
  · simp
  · intro i h1 h2
    rw [List.getElem_map, List.getElem_range, evA_eq l i h2]
end Go.Proofs.Ythebembnlmddoaa
