import Derived.Test.YthebembnlmddoaaT
namespace Go.Proofs.Ythebembnlmddoaa
open Go.RowKit
set_option maxHeartbeats 4000000
set_option maxRecDepth 100000
set_option linter.unusedSimpArgs false
set_option linter.unusedVariables false

/-! ### clocks grow -/
def leK (K : Nat) (xs ys : List Int) : Prop := ∀ c, c < K → xs.getD c 0 ≤ ys.getD c 0
theorem leK.trans {K : Nat} {xs ys zs : List Int} (h : leK K xs ys) (h2 : leK K ys zs) : leK K xs zs := fun c hc => Int.le_trans (h c hc) (h2 c hc)
theorem leK.refl (K : Nat) (xs : List Int) : leK K xs xs := fun c _ => Int.le_refl _
theorem joinF_left (K : Nat) (xs ys : List Int) (hx : xs.length = K) : leK K xs (joinF xs ys) := by
  intro c hc
  rw [getD_in (joinF xs ys) c (by rw [joinF_len]; omega), joinF_get]
  split <;> omega
theorem joinF_right (K : Nat) (xs ys : List Int) (hx : xs.length = K) (hy : ys.length = K) : leK K ys (joinF xs ys) := by
  intro c hc
  rw [getD_in (joinF xs ys) c (by rw [joinF_len]; omega), joinF_get, if_pos (by omega)]
  omega
theorem now1_le (K : Nat) (s : Cs) (e : Ev) (r : List Int) (hr : s.T e.t = some r) (hl : r.length = K) : leK K r (now1 K s e) := by
  unfold now1
  rw [hr]
  exact joinF_right K _ r (by simp) hl
theorem now12_le (K : Nat) (s : Cs) (e : Ev) : leK K (now1 K s e) (now2 K s e) := by
  unfold now2
  split
  · exact joinF_left K _ _ (now1_len _ _ _)
  · exact leK.refl _ _
theorem now23_le (K : Nat) (s : Cs) (e : Ev) : leK K (now2 K s e) (now3 K s e) := by
  unfold now3
  split
  · exact joinF_left K _ _ (now2_len _ _ _)
  · exact leK.refl _ _
theorem now2_le (K : Nat) (s : Cs) (e : Ev) (r : List Int) (ho : ordB e = true) (hr : s.P (e.p, e.q, e.r) = some r) (hl : r.length = K) : leK K r (now2 K s e) := by
  unfold now2
  rw [if_pos ho, hr]
  exact joinF_right K _ r (now1_len _ _ _) hl
theorem nowF_le (ts : List Int) (s : Cs) (e : Ev) : leK ts.length (now3 ts.length s e) (nowF ts s e) := by
  intro c hc
  unfold nowF
  by_cases h : ts.idxOf e.t = c
  · subst h
    rw [List.getD_eq_getElem?_getD (l := (now3 ts.length s e).set _ _), List.getElem?_set_self (by rw [now3_len]; exact hc)]
    simp only [Option.getD_some]
    omega
  · rw [List.getD_eq_getElem?_getD (l := (now3 ts.length s e).set _ _), List.getElem?_set_ne h, ← List.getD_eq_getElem?_getD]
    exact Int.le_refl _
theorem nowF_ge_T (ts : List Int) (s : Cs) (e : Ev) (r : List Int) (hr : s.T e.t = some r) (hl : r.length = ts.length) : leK ts.length r (nowF ts s e) :=
  (now1_le _ s e r hr hl).trans ((now12_le _ s e).trans ((now23_le _ s e).trans (nowF_le ts s e)))
theorem nowF_ge_P (ts : List Int) (s : Cs) (e : Ev) (r : List Int) (ho : ordB e = true) (hr : s.P (e.p, e.q, e.r) = some r) (hl : r.length = ts.length) : leK ts.length r (nowF ts s e) :=
  (now2_le _ s e r ho hr hl).trans ((now23_le _ s e).trans (nowF_le ts s e))

/-- the clock of the event at i -/
def ckA (l : List Ev) (i : Nat) : List Int := nowF (tkF l) (csF (tkF l) (l.take i)) (evA l i)
theorem csF_take (ts : List Int) (l : List Ev) (n : Nat) (h : n < l.length) : csF ts (l.take (n + 1)) = csS ts (csF ts (l.take n)) (evA l n) := by
  rw [take_snoc l n h, csF_snoc, evA_eq l n h]
theorem csF_As (l : List Ev) (n : Nat) (hn : n ≤ l.length) : ∀ i, i < n → (csF (tkF l) (l.take n)).As[i]? = some (ckA l i) := by
  induction n with
  | zero => intro i hi; omega
  | succ n ih =>
    intro i hi
    rw [csF_take _ l n (by omega)]
    simp only [csS]
    have hl : (csF (tkF l) (l.take n)).As.length = n := by rw [csF_As_len, List.length_take]; omega
    by_cases e : i < n
    · rw [List.getElem?_append_left (by rw [hl]; exact e)]
      exact ih (by omega) i e
    · obtain rfl : i = n := by omega
      rw [List.getElem?_append_right (by omega), hl]
      simp [ckA]
theorem clkN_eq (l : List Ev) (i k : Nat) (hi : i < l.length) : clkN l i k = (ckA l i).getD k 0 := by
  unfold clkN clkF
  have := csF_As l l.length (Nat.le_refl _) i hi
  rw [List.take_length] at this
  have h2 : (csF (tkF l) l).As.getD i [] = ckA l i := by rw [List.getD_eq_getElem?_getD, this]; rfl
  rw [h2]
theorem ckA_len (l : List Ev) (i : Nat) : (ckA l i).length = (tkF l).length := nowF_len _ _ _
theorem okE_at (l : List Ev) (hr : rtB l = true) (m : Nat) (hm : m < l.length) : okE (rootF l) (l.take m) (evA l m) = true := by
  have h := hr
  unfold rtB at h
  rw [List.all_eq_true] at h
  have := h m (by simpa using hm)
  rw [okAt_eq l m hm, ← evA_eq l m hm] at this
  exact this
/-- behind event i its task's clock never falls -/
theorem T_ge (l : List Ev) (hr : rtB l = true) (i : Nat) (m : Nat) (him : i < m) (hm : m ≤ l.length) :
    ∃ r, (csF (tkF l) (l.take m)).T (evA l i).t = some r ∧ r.length = (tkF l).length ∧ leK (tkF l).length (ckA l i) r := by
  induction m with
  | zero => omega
  | succ m ih =>
    rw [csF_take _ l m (by omega)]
    simp only [csS]
    by_cases e : i = m
    · subst e
      refine ⟨ckA l i, ?_, ckA_len l i, leK.refl _ _⟩
      split
      · rfl
      · rw [if_pos rfl]; rfl
    · obtain ⟨r, h1, h2, h3⟩ := ih (by omega) (by omega)
      by_cases hf : (evA l m).k = 2 ∧ (evA l i).t = (evA l m).o
      · exfalso
        have hok := okE_at l hr m (by omega)
        unfold okE at hok
        rw [if_pos hf.1] at hok
        simp only [Bool.and_eq_true, Bool.not_eq_true'] at hok
        have hb := hok.2.1.1.2
        unfold bgB at hb
        rw [List.any_eq_false] at hb
        have hmem : evA l i ∈ l.take m := by
          rw [evA_eq l i (by omega)]
          rw [List.mem_take_iff_getElem]
          exact ⟨i, by omega, rfl⟩
        have := hb _ hmem
        simp [hf.2] at this
      · rw [if_neg hf]
        by_cases ht : (evA l i).t = (evA l m).t
        · rw [if_pos ht]
          refine ⟨_, rfl, nowF_len _ _ _, h3.trans (nowF_ge_T _ _ _ r (by rw [← ht]; exact h1) h2)⟩
        · rw [if_neg ht]
          exact ⟨r, h1, h2, h3⟩
theorem P_ge (l : List Ev) (i : Nat) (ho : ordB (evA l i) = true) (m : Nat) (him : i < m) (hm : m ≤ l.length) :
    ∃ r, (csF (tkF l) (l.take m)).P ((evA l i).p, (evA l i).q, (evA l i).r) = some r ∧ r.length = (tkF l).length ∧ leK (tkF l).length (ckA l i) r := by
  induction m with
  | zero => omega
  | succ m ih =>
    rw [csF_take _ l m (by omega)]
    simp only [csS]
    by_cases e : i = m
    · subst e
      rw [if_pos ⟨ho, rfl⟩]
      exact ⟨ckA l i, rfl, ckA_len l i, leK.refl _ _⟩
    · obtain ⟨r, h1, h2, h3⟩ := ih (by omega) (by omega)
      by_cases hp : ordB (evA l m) = true ∧ ((evA l i).p, (evA l i).q, (evA l i).r) = ((evA l m).p, (evA l m).q, (evA l m).r)
      · rw [if_pos hp]
        refine ⟨_, rfl, nowF_len _ _ _, h3.trans (nowF_ge_P _ _ _ r hp.1 (by rw [← hp.2]; exact h1) h2)⟩
      · rw [if_neg hp]
        exact ⟨r, h1, h2, h3⟩
theorem bfB_of (l : List Ev) (i j : Nat) (hij : i < j) (hj : j < l.length) (h : leK (tkF l).length (ckA l i) (ckA l j)) : bfB l i j = true := by
  unfold bfB
  rw [decide_eq_true hij, Bool.true_and, decide_eq_true_eq, clkN_eq l i _ (by omega), clkN_eq l j _ hj]
  refine h _ ?_
  rw [evT_eq l i (by omega)]
  exact List.idxOf_lt_length_of_mem (by rw [tkF_mem]; exact ⟨_, List.getElem_mem _, rfl⟩)
/-- the events of one task happen in their order -/
theorem bf_task (l : List Ev) (hr : rtB l = true) (i j : Nat) (hij : i < j) (hj : j < l.length) (ht : (evA l i).t = (evA l j).t) : bfB l i j = true := by
  obtain ⟨r, h1, h2, h3⟩ := T_ge l hr i j hij (by omega)
  exact bfB_of l i j hij hj (h3.trans (nowF_ge_T _ _ _ r (by rw [← ht]; exact h1) h2))
/-- so do the strong accesses of one place -/
theorem bf_place (l : List Ev) (i j : Nat) (hij : i < j) (hj : j < l.length) (hi1 : ordB (evA l i) = true) (hj1 : ordB (evA l j) = true) (hs : spB (evA l i) (evA l j) = true) : bfB l i j = true := by
  obtain ⟨r, h1, h2, h3⟩ := P_ge l i hi1 j hij (by omega)
  unfold spB at hs
  simp only [Bool.and_eq_true, decide_eq_true_eq] at hs
  refine bfB_of l i j hij hj (h3.trans (nowF_ge_P _ _ _ r hj1 ?_ h2))
  rw [← hs.1.1, ← hs.1.2, ← hs.2]; exact h1
theorem bf_lt (l : List Ev) (i j : Nat) (h : bfB l i j = true) : i < j := by
  unfold bfB at h
  rw [Bool.and_eq_true] at h
  exact of_decide_eq_true h.1
/-- without races two accesses of one place, one of which writes, are ordered -/
theorem bf_acc (l : List Ev) (hr : rtB l = true) (hn : racesF l = []) (i j : Nat) (hij : i < j) (hj : j < l.length) (hi1 : (evA l i).k = 1) (hj1 : (evA l j).k = 1) (hs : spB (evA l i) (evA l j) = true) (hm : ¬ (evA l i).m = 1 ∨ ¬ (evA l j).m = 1) : bfB l i j = true := by
  by_cases ht : (evA l i).t = (evA l j).t
  · exact bf_task l hr i j hij hj ht
  by_cases hp : (plB (evA l i) || plB (evA l j)) = true
  · cases hb : bfB l i j with
    | true => rfl
    | false =>
      exfalso
      have : (i, j) ∈ racesF l := by
        rw [racesF_mem]
        refine ⟨hij, hj, ?_⟩
        unfold raB cfB
        rw [hi1, hj1, hs, hp, hb]
        rcases hm with hm | hm <;> simp [ht, hm]
      rw [hn] at this
      simp at this
  · simp only [Bool.or_eq_true, not_or, Bool.not_eq_true] at hp
    have f : ∀ x, x < l.length → (evA l x).k = 1 → plB (evA l x) = false → ordB (evA l x) = true := fun x hx hk hp => by
      have := rtB_fm l hr _ (List.getElem_mem hx)
      rw [← evA_eq l x hx] at this
      unfold fmB at this
      by_cases h0 : (evA l x).t < 0
      · rw [if_pos h0] at this; cases this
      · rw [if_neg h0, if_pos hk] at this
        simp only [Bool.and_eq_true, decide_eq_true_eq] at this
        unfold plB at hp
        simp only [Bool.or_eq_false_iff, decide_eq_false_iff_not] at hp
        unfold ordB
        rw [Bool.and_eq_true, decide_eq_true_eq, decide_eq_true_eq]
        exact ⟨hk, by omega⟩
    exact bf_place l i j hij hj (f i (by omega) hi1 hp.1) (f j hj hj1 hp.2) hs

/-! ### the last writer -/
theorem lsE_none (l : List Ev) (j : Nat) (xs : List Nat) (h : ∀ x ∈ xs, hitB l x j = false) : lsE l j xs = -1 := by
  suffices ∀ n, n ≤ xs.length → lsE l j (xs.take n) = -1 by have := this xs.length (Nat.le_refl _); rwa [List.take_length] at this
  intro n
  induction n with
  | zero => intro _; rfl
  | succ n ih =>
    intro hn
    rw [take_snoc xs n (by omega), lsE_snoc, h _ (List.getElem_mem _), if_neg (by simp)]
    exact ih (by omega)
theorem lsE_pos (l : List Ev) (j : Nat) (xs : List Nat) (p : Nat) (hp : p < xs.length) (hh : hitB l xs[p] j = true) (hl : ∀ q (hq : q < xs.length), p < q → hitB l xs[q] j = false) : lsE l j xs = (xs[p] : Int) := by
  suffices ∀ n, n ≤ xs.length → p < n → lsE l j (xs.take n) = (xs[p] : Int) by have := this xs.length (Nat.le_refl _) hp; rwa [List.take_length] at this
  intro n
  induction n with
  | zero => intro _ h; omega
  | succ n ih =>
    intro hn hpn
    rw [take_snoc xs n (by omega), lsE_snoc]
    by_cases e : p = n
    · subst e
      rw [if_pos hh]
    · rw [hl n (by omega) (by omega), if_neg (by simp)]
      exact ih (by omega) (by omega)
theorem hit_max (p : Nat → Bool) (n : Nat) : (∀ x, x < n → p x = false) ∨ ∃ m, m < n ∧ p m = true ∧ ∀ x, m < x → x < n → p x = false := by
  induction n with
  | zero => exact .inl (fun x hx => by omega)
  | succ n ih =>
    cases hp : p n with
    | true => exact .inr ⟨n, by omega, hp, fun x h1 h2 => by omega⟩
    | false =>
      rcases ih with h | ⟨m, h1, h2, h3⟩
      · exact .inl (fun x hx => by by_cases e : x = n; · subst e; exact hp
                                   · exact h x (by omega))
      · exact .inr ⟨m, by omega, h2, fun x hx hxn => by by_cases e : x = n; · subst e; exact hp
                                                        · exact h3 x hx (by omega)⟩
theorem hitB_iff (l : List Ev) (x j : Nat) (hx : x < l.length) (hj : j < l.length) : hitB l x j = true ↔ (evA l x).k = 1 ∧ spB (evA l x) (evA l j) = true ∧ ¬ (evA l x).m = 1 := by
  rw [hitB_eq l x j hx hj, evA_eq l x hx, evA_eq l j hj]
  unfold hitE
  simp only [Bool.and_eq_true, decide_eq_true_eq, Bool.not_eq_true', decide_eq_false_iff_not, and_assoc]
theorem spB_symm (a b : Ev) (h : spB a b = true) : spB b a = true := by
  unfold spB at *
  simp only [Bool.and_eq_true, decide_eq_true_eq] at *
  exact ⟨⟨h.1.1.symm, h.1.2.symm⟩, h.2.symm⟩
theorem spB_trans (a b c : Ev) (h : spB a b = true) (h2 : spB b c = true) : spB a c = true := by
  unfold spB at *
  simp only [Bool.and_eq_true, decide_eq_true_eq] at *
  exact ⟨⟨h.1.1.trans h2.1.1, h.1.2.trans h2.1.2⟩, h.2.trans h2.2⟩
theorem mem_take_pos {o : List Nat} {k x : Nat} (h : x ∈ o.take k) : ∃ q, ∃ hq : q < o.length, q < k ∧ o[q] = x := by
  rw [List.mem_take_iff_getElem] at h
  obtain ⟨q, hq, rfl⟩ := h
  exact ⟨q, by omega, by omega, rfl⟩
/-- without races each access has the same last writer in every permitted order -/
theorem free_last (l : List Ev) (hr : rtB l = true) (hn : racesF l = []) (o : List Nat) (hp : PermI l o) (k : Nat) (hk : k < o.length) (hj1 : (evA l o[k]).k = 1) : lsE l o[k] (o.take k) = lsE l o[k] (List.range o[k]) := by
  have hjl := hp.lt _ (List.getElem_mem hk)
  have inj : ∀ p q (h1 : p < o.length) (h2 : q < o.length), o[p] = o[q] → p = q := fun p q h1 h2 h => (List.getElem_inj hp.nd).1 h
  have one : ∀ q (hq : q < o.length), q < k → hitB l o[q] o[k] = true → o[q] < o[k] := by
    intro q hq hqk hh
    have hxl := hp.lt _ (List.getElem_mem hq)
    obtain ⟨g1, g2, g3⟩ := (hitB_iff l _ _ hxl hjl).1 hh
    rcases Nat.lt_trichotomy o[q] o[k] with h | h | h
    · exact h
    · have := inj q k hq hk h; omega
    · exfalso
      have hb := bf_acc l hr hn o[k] o[q] h hxl hj1 g1 (spB_symm _ _ g2) (.inr g3)
      obtain ⟨q', hq', hlt, he⟩ := mem_take_pos (hp.bf q hq o[k] hjl hb)
      have := inj q' k hq' hk he
      omega
  rcases hit_max (fun x => hitB l x o[k]) o[k] with h | ⟨m, h1, h2, h3⟩
  · rw [lsE_none l o[k] (List.range o[k]) (fun x hx => h x (by simpa using hx))]
    refine lsE_none _ _ _ fun x hx => ?_
    obtain ⟨q, hq, hqk, rfl⟩ := mem_take_pos hx
    cases hh : hitB l o[q] o[k] with
    | false => rfl
    | true =>
      have := h _ (one q hq hqk hh)
      rw [hh] at this; cases this
  · have hml : m < l.length := by omega
    obtain ⟨g1, g2, g3⟩ := (hitB_iff l _ _ hml hjl).1 h2
    have hr1 : lsE l o[k] (List.range o[k]) = (m : Int) := by
      have := lsE_pos l o[k] (List.range o[k]) m (by simpa using h1) (by simpa using h2) (fun q hq hmq => by
        rw [List.getElem_range]
        exact h3 q hmq (by simpa using hq))
      rw [this, List.getElem_range]
    rw [hr1]
    have hb := bf_acc l hr hn m o[k] h1 hjl g1 hj1 g2 (.inl g3)
    obtain ⟨p, hpo, hpk, he⟩ := mem_take_pos (hp.bf k hk m hml hb)
    have hpt : p < (o.take k).length := by rw [List.length_take]; omega
    have hgp : (o.take k)[p] = m := by rw [List.getElem_take]; exact he
    have := lsE_pos l o[k] (o.take k) p hpt (by rw [hgp]; exact h2) (fun q hq hpq => by
      have hqk : q < k := by rw [List.length_take] at hq; omega
      have hqo : q < o.length := by omega
      have hgq : (o.take k)[q] = o[q] := List.getElem_take
      rw [hgq]
      cases hh : hitB l o[q] o[k] with
      | false => rfl
      | true =>
        exfalso
        have hx := one q hqo hqk hh
        have hxl := hp.lt _ (List.getElem_mem hqo)
        obtain ⟨f1, f2, f3⟩ := (hitB_iff l _ _ hxl hjl).1 hh
        rcases Nat.lt_trichotomy o[q] m with h | h | h
        · have hb2 := bf_acc l hr hn o[q] m h hml f1 g1 (spB_trans _ _ _ f2 (spB_symm _ _ g2)) (.inl f3)
          rw [← he] at hb2
          obtain ⟨q', hq', hlt, he'⟩ := mem_take_pos (hp.bf p hpo o[q] hxl hb2)
          have := inj q' q hq' hqo he'
          omega
        · have := inj q p hqo hpo (h.trans he.symm)
          omega
        · have := h3 _ h hx
          simp only [hh] at this
          cases this)
    rw [this, hgp]
theorem perm_id (l : List Ev) : PermI l (List.range l.length) :=
  ⟨fun j hj => by simpa using hj, List.nodup_range, fun k hk i hi hb => by
    rw [List.getElem_range] at hb
    have := bf_lt l i k hb
    have hkl : k < l.length := by simpa using hk
    rw [List.mem_take_iff_getElem]
    exact ⟨i, by rw [List.length_range]; omega, by rw [List.getElem_range]⟩⟩
end Go.Proofs.Ythebembnlmddoaa
