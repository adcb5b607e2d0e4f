import Derived.Test.YthebembnlmddoaaAH
import Derived.Test.YthebembnlmddoaaX
namespace Go.Proofs.Ythebembnlmddoaa
open Go.RowKit
set_option maxHeartbeats 4000000
set_option maxRecDepth 100000
set_option linter.unusedSimpArgs false
set_option linter.unusedVariables false

/-! ### permitted orders -/
/-- an order that has each event once and keeps happening before -/
structure PermF (l : List Ev) (o : List Nat) : Prop extends PermI l o where
  len : o.length = l.length
section
variable {l : List Ev} {o : List Nat}
theorem PermF.inj (h : PermF l o) {p q : Nat} (hp : p < o.length) (hq : q < o.length) (e : o[p] = o[q]) : p = q := (List.getElem_inj h.nd).1 e
theorem PermF.pos (h : PermF l o) (i : Nat) (hi : i < l.length) : ∃ k, ∃ hk : k < o.length, o[k] = i := perm_all l o h.toPermI h.len i hi
/-- what happens before stands ahead -/
theorem PermF.ahead (h : PermF l o) {p q : Nat} (hp : p < o.length) (hq : q < o.length) (hb : bfB l o[p] o[q] = true) : p < q := by
  obtain ⟨r, hr, hrq, e⟩ := mem_take_pos (h.bf q hq o[p] (h.lt _ (List.getElem_mem hp)) hb)
  have := h.inj hr hp e
  omega
theorem PermF.pmA (h : PermF l o) : pmA l o = true := by
  unfold Ythebembnlmddoaa.pmA
  rw [List.all_eq_true]
  intro k hk
  have hkl : k < o.length := by simpa using hk
  unfold pmB
  rw [Bool.not_eq_true', List.any_eq_false]
  intro x hx hb
  obtain ⟨q, hq, rfl⟩ := List.mem_iff_getElem.1 hx
  rw [List.getElem_drop, List.getD_eq_getElem?_getD, List.getElem?_eq_getElem hkl] at hb
  rw [List.length_drop] at hq
  have := h.ahead (p := k + 1 + q) (by omega) hkl hb
  omega
/-- the trace in another order -/
def reF (l : List Ev) (o : List Nat) : List Ev := o.map (evA l)
theorem reF_len (l : List Ev) (o : List Nat) : (reF l o).length = o.length := by simp [reF]
theorem reF_at (l : List Ev) (o : List Nat) (k : Nat) (h : k < o.length) : evA (reF l o) k = evA l o[k] := by
  rw [evA_eq _ k (by rw [reF_len]; exact h)]
  simp [reF]
theorem spB_comm (a b : Ev) : spB a b = spB b a := by
  rw [Bool.eq_iff_iff]
  exact ⟨spB_symm a b, spB_symm b a⟩
theorem cfB_comm (a b : Ev) : cfB a b = cfB b a := by
  unfold cfB
  rw [spB_comm a b, Bool.or_comm (plB a), Bool.or_comm (!decide (a.m = 1)), show decide (a.t = b.t) = decide (b.t = a.t) by rw [Bool.eq_iff_iff]; simp [eq_comm]]
/-- a direct step between two events that stand in this order leads forth in the trace, too -/
theorem dir_back (hr : rtB l = true) (h : PermF l o) {p q : Nat} (hpq : p < q) (hq : q < o.length) (hd : dirE (evA l o[p]) (evA l o[q]) = true) : o[p] < o[q] := by
  have hi := h.lt _ (List.getElem_mem (show p < o.length by omega))
  have hj := h.lt _ (List.getElem_mem hq)
  have hne : o[p] ≠ o[q] := fun e => by have := h.inj (by omega) hq e; omega
  apply Classical.byContradiction
  intro hn
  have hlt : o[q] < o[p] := by omega
  have no : bfB l o[q] o[p] = true → False := fun hb => by have := h.ahead hq (by omega) hb; omega
  rcases (dirE_iff _ _).1 hd with g | ⟨g1, g2⟩ | ⟨g1, g2⟩ | ⟨g1, g2, g3⟩ | ⟨g1, g2, g3⟩
  · exact no (bf_task l hr _ _ hlt hi g.symm)
  · have := (ok_fork l hr _ hi g1).2.1
    rw [g2, bg_take l _ _ hlt (by omega)] at this
    cases this
  · have := (ok_task l hr _ hi).2
    rw [← g2, jn_take l _ _ hlt (by omega) g1] at this
    cases this
  · have := (ok_fork l hr _ hi g1).2.2.1
    rw [g3, jn_take l _ _ hlt (by omega) g2] at this
    cases this
  · exact no (bf_place l _ _ hlt hi g2 g1 (spB_symm _ _ g3))
/-- the first event happens before all others -/
theorem root_bf (hr : rtB l = true) (i : Nat) (h0 : 0 < i) (hi : i < l.length) : bfB l 0 i = true := by
  induction i using Nat.strongRecOn with
  | _ i ih =>
    have hroot : (evA l 0).t = rootF l := by
      rw [evA_eq l 0 (by omega)]
      cases l with
      | nil => simp at hi
      | cons e l => rfl
    rcases (ok_task l hr i hi).1 with h | h | h
    · omega
    · exact bf_task l hr 0 i h0 hi (hroot.trans h.symm)
    · obtain ⟨f, hf, h1, h2⟩ := (fk_iff l i (by omega) _).1 h
      have hb := dir_bf l hr f i hf hi ((dirE_iff _ _).2 (.inr (.inl ⟨h1, h2⟩)))
      by_cases e : f = 0
      · subst e; exact hb
      · exact bf_trans l hr 0 f i hi (ih f hf (by omega) (by omega)) hb
theorem root_same (hr : rtB l = true) (h : PermF l o) : rootF (reF l o) = rootF l := by
  by_cases h0 : o.length = 0
  · have h1 : l.length = 0 := by rw [← h.len]; exact h0
    obtain rfl := List.eq_nil_of_length_eq_zero h0
    obtain rfl := List.eq_nil_of_length_eq_zero h1
    rfl
  · have ho : o[0]'(by omega) = 0 := by
      apply Classical.byContradiction
      intro hn
      have hlt := h.lt _ (List.getElem_mem (show 0 < o.length by omega))
      have := h.bf 0 (by omega) 0 (by omega) (root_bf hr _ (by omega) hlt)
      simp at this
    have e1 : ∀ m : List Ev, 0 < m.length → rootF m = (evA m 0).t := fun m hm => by
      rw [evA_eq m 0 hm]
      cases m with
      | nil => simp at hm
      | cons e m => rfl
    have hl := h.len
    rw [e1 _ (by rw [reF_len]; omega), e1 l (by omega), reF_at l o 0 (by omega), ho]
/-- the trace in a permitted order is right -/
theorem re_right (hr : rtB l = true) (h : PermF l o) : rtB (reF l o) = true := by
  refine rtB_yes _ fun k hk => ?_
  rw [reF_len] at hk
  rw [okAt_eq _ k (by rw [reF_len]; exact hk), ← evA_eq _ k (by rw [reF_len]; exact hk), reF_at l o k hk, root_same hr h]
  have hi := h.lt _ (List.getElem_mem hk)
  have hok := okE_at l hr _ hi
  have hlen : (reF l o).length = o.length := reF_len l o
  -- an event ahead
  have ah : ∀ q (hq : q < k), dirE (evA l o[k]) (evA l (o[q]'(by omega))) = true → o[k] < (o[q]'(by omega)) → False := fun q hq hd hlt => by
    have := h.ahead hk (show q < o.length by omega) (dir_bf l hr _ _ hlt (h.lt _ (List.getElem_mem _)) hd)
    omega
  have fwd : ∀ f, f < o[k] → dirE (evA l f) (evA l o[k]) = true → ∃ q, ∃ hq : q < o.length, q < k ∧ o[q] = f := fun f hf hd =>
    mem_take_pos (h.bf k hk f (by omega) (dir_bf l hr f _ hf hi hd))
  have hfm : fmB (evA l o[k]) = true := rtB_fm l hr _ (by rw [evA_eq l _ hi]; exact List.getElem_mem hi)
  have h1 : ((reF l o).take k).isEmpty = true ∨ (evA l o[k]).t = rootF l ∨ fkB ((reF l o).take k) (evA l o[k]).t = true := by
    rcases (ok_task l hr _ hi).1 with g | g | g
    · left
      have : k = 0 := by
        apply Classical.byContradiction
        intro hn
        have h00 := h.lt _ (List.getElem_mem (show 0 < o.length by omega))
        by_cases e : o[0]'(by omega) = 0
        · have := h.inj (show 0 < o.length by omega) hk (e.trans g.symm)
          omega
        · have := h.bf 0 (by omega) 0 (by omega) (root_bf hr _ (by omega) h00)
          simp at this
      subst this
      rfl
    · exact .inr (.inl g)
    · right; right
      obtain ⟨f, hf, h1, h2⟩ := (fk_iff l _ (by omega) _).1 g
      obtain ⟨q, hq, hqk, e⟩ := fwd f hf ((dirE_iff _ _).2 (.inr (.inl ⟨h1, h2⟩)))
      rw [fk_iff _ k (by omega)]
      exact ⟨q, hqk, by rw [reF_at l o q hq, e]; exact h1, by rw [reF_at l o q hq, e]; exact h2⟩
  have h2 : jnB ((reF l o).take k) (evA l o[k]).t = false := by
    rw [Bool.eq_false_iff]
    intro hj
    obtain ⟨q, hqk, g1, g2⟩ := (jn_iff _ k (by omega) _).1 hj
    rw [reF_at l o q (by omega)] at g1 g2
    rcases Nat.lt_trichotomy (o[q]'(by omega)) o[k] with c | c | c
    · have := (ok_task l hr _ hi).2
      rw [← g2, jn_take l _ _ c (by omega) g1] at this
      cases this
    · have := h.inj (show q < o.length by omega) hk c
      omega
    · exact ah q hqk ((dirE_iff _ _).2 (.inr (.inr (.inl ⟨g1, g2⟩)))) c
  unfold okE
  have hb1 : (((reF l o).take k).isEmpty || decide ((evA l o[k]).t = rootF l) || fkB ((reF l o).take k) (evA l o[k]).t) = true := by
    simp only [Bool.or_eq_true, decide_eq_true_eq, or_assoc]
    exact h1
  rw [hfm, hb1, h2]
  simp only [Bool.not_false, Bool.and_true, Bool.true_and]
  by_cases hk2 : (evA l o[k]).k = 2
  · rw [if_pos hk2]
    obtain ⟨f1, f2, f3, f4⟩ := ok_fork l hr _ hi hk2
    have a1 : fkB ((reF l o).take k) (evA l o[k]).o = false := by
      rw [Bool.eq_false_iff]
      intro hj
      obtain ⟨q, hqk, g1, g2⟩ := (fk_iff _ k (by omega) _).1 hj
      rw [reF_at l o q (by omega)] at g1 g2
      rcases Nat.lt_trichotomy (o[q]'(by omega)) o[k] with c | c | c
      · rw [← g2, fk_take l _ _ c (by omega) g1] at f1
        cases f1
      · have := h.inj (show q < o.length by omega) hk c
        omega
      · have := (ok_fork l hr _ (h.lt _ (List.getElem_mem _)) g1).1
        rw [g2, fk_take l _ _ c (by have := h.lt _ (List.getElem_mem (show q < o.length by omega)); omega) hk2] at this
        cases this
    have a2 : bgB ((reF l o).take k) (evA l o[k]).o = false := by
      rw [Bool.eq_false_iff]
      intro hj
      obtain ⟨q, hqk, g1⟩ := (bg_iff _ k (by omega) _).1 hj
      rw [reF_at l o q (by omega)] at g1
      rcases Nat.lt_trichotomy (o[q]'(by omega)) o[k] with c | c | c
      · rw [← g1, bg_take l _ _ c (by omega)] at f2
        cases f2
      · have := h.inj (show q < o.length by omega) hk c
        omega
      · exact ah q hqk ((dirE_iff _ _).2 (.inr (.inl ⟨hk2, g1.symm⟩))) c
    have a3 : jnB ((reF l o).take k) (evA l o[k]).o = false := by
      rw [Bool.eq_false_iff]
      intro hj
      obtain ⟨q, hqk, g1, g2⟩ := (jn_iff _ k (by omega) _).1 hj
      rw [reF_at l o q (by omega)] at g1 g2
      rcases Nat.lt_trichotomy (o[q]'(by omega)) o[k] with c | c | c
      · rw [← g2, jn_take l _ _ c (by omega) g1] at f3
        cases f3
      · have := h.inj (show q < o.length by omega) hk c
        omega
      · exact ah q hqk ((dirE_iff _ _).2 (.inr (.inr (.inr (.inl ⟨hk2, g1, g2.symm⟩))))) c
    rw [a1, a2, a3, decide_eq_false f4]
    rfl
  · rw [if_neg hk2]
    by_cases hk3 : (evA l o[k]).k = 3
    · rw [if_pos hk3]
      obtain ⟨f, hf, h1, h2⟩ := (fk_iff l _ (by omega) _).1 (ok_join l hr _ hi hk3)
      obtain ⟨q, hq, hqk, e⟩ := fwd f hf ((dirE_iff _ _).2 (.inr (.inr (.inr (.inl ⟨h1, hk3, h2⟩)))))
      rw [fk_iff _ k (by omega)]
      exact ⟨q, hqk, by rw [reF_at l o q hq, e]; exact h1, by rw [reF_at l o q hq, e]; exact h2⟩
    · rw [if_neg hk3]
/-- happening before does not depend on the order -/
theorem re_bf (hr : rtB l = true) (h : PermF l o) (p q : Nat) (hp : p < o.length) (hq : q < o.length) : bfB (reF l o) p q = bfB l o[p] o[q] := by
  have hlen : (reF l o).length = o.length := reF_len l o
  have hrx := re_right hr h
  rw [Bool.eq_iff_iff]
  constructor
  · intro hb
    induction q using Nat.strongRecOn with
    | _ q ih =>
      obtain ⟨s, h1, h2, h3⟩ := bf_last _ hrx p q (by omega) hb
      rw [reF_at l o s (by omega), reF_at l o q hq] at h2
      have hlt := dir_back hr h h1 hq h2
      have hb2 := dir_bf l hr _ _ hlt (h.lt _ (List.getElem_mem hq)) h2
      rcases h3 with rfl | h3
      · exact hb2
      · exact bf_trans l hr _ _ _ (h.lt _ (List.getElem_mem hq)) (ih s h1 (by omega) h3) hb2
  · suffices ∀ j, ∀ q (hq : q < o.length), o[q] = j → bfB l o[p] j = true → bfB (reF l o) p q = true from this _ q hq rfl
    intro j
    induction j using Nat.strongRecOn with
    | _ j ih =>
      intro q hq hj hb
      have hjl : j < l.length := by rw [← hj]; exact h.lt _ (List.getElem_mem hq)
      obtain ⟨s, h1, h2, h3⟩ := bf_last l hr o[p] j hjl hb
      obtain ⟨r, hro, er⟩ := h.pos s (by omega)
      subst er
      have hrq := h.ahead hro hq (by rw [hj]; exact dir_bf l hr _ j h1 hjl h2)
      have hb2 := dir_bf (reF l o) hrx r q hrq (by omega) (by rw [reF_at l o r hro, reF_at l o q hq, hj]; exact h2)
      rcases h3 with h3 | h3
      · have := h.inj hp hro h3
        subst this
        exact hb2
      · exact bf_trans _ hrx p r q (by omega) (ih _ h1 r hro rfl h3) hb2
theorem raB_iff (l : List Ev) (i j : Nat) : raB l i j = true ↔ (evA l i).k = 1 ∧ (evA l j).k = 1 ∧ cfB (evA l i) (evA l j) = true ∧ bfB l i j = false := by
  unfold raB
  simp only [Bool.and_eq_true, decide_eq_true_eq, Bool.not_eq_true', and_assoc]
/-- where a race of the other order is in the trace -/
def bkF (o : List Nat) (x : Nat × Nat) : Nat × Nat := (min (o.getD x.1 0) (o.getD x.2 0), max (o.getD x.1 0) (o.getD x.2 0))
theorem getD_at (o : List Nat) (k : Nat) (h : k < o.length) : o.getD k 0 = o[k] := by rw [List.getD_eq_getElem?_getD, List.getElem?_eq_getElem h]; rfl
theorem re_race (hr : rtB l = true) (h : PermF l o) (x : Nat × Nat) (hx : x ∈ racesF (reF l o)) : bkF o x ∈ racesF l := by
  obtain ⟨p, q⟩ := x
  obtain ⟨hpq, hq, hra⟩ := (racesF_mem _ p q).1 hx
  rw [reF_len] at hq
  obtain ⟨r1, r2, r3, r4⟩ := (raB_iff _ _ _).1 hra
  rw [reF_at l o p (by omega), reF_at l o q hq] at r3
  rw [reF_at l o p (by omega)] at r1
  rw [reF_at l o q hq] at r2
  rw [re_bf hr h p q (by omega) hq] at r4
  have hi := h.lt _ (List.getElem_mem (show p < o.length by omega))
  have hj := h.lt _ (List.getElem_mem hq)
  unfold bkF
  rw [getD_at o p (by omega), getD_at o q hq]
  have hne : o[p] ≠ o[q] := fun e => by have := h.inj (by omega) hq e; omega
  by_cases hlt : o[p] < o[q]
  · rw [Nat.min_eq_left (by omega), Nat.max_eq_right (by omega), racesF_mem]
    exact ⟨hlt, hj, (raB_iff _ _ _).2 ⟨r1, r2, r3, r4⟩⟩
  · rw [Nat.min_eq_right (by omega), Nat.max_eq_left (by omega), racesF_mem]
    refine ⟨by omega, hi, (raB_iff _ _ _).2 ⟨r2, r1, by rw [cfB_comm]; exact r3, ?_⟩⟩
    rw [Bool.eq_false_iff]
    intro hb
    have := h.ahead hq (by omega) hb
    omega
theorem re_all (hr : rtB l = true) (h : PermF l o) (y : Nat × Nat) (hy : y ∈ racesF l) : ∃ x ∈ racesF (reF l o), bkF o x = y := by
  obtain ⟨i, j⟩ := y
  obtain ⟨hij, hj, hra⟩ := (racesF_mem _ i j).1 hy
  obtain ⟨r1, r2, r3, r4⟩ := (raB_iff _ _ _).1 hra
  obtain ⟨p, hp, rfl⟩ := h.pos i (by omega)
  obtain ⟨q, hq, rfl⟩ := h.pos j hj
  have hlen : (reF l o).length = o.length := reF_len l o
  rcases Nat.lt_trichotomy p q with c | c | c
  · refine ⟨(p, q), (racesF_mem _ _ _).2 ⟨c, by omega, (raB_iff _ _ _).2 ⟨?_, ?_, ?_, ?_⟩⟩, ?_⟩
    · rw [reF_at l o p hp]; exact r1
    · rw [reF_at l o q hq]; exact r2
    · rw [reF_at l o p hp, reF_at l o q hq]; exact r3
    · rw [re_bf hr h p q hp hq]; exact r4
    · unfold bkF
      rw [getD_at o p hp, getD_at o q hq, Nat.min_eq_left (by omega), Nat.max_eq_right (by omega)]
  · subst c; omega
  · refine ⟨(q, p), (racesF_mem _ _ _).2 ⟨c, by omega, (raB_iff _ _ _).2 ⟨?_, ?_, ?_, ?_⟩⟩, ?_⟩
    · rw [reF_at l o q hq]; exact r2
    · rw [reF_at l o p hp]; exact r1
    · rw [reF_at l o p hp, reF_at l o q hq, cfB_comm]; exact r3
    · rw [re_bf hr h q p hq hp, Bool.eq_false_iff]
      intro hb
      have := bf_lt l _ _ hb
      omega
    · unfold bkF
      rw [getD_at o p hp, getD_at o q hq, Nat.min_eq_right (by omega), Nat.max_eq_left (by omega)]
theorem wU_nodup (l : List Ev) (j : Nat) : ∀ i, (wU l j i).Nodup ∧ ∀ x ∈ wU l j i, x.1 < i ∧ x.2 = j := by
  intro i
  induction i with
  | zero => exact ⟨by rw [wU_zero]; exact List.nodup_nil, fun x hx => by rw [wU_zero] at hx; simp at hx⟩
  | succ i ih =>
    rw [wU_succ]
    split
    · refine ⟨?_, fun x hx => ?_⟩
      · rw [List.nodup_append]
        refine ⟨ih.1, by simp, fun a ha b hb => ?_⟩
        rw [List.mem_singleton] at hb
        subst hb
        intro e
        subst e
        have := (ih.2 _ ha).1
        simp at this
      · rw [List.mem_append, List.mem_singleton] at hx
        rcases hx with hx | rfl
        · have := ih.2 x hx; omega
        · exact ⟨by simp, rfl⟩
    · rw [List.append_nil]
      exact ⟨ih.1, fun x hx => by have := ih.2 x hx; omega⟩
theorem rU_nodup (l : List Ev) : ∀ j, (rU l j).Nodup ∧ ∀ x ∈ rU l j, x.2 < j := by
  intro j
  induction j with
  | zero => exact ⟨List.nodup_nil, fun x hx => by simp [rU] at hx⟩
  | succ j ih =>
    rw [rU_succ]
    refine ⟨?_, fun x hx => ?_⟩
    · rw [List.nodup_append]
      refine ⟨ih.1, (wU_nodup l j j).1, fun a ha b hb => ?_⟩
      have h1 := ih.2 a ha
      have h2 := ((wU_nodup l j j).2 b hb).2
      intro e
      subst e
      omega
    · rw [List.mem_append] at hx
      rcases hx with hx | hx
      · have := ih.2 x hx; omega
      · have := ((wU_nodup l j j).2 x hx).2; omega
theorem racesF_nodup (l : List Ev) : (racesF l).Nodup := (rU_nodup l l.length).1
theorem nd_lenG {α : Type} [BEq α] [LawfulBEq α] : ∀ (a b : List α), a.Nodup → (∀ x ∈ a, x ∈ b) → a.length ≤ b.length
  | [], b, _, _ => by simp
  | x :: a, b, hn, hs => by
    rw [List.nodup_cons] at hn
    have hx := hs x (by simp)
    have := nd_lenG a (b.erase x) hn.2 (fun y hy => (List.mem_erase_of_ne (fun e => hn.1 (by rw [← e]; exact hy))).2 (hs y (by simp [hy])))
    rw [List.length_erase_of_mem hx] at this
    have := List.length_pos_of_mem hx
    simp only [List.length_cons]
    omega
theorem nodup_map_on {α β : Type} (f : α → β) : ∀ (a : List α), a.Nodup → (∀ x ∈ a, ∀ y ∈ a, f x = f y → x = y) → (a.map f).Nodup
  | [], _, _ => List.nodup_nil
  | x :: a, hn, hs => by
    rw [List.nodup_cons] at hn
    rw [List.map_cons, List.nodup_cons]
    refine ⟨fun hm => ?_, nodup_map_on f a hn.2 (fun y hy z hz => hs y (by simp [hy]) z (by simp [hz]))⟩
    obtain ⟨y, hy, e⟩ := List.mem_map.1 hm
    have := hs y (by simp [hy]) x (by simp) e
    subst this
    exact hn.1 hy
/-- as many races -/
theorem re_count (hr : rtB l = true) (h : PermF l o) : (racesF (reF l o)).length = (racesF l).length := by
  have h1 : ((racesF (reF l o)).map (bkF o)).Nodup := nodup_map_on _ _ (racesF_nodup _) (fun x hx y hy e => by
    obtain ⟨p, q⟩ := x
    obtain ⟨p', q'⟩ := y
    obtain ⟨a1, a2, _⟩ := (racesF_mem _ p q).1 hx
    obtain ⟨b1, b2, _⟩ := (racesF_mem _ p' q').1 hy
    rw [reF_len] at a2 b2
    unfold bkF at e
    simp only [getD_at o p (by omega), getD_at o q a2, getD_at o p' (by omega), getD_at o q' b2, Prod.mk.injEq] at e
    have hc : (o[p] = o[p'] ∧ o[q] = o[q']) ∨ (o[p] = o[q'] ∧ o[q] = o[p']) := by omega
    rcases hc with ⟨c1, c2⟩ | ⟨c1, c2⟩
    · rw [h.inj (by omega) (by omega) c1, h.inj a2 b2 c2]
    · have e1 := h.inj (by omega) (by omega) c1
      have e2 := h.inj (by omega) (by omega) c2
      omega)
  have h2 := nd_lenG _ (racesF l) h1 (fun y hy => by
    obtain ⟨x, hx, rfl⟩ := List.mem_map.1 hy
    exact re_race hr h x hx)
  have h3 := nd_lenG (racesF l) ((racesF (reF l o)).map (bkF o)) (racesF_nodup l) (fun y hy => by
    obtain ⟨x, hx, rfl⟩ := re_all hr h y hy
    exact List.mem_map.2 ⟨x, hx, rfl⟩)
  rw [List.length_map] at h2 h3
  omega
end
end Go.Proofs.Ythebembnlmddoaa
