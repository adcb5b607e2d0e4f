import Derived.Test.YtggidakiflnhhaaAY
namespace Go.Proofs.Ytggidakiflnhhaa
open Go.RowKit
set_option maxHeartbeats 1000000
set_option maxRecDepth 100000
set_option linter.unusedSimpArgs false
set_option linter.unusedVariables false

/-- an operation with a kind and a locale -/
def gdO (o : Op) : Prop := 1 ≤ o.k ∧ 0 ≤ o.a ∧ o.a < 8
theorem adds_tr (ks : List Nat) : ∀ s : Fo, (ks.foldl (fun t k => addF t (relO k)) s).tr = s.tr ++ ks.map relO := by
  induction ks with
  | nil => intro s; simp
  | cons k ks ih => intro s; rw [List.foldl_cons, ih]; simp [addF]
theorem adds_ok (ks : List Nat) : ∀ s : Fo, FoOk s → FoOk (ks.foldl (fun t k => addF t (relO k)) s) := by
  induction ks with
  | nil => intro s h; exact h
  | cons k ks ih => intro s h; rw [List.foldl_cons]; exact ih _ (addF_ok h (by simp [relO]))
/-- the fences ahead of an operation -/
def fcL (s : Fo) (o : Op) : List Op := ((List.range 8).filter (wiB s o)).map relO ++ (if rcL s o ≠ [] then [acqO o.a] else [])
theorem fe_tr (s : Fo) (o : Op) : (feS s o).tr = s.tr ++ (fcL s o ++ [o]) := by
  show (fe2 s o).tr ++ [o] = _
  unfold fe2 fcL
  split
  · show ((fe1 s o).tr ++ [acqO o.a]) ++ [o] = _
    unfold fe1
    rw [adds_tr]
    simp
  · unfold fe1
    rw [adds_tr]
    simp
theorem fe_ok {s : Fo} (h : FoOk s) {o : Op} (ho : gdO o) : FoOk (feS s o) := by
  have h1 : FoOk (fe1 s o) := adds_ok _ s h
  have h2 : FoOk (fe2 s o) := by
    unfold fe2
    split
    · exact addF_ok h1 ho.2.1
    · exact h1
  exact addF_ok h2 ho.2.1
theorem fc_kind {s : Fo} {o x : Op} (h : x ∈ fcL s o) : x.k = 3 ∨ x.k = 4 := by
  unfold fcL at h
  rcases List.mem_append.1 h with h | h
  · obtain ⟨k, _, rfl⟩ := List.mem_map.1 h
    exact Or.inr rfl
  · split at h
    · simp at h; subst h; exact Or.inl rfl
    · simp at h
theorem fc_gd {s : Fo} {o x : Op} (ho : gdO o) (h : x ∈ fcL s o) : gdO x := by
  unfold fcL at h
  rcases List.mem_append.1 h with h | h
  · obtain ⟨k, hk, rfl⟩ := List.mem_map.1 h
    have := List.mem_range.1 (List.mem_filter.1 hk).1
    exact ⟨(show (1 : Int) ≤ 4 by decide), by simp [relO], by simp [relO]; omega⟩
  · split at h
    · simp at h; subst h; exact ⟨(show (1 : Int) ≤ 3 by decide), ho.2.1, ho.2.2⟩
    · simp at h
theorem fc_len (s : Fo) (o : Op) : (fcL s o).length ≤ 9 := by
  unfold fcL
  have h1 := List.length_filter_le (wiB s o) (List.range 8)
  simp only [List.length_range] at h1
  rw [List.length_append, List.length_map]
  have : (if rcL s o ≠ [] then [acqO o.a] else []).length ≤ 1 := by split <;> simp
  omega
theorem rcL_lt {s : Fo} {o : Op} {i : Nat} (h : i ∈ rcL s o) : i < s.tr.length := by
  unfold rcL at h
  split at h
  · exact List.mem_range.1 (List.mem_filter.1 h).1
  · simp at h
theorem fe_rfree {s : Fo} (h : FoOk s) (hr : rfree s.tr) (hg : ∀ q ∈ s.tr, gdO q) {o : Op} (ho : gdO o) : rfree (feS s o).tr := by
  intro i j hij hrac
  rw [fe_tr] at hrac
  have hT : s.tr ++ (fcL s o ++ [o]) = (s.tr ++ fcL s o) ++ [o] := by simp
  obtain ⟨a, b, h1, h2, h3, h4, h5, h6, h7, h8⟩ := id hrac
  have hjlt := (List.getElem?_eq_some_iff.1 h2).1
  have hlen : (s.tr ++ (fcL s o ++ [o])).length = s.tr.length + (fcL s o).length + 1 := by simp; omega
  by_cases hj : j < s.tr.length
  · exact hr i j hij ((racP_app hij hj).1 hrac)
  · by_cases hjf : j < s.tr.length + (fcL s o).length
    · rw [List.getElem?_append_right (by omega), List.getElem?_append_left (by omega)] at h2
      have := fc_kind (List.mem_of_getElem? h2)
      omega
    · have hje : j = s.tr.length + (fcL s o).length := by omega
      by_cases hi : i < s.tr.length
      · have hgi : s.tr[i]? = some (s.tr.getD i opZ) := by rw [List.getD_eq_getElem?_getD, List.getElem?_eq_getElem hi]; rfl
        rw [List.getElem?_append_left hi, hgi] at h1
        obtain rfl := Option.some.inj h1
        have hb : b = o := by
          rw [hT, List.getElem?_append_right (by simp; omega)] at h2
          simp only [List.length_append, hje, Nat.sub_self] at h2
          simpa using h2.symm
        subst hb
        by_cases hm : i ∈ rcL s b
        · have hga := hg _ (List.mem_of_getElem? hgi)
          obtain ⟨k, hk⟩ : ∃ k : Nat, (s.tr.getD i opZ).a = (k : Int) := ⟨(s.tr.getD i opZ).a.toNat, by have := hga.2.1; omega⟩
          have hk8 : k < 8 := by have := hga.2.2; omega
          have hne : rcL s b ≠ [] := fun e => by rw [e] at hm; simp at hm
          have hw : wiB s b k = true := by unfold wiB; rw [List.any_eq_true]; exact ⟨i, hm, decide_eq_true hk⟩
          have hkm : k ∈ (List.range 8).filter (wiB s b) := List.mem_filter.2 ⟨List.mem_range.2 hk8, hw⟩
          obtain ⟨q, hq, hqe⟩ := List.mem_iff_getElem.1 hkm
          have hfl : (fcL s b).length = ((List.range 8).filter (wiB s b)).length + 1 := by unfold fcL; rw [if_pos hne]; simp
          apply h8
          refine ⟨s.tr.length + q, s.tr.length + ((List.range 8).filter (wiB s b)).length, by omega, by omega, by omega, ⟨relO k, ?_, rfl, hk.symm⟩, ⟨acqO b.a, ?_, rfl, rfl⟩⟩
          · rw [List.getElem?_append_right (by omega), show s.tr.length + q - s.tr.length = q by omega]
            unfold fcL
            rw [List.append_assoc, List.getElem?_append_left (by simpa using hq), List.getElem?_map, List.getElem?_eq_getElem hq, hqe]; rfl
          · rw [List.getElem?_append_right (by omega), show s.tr.length + ((List.range 8).filter (wiB s b)).length - s.tr.length = ((List.range 8).filter (wiB s b)).length by omega]
            unfold fcL
            rw [if_pos hne, List.append_assoc, List.getElem?_append_right (by simp)]
            simp
        · have hnr := fun hh => hm ((rc_iff h ho.2.1 (fun q hq => (hg q hq).1) ho.1 hi).2 hh)
          apply hnr
          refine ⟨s.tr.getD i opZ, b, by rw [List.getElem?_append_left hi]; exact hgi, by rw [List.getElem?_append_right (Nat.le_refl _), Nat.sub_self]; rfl, h3, h4, h5, h6, h7, ?_⟩
          rintro ⟨r, q, g1, g2, g3, g4, g5⟩
          apply h8
          rw [relB_app (by omega)] at g4
          rw [acqB_app (by omega)] at g5
          exact ⟨r, q, g1, g2, by omega, (relB_app (by omega)).2 g4, (acqB_app (by omega)).2 g5⟩
      · rw [List.getElem?_append_right (by omega), List.getElem?_append_left (by omega)] at h1
        have := fc_kind (List.mem_of_getElem? h1)
        omega
theorem fn_all (l : List Op) (hl : ∀ o ∈ l, gdO o) : ∀ s : Fo, FoOk s → rfree s.tr → (∀ q ∈ s.tr, gdO q) → FoOk (l.foldl feS s) ∧ rfree (l.foldl feS s).tr ∧ (∀ q ∈ (l.foldl feS s).tr, gdO q) ∧ (l.foldl feS s).tr.length ≤ s.tr.length + 10 * l.length := by
  induction l with
  | nil => intro s h1 h2 h3; exact ⟨h1, h2, h3, by simp⟩
  | cons o l ih =>
    intro s h1 h2 h3
    have ho := hl o (by simp)
    have h4 : ∀ q ∈ (feS s o).tr, gdO q := fun q hq => by
      rw [fe_tr] at hq
      rcases List.mem_append.1 hq with hq | hq
      · exact h3 q hq
      · rcases List.mem_append.1 hq with hq | hq
        · exact fc_gd ho hq
        · simp at hq; subst hq; exact ho
    obtain ⟨g1, g2, g3, g4⟩ := ih (fun q hq => hl q (by simp [hq])) (feS s o) (fe_ok h1 ho) (fe_rfree h1 h2 h3 ho) h4
    refine ⟨g1, g2, g3, ?_⟩
    have : (feS s o).tr.length ≤ s.tr.length + 10 := by rw [fe_tr]; have := fc_len s o; simp; omega
    simp only [List.foldl_cons, List.length_cons]
    omega
theorem initF_rfree : rfree initF.tr := fun i j _ ⟨a, b, h, _⟩ => by simp [initF] at h
theorem fnF_all {l : List Op} (hl : ∀ o ∈ l, gdO o) : FoOk (fnF l) ∧ rfree (fnF l).tr ∧ (∀ q ∈ (fnF l).tr, gdO q) ∧ (fnF l).tr.length ≤ 10 * l.length := by
  have := fn_all l hl initF initF_ok initF_rfree (fun q hq => by simp [initF] at hq)
  obtain ⟨h1, h2, h3, h4⟩ := this
  rw [show initF.tr.length = 0 from rfl, Nat.zero_add] at h4
  exact ⟨h1, h2, h3, h4⟩
/-- the operations of the fenced trace are right -/
theorem fc_right {c : Cf} {s : Fo} {o x : Op} (hs : ∀ q ∈ s.tr, opOk c q) (ho : opOk c o) (h : x ∈ fcL s o) : opOk c x := by
  unfold fcL at h
  rcases List.mem_append.1 h with h | h
  · obtain ⟨k, hk, rfl⟩ := List.mem_map.1 h
    have hw := (List.mem_filter.1 hk).2
    unfold wiB at hw
    rw [List.any_eq_true] at hw
    obtain ⟨i, hi, he⟩ := hw
    have he := of_decide_eq_true he
    have hlt := rcL_lt hi
    have := hs (s.tr.getD i opZ) (by rw [List.getD_eq_getElem?_getD, List.getElem?_eq_getElem hlt]; exact List.getElem_mem hlt)
    exact ⟨by simp [relO], by show (k : Int) < c.L; have := this.2.1; omega, (show (1 : Int) ≤ 4 by decide), (show (4 : Int) ≤ 4 by decide), Or.inr rfl, Or.inr ⟨(show (3 : Int) ≤ 4 by decide), rfl⟩⟩
  · split at h
    · simp at h; subst h
      exact ⟨ho.1, ho.2.1, (show (1 : Int) ≤ 3 by decide), (show (3 : Int) ≤ 4 by decide), Or.inr rfl, Or.inr ⟨(show (3 : Int) ≤ 3 by decide), rfl⟩⟩
    · simp at h
theorem fn_right {c : Cf} (l : List Op) (hl : ∀ o ∈ l, opOk c o) : ∀ s : Fo, (∀ q ∈ s.tr, opOk c q) → ∀ q ∈ (l.foldl feS s).tr, opOk c q := by
  induction l with
  | nil => intro s h; exact h
  | cons o l ih =>
    intro s h
    refine ih (fun q hq => hl q (by simp [hq])) (feS s o) (fun q hq => ?_)
    rw [fe_tr] at hq
    rcases List.mem_append.1 hq with hq | hq
    · exact h q hq
    · rcases List.mem_append.1 hq with hq | hq
      · exact fc_right h (hl o (by simp)) hq
      · simp at hq; subst hq; exact hl _ (by simp)
theorem op_gd {c : Cf} (hc : cfOk c) {o : Op} (h : opOk c o) : gdO o := by
  obtain ⟨h1, h2, h3, _⟩ := h
  have h4 := hc.2.1
  exact ⟨h3, h1, by omega⟩
theorem fn_chk {c : Cf} {l : List Op} (h : chkF c l = 0) (hl : l.length ≤ 200) : chkF c (fnF l).tr = 0 := by
  obtain ⟨hc, ho⟩ := chk_parts h
  have h1 := (fnF_all (fun o q => op_gd hc (ho o q))).2.2.2
  have h2 := fn_right l ho initF (fun q hq => by simp [initF] at hq)
  unfold chkF
  rw [if_neg (fun g => g hc), if_neg (by omega), if_pos (show ∀ o ∈ (fnF l).tr, opOk c o from h2)]
instance : DecidableEq Op := fun a b => decidable_of_iff (a.a = b.a ∧ a.k = b.k ∧ a.p = b.p ∧ a.v = b.v) ⟨fun ⟨h1, h2, h3, h4⟩ => by cases a; cases b; simp_all, fun h => by subst h; exact ⟨rfl, rfl, rfl, rfl⟩⟩
/-! ### a trace without some of its fences -/
def woS (m : List Op) (k : Option Nat) (x : Op) : Option Nat := match k with
  | none => none
  | some k => if k < m.length ∧ m.getD k opZ = x then some (k + 1) else if x.k = 3 ∨ x.k = 4 then some k else none
/-- how far a list is met -/
def WoI (m : List Op) (t : Nat) (k : Option Nat) : Prop := ∃ q, k = some q ∧ t ≤ q ∧ q ≤ m.length ∧ ∀ i, t ≤ i → i < q → (m.getD i opZ).k = 3 ∨ (m.getD i opZ).k = 4
theorem wo_fence {m : List Op} {t : Nat} {k : Option Nat} (h : WoI m t k) {x : Op} (hx : x.k = 3 ∨ x.k = 4) : WoI m t (woS m k x) := by
  obtain ⟨q, rfl, h1, h2, h3⟩ := h
  unfold woS
  simp only
  split
  · rename_i hh
    refine ⟨q + 1, rfl, by omega, by omega, fun i a b => ?_⟩
    by_cases hi : i = q
    · subst hi; rw [hh.2]; exact hx
    · exact h3 i a (by omega)
  · exact ⟨q, by first | rfl | rw [if_pos hx], h1, h2, h3⟩
theorem wo_fences {m : List Op} {t : Nat} (fs : List Op) (hx : ∀ x ∈ fs, x.k = 3 ∨ x.k = 4) : ∀ k, WoI m t k → WoI m t (fs.foldl (woS m) k) := by
  induction fs with
  | nil => intro k h; exact h
  | cons x fs ih => intro k h; exact ih (fun y hy => hx y (by simp [hy])) _ (wo_fence h (hx x (by simp)))
theorem wo_own {m : List Op} {t : Nat} {k : Option Nat} (h : WoI m t k) (ht : t < m.length) : WoI m (t + 1) (woS m k (m.getD t opZ)) := by
  obtain ⟨q, rfl, h1, h2, h3⟩ := h
  unfold woS
  simp only
  by_cases hq : q = t
  · subst hq
    rw [if_pos ⟨ht, rfl⟩]
    exact ⟨q + 1, rfl, Nat.le_refl _, by omega, fun i a b => by omega⟩
  · have hf := h3 t (Nat.le_refl _) (by omega)
    split
    · rename_i hh
      refine ⟨q + 1, rfl, by omega, by omega, fun i a b => ?_⟩
      by_cases hi : i = q
      · subst hi; rw [hh.2]; exact hf
      · exact h3 i (by omega) (by omega)
    · exact ⟨q, by first | rfl | rw [if_pos hf], by omega, h2, fun i a b => h3 i (by omega) b⟩
theorem wo_fn (m : List Op) : ∀ t, t ≤ m.length → WoI m t ((fnF (m.take t)).tr.foldl (woS m) (some 0))
  | 0, _ => ⟨0, by simp [fnF, initF], Nat.le_refl _, Nat.zero_le _, fun i a b => by omega⟩
  | t + 1, h => by
    have ih := wo_fn m t (by omega)
    have e1 : fnF (m.take (t + 1)) = feS (fnF (m.take t)) m[t] := by
      unfold fnF
      rw [List.take_succ_eq_append_getElem (show t < m.length by omega), List.foldl_append]; rfl
    have e2 : m[t] = m.getD t opZ := by rw [List.getD_eq_getElem?_getD, List.getElem?_eq_getElem (show t < m.length by omega)]; rfl
    rw [e1, fe_tr, List.foldl_append, List.foldl_append, e2]
    exact wo_own (wo_fences _ (fun x hx => fc_kind hx) _ ih) (by omega)
theorem wo_all (m : List Op) : (fnF m).tr.foldl (woS m) (some 0) = some m.length := by
  obtain ⟨q, h1, h2, h3, _⟩ := wo_fn m m.length (Nat.le_refl _)
  rw [List.take_of_length_le (Nat.le_refl _)] at h1
  rw [h1]
  congr 1
  omega
/-! ### the first race -/
theorem fo_tr (l : List Op) : ∀ s : Fo, (l.foldl addF s).tr = s.tr ++ l := by
  induction l with
  | nil => intro s; simp
  | cons o l ih => intro s; rw [List.foldl_cons, ih]; simp [addF]
theorem fo_ok (l : List Op) (hl : ∀ o ∈ l, gdO o) : ∀ s : Fo, FoOk s → FoOk (l.foldl addF s) := by
  induction l with
  | nil => intro s h; exact h
  | cons o l ih => intro s h; exact ih (fun q hq => hl q (by simp [hq])) _ (addF_ok h (hl o (by simp)).2.1)
theorem foF_tr (l : List Op) : (foF l).tr = l := by unfold foF; rw [fo_tr]; rfl
/-- what races with operation j -/
def rcAt (l : List Op) (j : Nat) : List Nat := rcL (foF (l.take j)) (l.getD j opZ)
theorem rcAt_iff {l : List Op} (hl : ∀ o ∈ l, gdO o) {i j : Nat} (hij : i < j) (hj : j < l.length) : i ∈ rcAt l j ↔ racP l i j := by
  have hok : FoOk (foF (l.take j)) := fo_ok _ (fun o ho => hl o (List.mem_of_mem_take ho)) _ initF_ok
  have htr := foF_tr (l.take j)
  have hgj : l.getD j opZ = l[j] := by rw [List.getD_eq_getElem?_getD, List.getElem?_eq_getElem hj]; rfl
  have hg := hl _ (List.getElem_mem hj)
  have hlen : (l.take j).length = j := by simp; omega
  unfold rcAt
  rw [hgj, rc_iff hok hg.2.1 (fun q hq => by rw [htr] at hq; exact (hl q (List.mem_of_mem_take hq)).1) hg.1 (by rw [htr, hlen]; exact hij), htr, hlen]
  have e : l = (l.take j ++ [l[j]]) ++ l.drop (j + 1) := by
    rw [List.append_assoc, List.singleton_append, ← List.drop_eq_getElem_cons hj, List.take_append_drop]
  have h1 := racP_app (l := l.take j ++ [l[j]]) (m := l.drop (j + 1)) (i := i) (j := j) hij (by rw [List.length_append, hlen]; simp)
  rw [← e] at h1
  exact h1.symm
theorem rcAt_lt {l : List Op} {i j : Nat} (hj : j ≤ l.length) (h : i ∈ rcAt l j) : i < j := by
  have := rcL_lt h
  rw [foF_tr] at this
  simp at this; omega
/-- the first race ahead of operation n -/
def rcR (l : List Op) (n : Nat) : Option (Nat × Nat) := (List.range n).findSome? (fun j => (rcAt l j).head?.map (fun i => (i, j)))
theorem rcR_succ (l : List Op) (n : Nat) : rcR l (n + 1) = match rcR l n with | some x => some x | none => (rcAt l n).head?.map (fun i => (i, n)) := by
  unfold rcR
  rw [List.range_succ, List.findSome?_append]
  cases (List.range n).findSome? (fun j => (rcAt l j).head?.map (fun i => (i, j))) <;> simp
theorem rcR_none {l : List Op} (hl : ∀ o ∈ l, gdO o) : rcR l l.length = none ↔ rfree l := by
  unfold rcR
  rw [List.findSome?_eq_none_iff]
  constructor
  · intro h i j hij hr
    have hjl : j < l.length := by obtain ⟨_, _, _, h2, _⟩ := hr; exact (List.getElem?_eq_some_iff.1 h2).1
    have h1 := h j (List.mem_range.2 hjl)
    have h2 := (rcAt_iff hl hij hjl).2 hr
    have h3 : rcAt l j = [] := by
      cases hr2 : rcAt l j with
      | nil => rfl
      | cons a t => rw [hr2] at h1; cases h1
    rw [h3] at h2
    cases h2
  · intro h j hj
    have hjl := List.mem_range.1 hj
    cases hr2 : rcAt l j with
    | nil => rfl
    | cons a t =>
      have ha : a ∈ rcAt l j := by rw [hr2]; simp
      have hlt := rcAt_lt (by omega) ha
      exact absurd ((rcAt_iff hl hlt hjl).1 ha) (h a j hlt)
end Go.Proofs.Ytggidakiflnhhaa
