import Derived.Test.YthebembnlmddoaaBG
namespace Go.Proofs.Ythebembnlmddoaa
open Go.RowKit
set_option maxHeartbeats 8000000
set_option maxRecDepth 100000
set_option linter.unusedSimpArgs false
set_option linter.unusedVariables false

/-! ### places of the events of an order, plainly -/
theorem snocRec {α : Type} {P : List α → Prop} (h0 : P []) (h1 : ∀ p x, P p → P (p ++ [x])) (p : List α) : P p := by
  have : ∀ q : List α, P q.reverse := fun q => by
    induction q with
    | nil => exact h0
    | cons x q ih => rw [List.reverse_cons]; exact h1 _ _ ih
  simpa using this p.reverse
def plF (n : Nat) (p : List Nat) : List Int := p.zipIdx.foldl (fun a x => a.set x.1 ((x.2 : Int) + 1)) (List.replicate n 0)
theorem plF_nil (n : Nat) : plF n [] = List.replicate n 0 := rfl
theorem plF_snoc (n : Nat) (p : List Nat) (j : Nat) : plF n (p ++ [j]) = (plF n p).set j ((p.length : Int) + 1) := by
  simp [plF, List.zipIdx_append]
theorem plF_len (n : Nat) (p : List Nat) : (plF n p).length = n := by
  refine snocRec (P := fun p => (plF n p).length = n) (by simp [plF_nil]) (fun p x h => ?_) p
  show (plF n (p ++ [x])).length = n
  rw [plF_snoc, List.length_set]; exact h
theorem plF_zero (n : Nat) (p : List Nat) (i : Nat) (hi : i < n) : (plF n p)[i]?.getD 0 = 0 ↔ i ∉ p := by
  refine snocRec (P := fun p => (plF n p)[i]?.getD 0 = 0 ↔ i ∉ p) ?_ (fun p x h => ?_) p
  · simp [plF_nil, hi]
  · show (plF n (p ++ [x]))[i]?.getD 0 = 0 ↔ i ∉ p ++ [x]
    rw [plF_snoc, List.getElem?_set]
    have hl := plF_len n p
    by_cases e : x = i
    · subst e
      rw [if_pos rfl, if_pos (by omega)]
      simp
      omega
    · rw [if_neg e]
      rw [h]
      simp [Ne.symm e]
theorem plF_pos (n : Nat) (p : List Nat) (hnd : p.Nodup) (hlt : ∀ j ∈ p, j < n) (k : Nat) (hk : k < p.length) : (plF n p)[p[k]]?.getD 0 = (k : Int) + 1 := by
  have := snocRec (P := fun p => p.Nodup → (∀ j ∈ p, j < n) → ∀ k, (hk : k < p.length) → (plF n p)[p[k]]?.getD 0 = (k : Int) + 1) (fun _ _ k hk => by simp at hk) (fun p x ih hnd hlt k hk => ?_) p
  · exact this hnd hlt k hk
  · rw [List.nodup_append] at hnd
    have hl := plF_len n p
    have hx := hlt x (by simp)
    rw [plF_snoc, List.getElem?_set]
    by_cases e : k < p.length
    · have hne : x ≠ p[k] := fun h => hnd.2.2 _ (List.getElem_mem e) x (by simp) h.symm
      rw [List.getElem_append_left e, if_neg hne]
      exact ih hnd.1 (fun j hj => hlt j (by simp [hj])) k e
    · have hk' : k = p.length := by simp at hk; omega
      subst hk'
      have he : (p ++ [x])[p.length] = x := by simp
      rw [he, if_pos rfl, if_pos (by omega)]
      simp
theorem len_le_of_sub : ∀ (a b : List Nat), a.Nodup → (∀ x ∈ a, x ∈ b) → a.length ≤ b.length
  | [], b, _, _ => Nat.zero_le _
  | x :: a, b, hn, hs => by
    have hx := hs x (by simp)
    rw [List.nodup_cons] at hn
    have := len_le_of_sub a (b.erase x) hn.2 (fun y hy => (List.mem_erase_of_ne (show y ≠ x from fun e => hn.1 (by rw [← e]; exact hy))).2 (hs y (by simp [hy])))
    rw [List.length_erase_of_mem hx] at this
    have : 0 < b.length := List.length_pos_of_mem hx
    simp only [List.length_cons]
    omega
theorem nodup_of_sub : ∀ (a b : List Nat), a.Nodup → (∀ x ∈ a, x ∈ b) → b.length ≤ a.length → b.Nodup
  | [], b, _, _, hl => by
    have : b = [] := List.eq_nil_of_length_eq_zero (by simpa using hl)
    rw [this]; exact List.nodup_nil
  | x :: a, b, hn, hs, hl => by
    have hx := hs x (by simp)
    rw [List.nodup_cons] at hn
    have hsub : ∀ y ∈ a, y ∈ b.erase x := fun y hy => (List.mem_erase_of_ne (show y ≠ x from fun e => hn.1 (by rw [← e]; exact hy))).2 (hs y (by simp [hy]))
    have hle := List.length_erase_of_mem hx
    have hpos : 0 < b.length := List.length_pos_of_mem hx
    simp only [List.length_cons] at hl
    have ih := nodup_of_sub a (b.erase x) hn.2 hsub (by omega)
    rw [(List.perm_cons_erase hx).nodup_iff, List.nodup_cons]
    refine ⟨fun hm => ?_, ih⟩
    have := len_le_of_sub (x :: a) (b.erase x) (List.nodup_cons.2 hn) (fun y hy => by
      rcases List.mem_cons.1 hy with rfl | h
      · exact hm
      · exact hsub y h)
    simp only [List.length_cons] at this
    omega
theorem nodup_of_all (n : Nat) (p : List Nat) (hlen : p.length = n) (h : ∀ i, i < n → i ∈ p) : p.Nodup :=
  nodup_of_sub (List.range n) p List.nodup_range (fun x hx => h x (by simpa using hx)) (by simp; omega)
theorem all_of_nodup (n : Nat) (p : List Nat) (hlen : p.length = n) (hnd : p.Nodup) (hlt : ∀ j ∈ p, j < n) (i : Nat) (hi : i < n) : i ∈ p := by
  apply Decidable.byContradiction
  intro h
  have := len_le_of_sub (i :: p) (List.range n) (List.nodup_cons.2 ⟨h, hnd⟩) (fun x hx => by
    rcases List.mem_cons.1 hx with rfl | h
    · simpa using hi
    · simpa using hlt x h)
  simp at this
  omega
/-- no event is placed ahead of one that happens before it -/
def pmR (l : List Ev) (p : List Nat) (j i : Nat) : Bool := bfB l i j && decide ((plF l.length p)[j]?.getD 0 < (plF l.length p)[i]?.getD 0)
theorem pmA_pmR (l : List Ev) (p : List Nat) (hlen : p.length = l.length) (hnd : p.Nodup) (hlt : ∀ j ∈ p, j < l.length) : pmA l p = true ↔ ∀ j i, j < l.length → i < j → pmR l p j i = false := by
  have hall : ∀ i, i < l.length → ∃ k, ∃ h : k < p.length, p[k] = i := fun i hi => by
    have hm : i ∈ p := all_of_nodup _ p hlen hnd hlt i hi
    obtain ⟨k, hk, he⟩ := List.getElem_of_mem hm
    exact ⟨k, hk, he⟩
  unfold pmA
  rw [List.all_eq_true]
  constructor
  · intro h j i hj hij
    obtain ⟨k, hk, rfl⟩ := hall j hj
    obtain ⟨m, hm, rfl⟩ := hall i (by omega)
    unfold pmR
    rw [plF_pos _ _ hnd hlt, plF_pos _ _ hnd hlt]
    rw [Bool.and_eq_false_iff]
    by_cases hb : bfB l p[m] p[k] = true
    · refine Or.inr (decide_eq_false ?_)
      intro hkm
      have h1 := h k (by simpa using hk)
      unfold pmB at h1
      rw [Bool.not_eq_true'] at h1
      rw [List.any_eq_false] at h1
      refine h1 p[m] ?_ ?_
      · rw [List.mem_iff_getElem]
        refine ⟨m - (k + 1), by rw [List.length_drop]; omega, ?_⟩
        rw [List.getElem_drop]
        congr 1
        omega
      · rw [List.getD_eq_getElem?_getD, List.getElem?_eq_getElem hk]
        exact hb
    · exact Or.inl (by simpa using hb)
  · intro h k hk
    have hk' : k < p.length := by simpa using hk
    unfold pmB
    rw [Bool.not_eq_true', List.any_eq_false]
    intro x hx hb
    rw [List.getD_eq_getElem?_getD, List.getElem?_eq_getElem hk'] at hb
    obtain ⟨q, hq, rfl⟩ := List.mem_iff_getElem.1 hx
    rw [List.length_drop] at hq
    rw [List.getElem_drop] at hb
    have hb' : bfB l p[k + 1 + q] p[k] = true := hb
    have h1 := h p[k] p[k + 1 + q] (hlt _ (List.getElem_mem hk')) (bf_lt l _ _ hb')
    unfold pmR at h1
    rw [plF_pos _ _ hnd hlt, plF_pos _ _ hnd hlt, hb', Bool.true_and] at h1
    have := of_decide_eq_false h1
    omega
end Go.Proofs.Ythebembnlmddoaa
