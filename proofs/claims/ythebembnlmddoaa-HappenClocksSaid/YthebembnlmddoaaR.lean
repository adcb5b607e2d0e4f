import Derived.Test.YthebembnlmddoaaQ
namespace Go.Proofs.Ythebembnlmddoaa
open Go.RowKit
set_option maxHeartbeats 8000000
set_option maxRecDepth 100000
set_option linter.unusedSimpArgs false
set_option linter.unusedVariables false

abbrev encN (x : Nat) : List Value := [.int .i64 (x : Int)]
theorem lenN (x : Nat) : (encN x).length = 1 := rfl
theorem oneN (x : Nat) : ∀ u ∈ encN x, u.oneCell' = true := fun u hu => by simp at hu; subst hu; rfl
abbrev encB (x : Bool) : List Value := [.bool x]
theorem lenB (x : Bool) : (encB x).length = 1 := rfl
abbrev enc8 (x : Nat) : List Value := [.int .u8 (x : Int)]
theorem made_bool (n : Nat) : (madeCells (Value.bool false).cells (n * 1)).toList = (List.replicate n false).flatMap encB := by
  have := madeCells_mul #[.bool false] n (by simp)
  rw [flat_rep]
  simpa [Value.cells, encB] using this
theorem info4 : (Try.prog.info? 4).map (fun i => (i.zero, i.size, i.bytes)) = some (some (.bool false), 1, 1) := by kernel_rfl

theorem Own.down {α : Type} {enc : α → List Value} {sz : Nat} {e : TypeId} {w : World} {base b' : Nat} {v : Value} {xs : List α} (h : Own enc sz e w base v xs) (hb : b' ≤ base) : Own enc sz e w b' v xs := by
  obtain ⟨hl, h2⟩ := h
  refine ⟨hl, ?_⟩
  rcases h2 with h2 | ⟨g, cap, cur, rfl, hbg, rest⟩
  · exact .inl h2
  · exact .inr ⟨g, cap, cur, rfl, by omega, rest⟩
/-! ### permitted orders, plainly -/
/-- which are taken -/
def tkO (n : Nat) (o : List Nat) : List Bool := (List.range n).map (fun i => decide (i ∈ o))
theorem tkO_len (n : Nat) (o : List Nat) : (tkO n o).length = n := by simp [tkO]
theorem tkO_get (n : Nat) (o : List Nat) (i : Nat) (h : i < (tkO n o).length) : (tkO n o)[i] = decide (i ∈ o) := by simp [tkO]
theorem tkO_nil (n : Nat) : tkO n [] = List.replicate n false := by
  apply List.ext_getElem
  · simp [tkO]
  · intro i h1 h2; simp [tkO]
theorem tkO_set (n : Nat) (o : List Nat) (j : Nat) : (tkO n o).set j true = tkO n (o ++ [j]) := by
  apply List.ext_getElem
  · simp [tkO]
  · intro i h1 h2
    rw [List.getElem_set, tkO_get, tkO_get]
    by_cases e : j = i
    · subst e; simp
    · rw [if_neg e]
      simp [Ne.symm e]
/-- may j be taken behind o -/
def rdB (l : List Ev) (o : List Nat) (j : Nat) : Bool := (List.range l.length).all fun i => !bfB l i j || decide (i ∈ o)
def frP (l : List Ev) (o : List Nat) (j : Nat) : Bool := !decide (j ∈ o) && rdB l o j
def frF (l : List Ev) (o : List Nat) (j : Nat) : List Nat := (List.range j).filter (frP l o)
theorem frF_snoc (l : List Ev) (o : List Nat) (j : Nat) : frF l o (j + 1) = if frP l o j = true then frF l o j ++ [j] else frF l o j := by
  unfold frF
  rw [List.range_succ, List.filter_append]
  by_cases h : frP l o j = true
  · rw [if_pos h]; simp [h]
  · rw [if_neg h]; simp [h]
/-- an order so far: each event once, all earlier ones ahead of it -/
structure PermI (l : List Ev) (o : List Nat) : Prop where
  lt : ∀ j ∈ o, j < l.length
  nd : o.Nodup
  bf : ∀ k (h : k < o.length), ∀ i, i < l.length → bfB l i o[k] = true → i ∈ o.take k
theorem PermI.nil (l : List Ev) : PermI l [] := ⟨fun j h => by simp at h, List.nodup_nil, fun k h => by simp at h⟩
theorem rdB_iff (l : List Ev) (o : List Nat) (j : Nat) : rdB l o j = true ↔ ∀ i, i < l.length → bfB l i j = true → i ∈ o := by
  unfold rdB
  rw [List.all_eq_true]
  constructor
  · intro h i hi hb
    have := h i (by simpa using hi)
    rw [hb] at this
    simpa using this
  · intro h i hi
    cases hb : bfB l i j with
    | false => rfl
    | true => simpa using h i (by simpa using hi) hb
theorem PermI.step {l : List Ev} {o : List Nat} (h : PermI l o) (j : Nat) (hj : j ∈ frF l o l.length) : PermI l (o ++ [j]) := by
  unfold frF at hj
  rw [List.mem_filter] at hj
  obtain ⟨h1, h2⟩ := hj
  unfold frP at h2
  simp only [Bool.and_eq_true, Bool.not_eq_true', decide_eq_false_iff_not] at h2
  refine ⟨fun x hx => ?_, ?_, fun k hk i hi hb => ?_⟩
  · rw [List.mem_append] at hx
    rcases hx with hx | hx
    · exact h.lt x hx
    · rw [List.mem_singleton] at hx; subst hx; simpa using h1
  · rw [List.nodup_append]
    refine ⟨h.nd, by simp, fun a ha b hb => ?_⟩
    rw [List.mem_singleton] at hb
    subst hb
    intro e; subst e
    exact h2.1 ha
  · by_cases e : k < o.length
    · rw [List.getElem_append_left e] at hb
      rw [List.take_append_of_le_length (by omega)]
      exact h.bf k e i hi hb
    · have ek : k = o.length := by simp at hk; omega
      subst ek
      rw [List.getElem_append_right (by omega)] at hb
      simp only [Nat.sub_self, List.getElem_cons_zero] at hb
      rw [List.take_left']
      · exact (rdB_iff l o j).1 h2.2 i hi hb
      · rfl
theorem nd_len : ∀ (a b : List Nat), a.Nodup → (∀ x ∈ a, x ∈ b) → a.length ≤ b.length
  | [], b, _, _ => by simp
  | x :: a, b, hn, hs => by
    rw [List.nodup_cons] at hn
    have hx := hs x (by simp)
    have := nd_len a (b.erase x) hn.2 (fun y hy => (List.mem_erase_of_ne (fun e => hn.1 (by rw [← e]; exact hy))).2 (hs y (by simp [hy])))
    rw [List.length_erase_of_mem hx] at this
    have := List.length_pos_of_mem hx
    simp only [List.length_cons]
    omega
/-- the least that is not taken is free -/
theorem frF_pos (l : List Ev) (o : List Nat) (h : PermI l o) (hlt : o.length < l.length) : 0 < (frF l o l.length).length := by
  have hex : ∃ j, j < l.length ∧ j ∉ o := by
    apply Classical.byContradiction
    intro hc
    have hall : ∀ j, j < l.length → j ∈ o := fun j hj => Classical.byContradiction fun hn => hc ⟨j, hj, hn⟩
    have := nd_len (List.range l.length) o List.nodup_range (fun j hj => hall j (by simpa using hj))
    simp at this
    omega
  obtain ⟨j, hj⟩ := hex
  induction j using Nat.strongRecOn with
  | _ j ih =>
    by_cases hm : ∃ i, i < j ∧ i ∉ o
    · obtain ⟨i, hi, ho⟩ := hm
      exact ih i hi ⟨by omega, ho⟩
    · have : j ∈ frF l o l.length := by
        unfold frF
        rw [List.mem_filter]
        refine ⟨by simpa using hj.1, ?_⟩
        unfold frP
        rw [Bool.and_eq_true, rdB_iff]
        refine ⟨by simpa using hj.2, fun i hi hb => ?_⟩
        have hij : i < j := by
          unfold bfB at hb
          rw [Bool.and_eq_true] at hb
          exact of_decide_eq_true hb.1
        exact Classical.byContradiction fun hn => hm ⟨i, hij, hn⟩
      exact List.length_pos_of_mem this
theorem frF_len (l : List Ev) (o : List Nat) (j : Nat) : (frF l o j).length ≤ j := by
  unfold frF
  have := List.length_filter_le (frP l o) (List.range j)
  simpa using this
end Go.Proofs.Ythebembnlmddoaa
