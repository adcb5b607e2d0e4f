import Derived.Test.YthebembnlmddoaaG
namespace Go.Proofs.Ythebembnlmddoaa
open Go.RowKit
set_option maxHeartbeats 1000000
set_option maxRecDepth 100000
set_option linter.unusedSimpArgs false
set_option linter.unusedVariables false

/-! ### the clocks, plainly -/
/-- the tasks, in the order of their first events -/
def tkS (acc : List Int) (e : Ev) : List Int := if e.t ∈ acc then acc else acc ++ [e.t]
def tkF (l : List Ev) : List Int := l.foldl tkS []
theorem tkF_nil : tkF [] = [] := rfl
theorem tkF_snoc (l : List Ev) (e : Ev) : tkF (l ++ [e]) = tkS (tkF l) e := by simp [tkF, List.foldl_append]
theorem tkS_mem (acc : List Int) (e : Ev) (t : Int) : t ∈ tkS acc e ↔ t ∈ acc ∨ t = e.t := by
  unfold tkS
  split
  · constructor
    · exact Or.inl
    · rintro (h | rfl) <;> assumption
  · simp
theorem tkF_mem (l : List Ev) (t : Int) : t ∈ tkF l ↔ ∃ e ∈ l, e.t = t := by
  suffices ∀ (l : List Ev) (acc : List Int), t ∈ l.foldl tkS acc ↔ t ∈ acc ∨ ∃ e ∈ l, e.t = t by
    rw [tkF, this]; simp
  intro l
  induction l with
  | nil => intro acc; simp
  | cons e l ih =>
    intro acc
    rw [List.foldl_cons, ih, tkS_mem]
    simp only [List.mem_cons, exists_eq_or_imp]
    constructor
    · rintro ((h | rfl) | h)
      · exact Or.inl h
      · exact Or.inr (Or.inl rfl)
      · exact Or.inr (Or.inr h)
    · rintro (h | rfl | h)
      · exact Or.inl (Or.inl h)
      · exact Or.inl (Or.inr rfl)
      · exact Or.inr h
theorem tkF_len (l : List Ev) : (tkF l).length ≤ l.length := by
  suffices ∀ (l : List Ev) (acc : List Int), (l.foldl tkS acc).length ≤ acc.length + l.length by
    have := this l []; simpa [tkF] using this
  intro l
  induction l with
  | nil => intro acc; simp
  | cons e l ih =>
    intro acc
    rw [List.foldl_cons]
    have := ih (tkS acc e)
    have h2 : (tkS acc e).length ≤ acc.length + 1 := by unfold tkS; split <;> simp
    simp only [List.length_cons]
    omega
/-- does an event order those of its place -/
def ordB (e : Ev) : Bool := decide (e.k = 1) && decide (3 ≤ e.m)
/-- the last clocks of tasks and of places, and those of all events -/
structure Cs where
  T : Int → Option (List Int)
  P : Int × Int × Int → Option (List Int)
  As : List (List Int)
def now1 (K : Nat) (s : Cs) (e : Ev) : List Int := joinF (List.replicate K 0) ((s.T e.t).getD [])
def now2 (K : Nat) (s : Cs) (e : Ev) : List Int := if ordB e = true then joinF (now1 K s e) ((s.P (e.p, e.q, e.r)).getD []) else now1 K s e
def now3 (K : Nat) (s : Cs) (e : Ev) : List Int := if e.k = 3 then joinF (now2 K s e) ((s.T e.o).getD []) else now2 K s e
def nowF (ts : List Int) (s : Cs) (e : Ev) : List Int := (now3 ts.length s e).set (ts.idxOf e.t) ((now3 ts.length s e).getD (ts.idxOf e.t) 0 + 1)
def csS (ts : List Int) (s : Cs) (e : Ev) : Cs where
  T := fun t => if e.k = 2 ∧ t = e.o then some (nowF ts s e) else if t = e.t then some (nowF ts s e) else s.T t
  P := fun p => if ordB e = true ∧ p = (e.p, e.q, e.r) then some (nowF ts s e) else s.P p
  As := s.As ++ [nowF ts s e]
def csI : Cs := ⟨fun _ => none, fun _ => none, []⟩
def csF (ts : List Int) (l : List Ev) : Cs := l.foldl (csS ts) csI
theorem csF_nil (ts : List Int) : csF ts [] = csI := rfl
theorem csF_snoc (ts : List Int) (l : List Ev) (e : Ev) : csF ts (l ++ [e]) = csS ts (csF ts l) e := by simp [csF, List.foldl_append]
def clkF (l : List Ev) : List (List Int) := (csF (tkF l) l).As
theorem now1_len (K : Nat) (s : Cs) (e : Ev) : (now1 K s e).length = K := by simp [now1, joinF_len]
theorem now2_len (K : Nat) (s : Cs) (e : Ev) : (now2 K s e).length = K := by unfold now2; split <;> simp [joinF_len, now1_len]
theorem now3_len (K : Nat) (s : Cs) (e : Ev) : (now3 K s e).length = K := by unfold now3; split <;> simp [joinF_len, now2_len]
theorem nowF_len (ts : List Int) (s : Cs) (e : Ev) : (nowF ts s e).length = ts.length := by simp [nowF, now3_len]
/-- all numbers lie between 0 and n, and all rows have the same length -/
structure Cs.bnd (K n : Nat) (s : Cs) : Prop where
  t : ∀ t row, s.T t = some row → row.length = K ∧ ∀ x ∈ row, 0 ≤ x ∧ x ≤ (n : Int)
  p : ∀ p row, s.P p = some row → row.length = K ∧ ∀ x ∈ row, 0 ≤ x ∧ x ≤ (n : Int)
  a : ∀ row ∈ s.As, row.length = K ∧ ∀ x ∈ row, 0 ≤ x ∧ x ≤ (n : Int)
theorem joinF_bnd (xs ys : List Int) (n : Nat) (hx : ∀ x ∈ xs, 0 ≤ x ∧ x ≤ (n : Int)) (hy : ∀ x ∈ ys, 0 ≤ x ∧ x ≤ (n : Int)) : ∀ x ∈ joinF xs ys, 0 ≤ x ∧ x ≤ (n : Int) := by
  intro x hm
  obtain ⟨i, hi, rfl⟩ := List.mem_iff_getElem.1 hm
  have hi2 := hi
  rw [joinF_len] at hi2
  rw [joinF_get, getD_in xs i hi2]
  have h1 := hx _ (List.getElem_mem hi2)
  split
  · rename_i h
    rw [getD_in ys i h]
    have h2 := hy _ (List.getElem_mem h)
    omega
  · exact h1
theorem getD_bnd {κ : Type} {f : κ → Option (List Int)} {K n : Nat} (h : ∀ t row, f t = some row → row.length = K ∧ ∀ x ∈ row, 0 ≤ x ∧ x ≤ (n : Int)) (t : κ) : ((f t).getD []).length ≤ K ∧ ∀ x ∈ (f t).getD [], 0 ≤ x ∧ x ≤ (n : Int) := by
  cases hf : f t with
  | none => exact ⟨by simp, fun x hx => by simp at hx⟩
  | some row => exact ⟨by simpa using Nat.le_of_eq (h t row hf).1, (h t row hf).2⟩
theorem now3_bnd {K n : Nat} {s : Cs} (h : s.bnd K n) (e : Ev) : ∀ x ∈ now3 K s e, 0 ≤ x ∧ x ≤ (n : Int) := by
  have h1 : ∀ x ∈ now1 K s e, 0 ≤ x ∧ x ≤ (n : Int) := joinF_bnd _ _ n (fun x hx => by obtain ⟨_, rfl⟩ := List.mem_replicate.1 hx; omega) (getD_bnd h.t _).2
  have h2 : ∀ x ∈ now2 K s e, 0 ≤ x ∧ x ≤ (n : Int) := by
    unfold now2
    split
    · exact joinF_bnd _ _ n h1 (getD_bnd h.p _).2
    · exact h1
  unfold now3
  split
  · exact joinF_bnd _ _ n h2 (getD_bnd h.t _).2
  · exact h2
theorem nowF_bnd {ts : List Int} {n : Nat} {s : Cs} (h : s.bnd ts.length n) (e : Ev) (he : e.t ∈ ts) : ∀ x ∈ nowF ts s e, 0 ≤ x ∧ x ≤ ((n + 1 : Nat) : Int) := by
  have h3 := now3_bnd h e
  intro x hx
  unfold nowF at hx
  have hi : ts.idxOf e.t < (now3 ts.length s e).length := by rw [now3_len]; exact List.idxOf_lt_length_of_mem he
  rw [getD_in _ _ hi] at hx
  rcases List.mem_or_eq_of_mem_set hx with h | h
  · have := h3 x h; omega
  · have := h3 _ (List.getElem_mem hi); omega
theorem csS_bnd {ts : List Int} {n : Nat} {s : Cs} (h : s.bnd ts.length n) (e : Ev) (he : e.t ∈ ts) : (csS ts s e).bnd ts.length (n + 1) := by
  have hn := nowF_bnd h e he
  have hl := nowF_len ts s e
  have up : ∀ {row : List Int}, (row.length = ts.length ∧ ∀ x ∈ row, 0 ≤ x ∧ x ≤ (n : Int)) → row.length = ts.length ∧ ∀ x ∈ row, 0 ≤ x ∧ x ≤ ((n + 1 : Nat) : Int) :=
    fun h => ⟨h.1, fun x hx => by have := h.2 x hx; omega⟩
  refine ⟨fun t row hr => ?_, fun p row hr => ?_, fun row hr => ?_⟩
  · simp only [csS] at hr
    split at hr
    · cases hr; exact ⟨hl, hn⟩
    · split at hr
      · cases hr; exact ⟨hl, hn⟩
      · exact up (h.t t row hr)
  · simp only [csS] at hr
    split at hr
    · cases hr; exact ⟨hl, hn⟩
    · exact up (h.p p row hr)
  · simp only [csS, List.mem_append, List.mem_singleton] at hr
    rcases hr with hr | rfl
    · exact up (h.a row hr)
    · exact ⟨hl, hn⟩
theorem csF_bnd (ts : List Int) (l : List Ev) (hl : ∀ e ∈ l, e.t ∈ ts) : (csF ts l).bnd ts.length l.length := by
  suffices ∀ (m : Nat) (l : List Ev), l.length = m → (∀ e ∈ l, e.t ∈ ts) → (csF ts l).bnd ts.length m by exact this _ l rfl hl
  intro m
  induction m with
  | zero =>
    intro l h _
    obtain rfl : l = [] := List.eq_nil_of_length_eq_zero h
    exact ⟨fun t row h => (by cases h), fun t row h => (by cases h), fun row h => (by simp [csF, csI] at h)⟩
  | succ m ih =>
    intro l h hl
    have hne : l ≠ [] := by intro e; subst e; simp at h
    obtain ⟨l', e, rfl⟩ : ∃ l' e, l = l' ++ [e] := ⟨l.dropLast, l.getLast hne, (List.dropLast_concat_getLast hne).symm⟩
    rw [csF_snoc]
    exact csS_bnd (ih l' (by simpa using h) (fun e he => hl e (by simp [he]))) e (hl e (by simp))
theorem csF_As_len (ts : List Int) (l : List Ev) : (csF ts l).As.length = l.length := by
  suffices ∀ (l : List Ev) (s : Cs), (l.foldl (csS ts) s).As.length = s.As.length + l.length by
    have := this l csI; simpa [csF, csI] using this
  intro l
  induction l with
  | nil => intro s; simp
  | cons e l ih => intro s; rw [List.foldl_cons, ih]; simp [csS]; omega
end Go.Proofs.Ythebembnlmddoaa
