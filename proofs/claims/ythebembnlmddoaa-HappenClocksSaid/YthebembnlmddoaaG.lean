import Derived.Test.YthebembnlmddoaaF
namespace Go.Proofs.Ythebembnlmddoaa
open Go.RowKit
set_option maxHeartbeats 8000000
set_option maxRecDepth 100000
set_option linter.unusedSimpArgs false
set_option linter.unusedVariables false

/-- the greater ones of two lists, element by element -/
def joinF (xs ys : List Int) : List Int := (List.range xs.length).map fun i => if i < ys.length then max (xs.getD i 0) (ys.getD i 0) else xs.getD i 0
theorem joinF_len (xs ys : List Int) : (joinF xs ys).length = xs.length := by simp [joinF]
theorem joinF_nil (xs : List Int) : joinF xs [] = xs := by
  apply List.ext_getElem
  · simp [joinF]
  · intro i h1 h2
    simp [joinF, List.getD_eq_getElem?_getD, List.getElem?_eq_getElem h2]
theorem joinF_get (xs ys : List Int) (i : Nat) (h : i < (joinF xs ys).length) : (joinF xs ys)[i] = if i < ys.length then max (xs.getD i 0) (ys.getD i 0) else xs.getD i 0 := by simp [joinF]
theorem joinF_step (xs ys : List Int) (i : Nat) (hi : i < ys.length) (hx : i < xs.length) :
    (joinF xs (ys.take i)).set i (max xs[i] ys[i]) = joinF xs (ys.take (i + 1)) ∧ (joinF xs (ys.take i))[i]'(by rw [joinF_len]; exact hx) = xs[i] := by
  constructor
  · apply List.ext_getElem
    · simp [joinF_len]
    · intro j h1 h2
      rw [joinF_len] at h2
      rw [List.getElem_set, joinF_get, joinF_get]
      simp only [List.length_take]
      by_cases e : i = j
      · subst e
        rw [if_pos rfl, if_pos (by omega), getD_in xs i hx]
        rw [List.getD_eq_getElem?_getD, List.getElem?_take, if_pos (by omega), List.getElem?_eq_getElem hi]
        rfl
      · rw [if_neg e]
        by_cases h3 : j < i
        · rw [if_pos (by omega), if_pos (by omega)]
          simp only [List.getD_eq_getElem?_getD, List.getElem?_take]
          rw [if_pos h3, if_pos (by omega)]
        · rw [if_neg (by omega), if_neg (by omega)]
  · rw [joinF_get, if_neg (by rw [List.length_take]; omega), getD_in xs i hx]
theorem Rd.grown {α : Type} {enc : α → List Value} {sz : Nat} {w w' : World} {A : Option Addr} {xs : List α} {g : Nat} (h : Rd enc sz w A xs) (hg : w.grownBy w' (some g)) (hne : ∀ a, A = some a → a.block ≠ g) : Rd enc sz w' A xs :=
  ⟨h.small, fun k hk => by
    obtain ⟨a, ha, hc⟩ := h.cell k hk
    refine ⟨a, ha, fun j v hv => hg.cell (hc j v hv) (fun e => ?_)⟩
    have := Option.some.inj e
    have hb : (a.add (k * sz + j)).block = a.block := by unfold Addr.add; split <;> rfl
    rw [hb] at this
    exact hne a ha this⟩
theorem grownBy_refl (w : World) (row : Option Nat) : w.grownBy w row := ⟨rfl, rfl, rfl, Nat.le_refl _, fun _ _ _ => rfl⟩
theorem grownBy_trans {w w' w'' : World} {row : Option Nat} (h : w.grownBy w' row) (h' : w'.grownBy w'' row) : w.grownBy w'' row :=
  ⟨h'.os.trans h.os, h'.tape.trans h.tape, h'.output.trans h.output, Nat.le_trans h.size h'.size, fun k hk hne => (h'.block k (Nat.lt_of_lt_of_le hk h.size) hne).trans (h.block k hk hne)⟩

theorem join_calls (base g K c : Nat) (xs ys : List Int) (hK : xs.length = K) (hKs : K ≤ 1000000) (hy : ys.length ≤ K) (M : Option Addr) (c2 : Nat) (w : World)
    (hown : Own encI 1 3 w base (.slice (some ⟨g, 0, none⟩) K c) xs) (hr : Rd encI 1 w M ys) (hne : ∀ a, M = some a → a.block ≠ g) :
    Calls Try.prog 55 #[.slice (some ⟨g, 0, none⟩) K c, .slice M ys.length c2] w fun e w' => e = .returned (.tuple #[]) ∧ Own encI 1 3 w' base (.slice (some ⟨g, 0, none⟩) K c) (joinF xs ys) ∧ w.grownBy w' (some g) := by
  have HI := Lib.hid (And.intro hr (And.intro hne hown))
  have hys : ys.length ≤ 1000000 := by omega
  clear hr hne hown
  go_enter Try.func55, Try.ntmps55
  go_wp2_with fail
  go_loopg [4, 5, 8, 9, 10, 11, 12, 13, 14, 15, 16, 17, 18, 19, 20, 21, 22] ys.length (fun gk v4 v5 v8 v9 v10 v11 v12 v13 v14 v15 v16 v17 v18 v19 v20 v21 v22 wr => ∃ i : Nat, i + gk = ys.length ∧ v8 = .int .i64 (i : Int) ∧ Own encI 1 3 wr base (.slice (some ⟨g, 0, none⟩) K c) (joinF xs (ys.take i)) ∧ w.grownBy wr (some g))
  case atStart => exact ⟨0, by omega, rfl, by rw [List.take_zero, joinF_nil]; exact HI.out.2.2, grownBy_refl _ _⟩
  case round =>
    obtain ⟨i, hi, rfl, ho, hg⟩ := hrel
    by_cases hil : i < ys.length
    · have hd : decide (i < ys.length) = true := decide_eq_true hil
      obtain ⟨b, rfl, q1⟩ := (HI.out.1.grown hg HI.out.2.1).int i hil
      have hjl : (joinF xs (ys.take i)).length = K := by rw [joinF_len, hK]
      obtain ⟨q2, q3⟩ := ho.cell lenI hjl i (by omega) 0 _ rfl
      obtain ⟨s1, s2⟩ := joinF_step xs ys i hil (by omega)
      have st := ho.set lenI hjl i (by omega) 0 (by decide) (.int .i64 (max xs[i] ys[i])) (max xs[i] ys[i]) rfl
      simp only [Nat.mul_one, Nat.add_zero] at q2 q3 st
      rw [s1] at st
      rw [s2] at q2
      have hik : (i : Int) < (K : Int) := by omega
      generalize ys[i] = y at *
      generalize xs[i]'(by omega) = x at *
      have hmx : (if x < y then y else x) = max x y := by rw [Int.max_def]; split <;> split <;> omega
      have HS := Lib.hid (And.intro st.1 (grownBy_trans hg st.2))
      clear st s1 s2 ho hg hjl
      go_upto_region 3 with fail
      go_wp2_with fail
      go_roundg (gk - 1)
      case measure => omega
      case rel => exact ⟨i + 1, by omega, by go_num, HS.out.1, HS.out.2⟩
    · have hd : decide (i < ys.length) = false := decide_eq_false hil
      rw [List.take_of_length_le (by omega)] at ho
      have HO := Lib.hid (And.intro ho hg)
      clear ho hg
      go_wp2_with fail
      refine bodyPost_end (results_none rfl _ _ _) rfl ?_
      exact ⟨rfl, HO.out.1, HO.out.2⟩
end Go.Proofs.Ythebembnlmddoaa
