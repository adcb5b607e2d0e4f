import Derived.Test.YthccnaemocdcbaaT
namespace Go.Proofs.Ythccnaemocdcbaa
open Go.RowKit
set_option maxHeartbeats 2000000
set_option maxRecDepth 100000
set_option linter.unusedSimpArgs false
set_option linter.unusedVariables false

/-! ### the sums of beginnings, by a tree, plainly -/
def pre (l : List Int) (i : Nat) : Int := (l.take i).sum
theorem pre_zero (l : List Int) : pre l 0 = 0 := by simp [pre]
theorem pre_succ (l : List Int) (i : Nat) (h : i < l.length) : pre l (i + 1) = pre l i + l[i] := by
  unfold pre
  rw [List.take_succ_eq_append_getElem h, List.sum_append]
  simp
theorem pre_far (l : List Int) (i : Nat) (h : l.length ≤ i) : pre l (i + 1) = pre l i := by
  unfold pre
  rw [List.take_of_length_le h, List.take_of_length_le (by omega)]
theorem pre_bound (l : List Int) (h : ∀ x ∈ l, -1000000000000 ≤ x ∧ x ≤ 1000000000000) (i : Nat) : -(i * 1000000000000 : Int) ≤ pre l i ∧ pre l i ≤ (i * 1000000000000 : Int) := by
  induction i with
  | zero => simp [pre]
  | succ i ih =>
    by_cases hi : i < l.length
    · rw [pre_succ l i hi]
      have := h _ (List.getElem_mem hi)
      simp only [Int.natCast_add, Int.natCast_one]
      omega
    · rw [pre_far l i (by omega)]
      simp only [Int.natCast_add, Int.natCast_one]
      omega
/-- what lies below a node -/
def belowF (l : List Int) (s i : Nat) : Int := pre l (i + 1) - pre l (i + 1 - Nat.gcd (i + 1) s)
/-- what lies ahead of a node, where the tree was walked down -/
def downF (l : List Int) (s i : Nat) : Int := if s ∣ i + 1 then pre l (i + 1 - s) else belowF l s i
theorem belowF_one (l : List Int) (i : Nat) : belowF l 1 i = pre l (i + 1) - pre l i := by simp [belowF]
theorem downF_one (l : List Int) (i : Nat) : downF l 1 i = pre l i := by simp [downF]
theorem gcd_two (k n : Nat) (h : ¬ 2 * 2 ^ k ∣ n) : Nat.gcd n (2 * 2 ^ k) = Nat.gcd n (2 ^ k) := by
  induction k generalizing n with
  | zero =>
    have : n % 2 = 1 := by
      rcases Nat.mod_two_eq_zero_or_one n with h' | h'
      · exact absurd (Nat.dvd_of_mod_eq_zero h') (by simpa using h)
      · exact h'
    rw [Nat.gcd_comm, show 2 * 2 ^ 0 = 2 by rfl, Nat.gcd_rec, this]
    simp
  | succ k ih =>
    by_cases h2 : 2 ∣ n
    · obtain ⟨m, rfl⟩ := h2
      rw [show 2 ^ (k + 1) = 2 * 2 ^ k by rw [Nat.pow_succ, Nat.mul_comm], Nat.gcd_mul_left, Nat.gcd_mul_left, ih]
      intro hd
      apply h
      rw [show 2 ^ (k + 1) = 2 * 2 ^ k by rw [Nat.pow_succ, Nat.mul_comm]]
      exact Nat.mul_dvd_mul_left 2 hd
    · have hodd : Nat.Coprime n 2 := by
        have : n % 2 = 1 := by
          rcases Nat.mod_two_eq_zero_or_one n with h' | h'
          · exact absurd (Nat.dvd_of_mod_eq_zero h') h2
          · exact h'
        unfold Nat.Coprime
        rw [Nat.gcd_comm, Nat.gcd_rec, this]
        simp
      have e : ∀ j, Nat.gcd n (2 ^ j) = 1 := fun j => Nat.Coprime.pow_right j hodd
      rw [e (k + 1), show 2 * 2 ^ (k + 1) = 2 ^ (k + 2) by rw [Nat.pow_succ 2 (k + 1), Nat.mul_comm], e (k + 2)]

/-- up the tree, in the middle of a level -/
def upF (l : List Int) (s a i : Nat) : Int := if i + 1 ≤ a then belowF l (2 * s) i else belowF l s i
def dnF (l : List Int) (s a i : Nat) : Int := if i + 1 ≤ a then downF l s i else downF l (2 * s) i
theorem upF_zero (l : List Int) (s i : Nat) : upF l s 0 i = belowF l s i := by simp [upF]
theorem dnF_zero (l : List Int) (s i : Nat) : dnF l s 0 i = downF l (2 * s) i := by simp [dnF]
theorem upF_all (l : List Int) (s a i : Nat) (h : i + 1 ≤ a) : upF l s a i = belowF l (2 * s) i := by simp [upF, h]
theorem dnF_all (l : List Int) (s a i : Nat) (h : i + 1 ≤ a) : dnF l s a i = downF l s i := by simp [dnF, h]
/-- a node of a level: i + 1 is a multiple of 2 s -/
theorem up_step (l : List Int) (k i : Nat) (hd : 2 * 2 ^ k ∣ i + 1) (hi : 2 * 2 ^ k ≤ i + 1) :
    upF l (2 ^ k) (i + 1 - 2 * 2 ^ k) i = pre l (i + 1) - pre l (i + 1 - 2 ^ k) ∧ upF l (2 ^ k) (i + 1 - 2 * 2 ^ k) (i - 2 ^ k) = pre l (i + 1 - 2 ^ k) - pre l (i + 1 - 2 * 2 ^ k) ∧
    ∀ j, upF l (2 ^ k) (i + 1) j = if j = i then pre l (i + 1) - pre l (i + 1 - 2 * 2 ^ k) else upF l (2 ^ k) (i + 1 - 2 * 2 ^ k) j := by
  have hs : 0 < 2 ^ k := Nat.two_pow_pos k
  have hs1 : 2 ^ k ∣ i + 1 := Nat.dvd_trans ⟨2, Nat.mul_comm _ _⟩ hd
  have hs2 : 2 ^ k ∣ i + 1 - 2 ^ k := Nat.dvd_sub hs1 (Nat.dvd_refl _)
  have g2 := fun n (h : ¬ 2 * 2 ^ k ∣ n) => gcd_two k n h
  generalize 2 ^ k = s at *
  refine ⟨?_, ?_, fun j => ?_⟩
  · unfold upF belowF
    rw [if_neg (by omega), Nat.gcd_eq_right hs1]
  · unfold upF belowF
    rw [if_neg (by omega), show i - s + 1 = i + 1 - s by omega, Nat.gcd_eq_right hs2, show i + 1 - s - s = i + 1 - 2 * s by omega]
  · by_cases e : j = i
    · subst e
      rw [if_pos rfl]
      unfold upF belowF
      rw [if_pos (Nat.le_refl _), Nat.gcd_eq_right hd]
    · rw [if_neg e]
      unfold upF
      by_cases h1 : j + 1 ≤ i + 1 - 2 * s
      · rw [if_pos h1, if_pos (by omega)]
      · rw [if_neg h1]
        by_cases h2 : j + 1 ≤ i + 1
        · rw [if_pos h2]
          unfold belowF
          rw [g2 (j + 1)]
          intro hj
          have hsub := Nat.dvd_sub hd hj
          have := Nat.le_of_dvd (by omega) hsub
          omega
        · rw [if_neg h2]
theorem dn_step (l : List Int) (k i : Nat) (hd : 2 * 2 ^ k ∣ i + 1) (hi : 2 * 2 ^ k ≤ i + 1) :
    dnF l (2 ^ k) (i + 1 - 2 * 2 ^ k) i = pre l (i + 1 - 2 * 2 ^ k) ∧ dnF l (2 ^ k) (i + 1 - 2 * 2 ^ k) (i - 2 ^ k) = pre l (i + 1 - 2 ^ k) - pre l (i + 1 - 2 * 2 ^ k) ∧
    ∀ j, dnF l (2 ^ k) (i + 1) j = if j = i then pre l (i + 1 - 2 ^ k) else if j = i - 2 ^ k then pre l (i + 1 - 2 * 2 ^ k) else dnF l (2 ^ k) (i + 1 - 2 * 2 ^ k) j := by
  have hs : 0 < 2 ^ k := Nat.two_pow_pos k
  have hs1 : 2 ^ k ∣ i + 1 := Nat.dvd_trans ⟨2, Nat.mul_comm _ _⟩ hd
  have hs2 : 2 ^ k ∣ i + 1 - 2 ^ k := Nat.dvd_sub hs1 (Nat.dvd_refl _)
  have g2 := fun n (h : ¬ 2 * 2 ^ k ∣ n) => gcd_two k n h
  generalize 2 ^ k = s at *
  have hn : ¬ 2 * s ∣ i + 1 - s := by
    intro h
    have hsub := Nat.dvd_sub hd h
    rw [show i + 1 - (i + 1 - s) = s by omega] at hsub
    have := Nat.le_of_dvd hs hsub
    omega
  refine ⟨?_, ?_, fun j => ?_⟩
  · unfold dnF downF
    rw [if_neg (by omega), if_pos hd]
  · unfold dnF downF
    rw [if_neg (by omega), show i - s + 1 = i + 1 - s by omega, if_neg hn]
    unfold belowF
    rw [show i - s + 1 = i + 1 - s by omega, g2 _ hn, Nat.gcd_eq_right hs2, show i + 1 - s - s = i + 1 - 2 * s by omega]
  · by_cases e : j = i
    · subst e
      rw [if_pos rfl]
      unfold dnF downF
      rw [if_pos (Nat.le_refl _), if_pos hs1]
    · rw [if_neg e]
      by_cases e2 : j = i - s
      · subst e2
        rw [if_pos rfl]
        unfold dnF downF
        rw [if_pos (by omega), show i - s + 1 = i + 1 - s by omega, if_pos hs2, show i + 1 - s - s = i + 1 - 2 * s by omega]
      · rw [if_neg e2]
        unfold dnF
        by_cases h1 : j + 1 ≤ i + 1 - 2 * s
        · rw [if_pos h1, if_pos (by omega)]
        · rw [if_neg h1]
          by_cases h2 : j + 1 ≤ i + 1
          · rw [if_pos h2]
            have hj : ¬ s ∣ j + 1 := by
              intro hj
              obtain ⟨q, hq⟩ := Nat.dvd_sub hs1 hj
              by_cases q0 : q = 0
              · subst q0; omega
              · by_cases q1 : q = 1
                · subst q1; omega
                · have : s * 2 ≤ s * q := Nat.mul_le_mul_left s (by omega)
                  omega
            have hj2 : ¬ 2 * s ∣ j + 1 := fun h => hj (Nat.dvd_trans ⟨2, Nat.mul_comm _ _⟩ h)
            unfold downF
            rw [if_neg hj, if_neg hj2]
            unfold belowF
            rw [g2 _ hj2]
          · rw [if_neg h2]
theorem top_eq (l : List Int) (i : Nat) (h : i < 1024) : (if i = 1023 then 0 else belowF l 1024 i) = downF l 1024 i := by
  unfold downF
  by_cases e : i = 1023
  · subst e; rw [if_pos rfl, if_pos (by decide)]; simp [pre]
  · rw [if_neg e, if_neg]
    intro hd
    have := Nat.le_of_dvd (by omega) hd
    omega
/-- what a loop's steps come to -/
theorem level_end (k i : Nat) (hk : k < 10) (hd : 2 * 2 ^ k ∣ i + 1) (h1 : 1024 ≤ i) (h2 : i + 1 ≤ 1024 + 2 * 2 ^ k) : i + 1 = 1024 + 2 * 2 ^ k := by
  have h3 : 2 * 2 ^ k ∣ 1024 := by
    rw [show 2 * 2 ^ k = 2 ^ (k + 1) by rw [Nat.pow_succ, Nat.mul_comm], show 1024 = 2 ^ 10 by rfl]
    exact Nat.pow_dvd_pow 2 (by omega)
  have h4 := Nat.dvd_sub hd h3
  have := Nat.le_of_dvd (by omega) h4
  omega
def rdF (n : Nat) : Nat := (List.range 11).findIdx (fun k => decide (n ≤ 2 ^ k))
theorem rdF_at (n k : Nat) (hk : k < 11) (h : n ≤ 2 ^ k) (hb : ∀ j, j < k → ¬ n ≤ 2 ^ j) : rdF n = k := by
  unfold rdF
  rw [List.findIdx_eq (by simpa using hk)]
  refine ⟨by simpa using h, fun j hj => ?_⟩
  have := hb j hj
  simpa using this
def sums (l : List Int) : List Int := (List.range l.length).map fun j => pre l (j + 1)
theorem sums_len (l : List Int) : (sums l).length = l.length := by simp [sums]
theorem sums_take (l : List Int) (i : Nat) (h : i < l.length) : (sums l).take (i + 1) = (sums l).take i ++ [pre l (i + 1)] := by
  rw [List.take_succ_eq_append_getElem (by rw [sums_len]; exact h)]
  simp [sums]
end Go.Proofs.Ythccnaemocdcbaa
