import Derived.Test.YthccnaemocdcbaaE
namespace Go.Proofs.Ythccnaemocdcbaa
open Go.RowKit Ieee
set_option maxHeartbeats 1000000
set_option maxRecDepth 100000
set_option linter.unusedSimpArgs false
set_option linter.unusedVariables false

/-! the transform, plainly -/
def tw (back : Bool) (e : Nat) : G := match e with | 0 => (1, 0) | 1 => if back then (0, 1) else (0, -1) | 2 => (-1, 0) | _ => if back then (0, -1) else (0, 1)
def gadd (a b : G) : G := (a.1 + b.1, a.2 + b.2)
def gsum (f : Nat → G) : Nat → G | 0 => (0, 0) | m + 1 => gadd (gsum f m) (f m)
def dig (s j : Nat) : Nat := j / s % 4
def bas (s j : Nat) : Nat := j - dig s j * s
def lev (back : Bool) (s : Nat) (z : Nat → G) (j : Nat) : G := gsum (fun a => gmul (z (bas s j + a * s)) (tw back (a * dig s j % 4))) 4
def levs (back : Bool) (z : Nat → G) : Nat → Nat → G | 0 => z | t + 1 => lev back (4 ^ t) (levs back z t)

theorem dig_lt (s j : Nat) : dig s j < 4 := Nat.mod_lt _ (by decide)
/-- an index out of its digit and the rest -/
theorem split_at {s : Nat} (hs : 0 < s) (j : Nat) : ∃ q r, r < s ∧ j = s * (4 * q + dig s j) + r ∧ bas s j = s * (4 * q) + r := by
  refine ⟨j / s / 4, j % s, Nat.mod_lt _ hs, ?_, ?_⟩
  · have h1 := Nat.div_add_mod j s
    have h2 := Nat.div_add_mod (j / s) 4
    unfold dig
    rw [h2]; exact h1.symm
  · have h1 := Nat.div_add_mod j s
    have h2 := Nat.div_add_mod (j / s) 4
    have h3 : s * (4 * (j / s / 4) + j / s % 4) = s * (4 * (j / s / 4)) + j / s % 4 * s := by rw [Nat.mul_add, Nat.mul_comm (j / s % 4)]
    rw [h2] at h3
    unfold bas dig
    omega
theorem dig_of {s : Nat} (hs : 0 < s) (q r d : Nat) (hr : r < s) (hd : d < 4) : dig s (s * (4 * q + d) + r) = d ∧ bas s (s * (4 * q + d) + r) = s * (4 * q) + r := by
  have h1 : (s * (4 * q + d) + r) / s = 4 * q + d := by rw [Nat.mul_add_div hs, Nat.div_eq_of_lt hr, Nat.add_zero]
  have h2 : dig s (s * (4 * q + d) + r) = d := by unfold dig; rw [h1]; omega
  refine ⟨h2, ?_⟩
  unfold bas
  rw [h2, Nat.mul_add, Nat.mul_comm d]; omega
theorem bas_dig {s : Nat} (hs : 0 < s) (j : Nat) : dig s (bas s j) = 0 ∧ bas s (bas s j) = bas s j := by
  obtain ⟨q, r, hr, h1, h2⟩ := split_at hs j
  have := dig_of hs q r 0 hr (by decide)
  rw [Nat.add_zero] at this
  rw [h2]; exact this
theorem bas_le (s j : Nat) : bas s j ≤ j := Nat.sub_le _ _
/-- the places of a butterfly -/
theorem wing {s : Nat} (hs : 0 < s) {i : Nat} (hi : dig s i = 0) (a : Nat) (ha : a < 4) : dig s (i + a * s) = a ∧ bas s (i + a * s) = i := by
  obtain ⟨q, r, hr, h1, h2⟩ := split_at hs i
  rw [hi, Nat.add_zero] at h1
  have h3 := dig_of hs q r a hr ha
  have e : i + a * s = s * (4 * q + a) + r := by rw [Nat.mul_add, Nat.mul_comm a]; omega
  rw [e, h1]; exact h3
theorem wing_lt {s n : Nat} (hs : 0 < s) (hn : ∃ p, n = 4 * s * p) {i : Nat} (hi : dig s i = 0) (hlt : i < n) (a : Nat) (ha : a < 4) : i + a * s < n := by
  obtain ⟨p, rfl⟩ := hn
  obtain ⟨q, r, hr, h1, h2⟩ := split_at hs i
  rw [hi, Nat.add_zero] at h1
  have e : i + a * s = s * (4 * q + a) + r := by rw [Nat.mul_add, Nat.mul_comm a]; omega
  have hq : q < p := by
    have h5 : 4 * s * p = s * (4 * p) := by rw [Nat.mul_comm 4 s, Nat.mul_assoc]
    have h6 : s * (4 * q) < s * (4 * p) := by omega
    have := Nat.lt_of_mul_lt_mul_left h6
    omega
  have h7 : s * (4 * q + a) + s ≤ s * (4 * p) := by
    have : s * (4 * q + a) + s = s * (4 * q + a + 1) := by rw [Nat.mul_add s (4 * q + a) 1, Nat.mul_one]
    rw [this]; exact Nat.mul_le_mul_left _ (by omega)
  have h5 : 4 * s * p = s * (4 * p) := by rw [Nat.mul_comm 4 s, Nat.mul_assoc]
  omega

theorem gb_mul_tw {M : Nat} {z : G} (h : gb M z) (back : Bool) (e : Nat) : gb M (gmul z (tw back e)) := by
  obtain ⟨h1, h2⟩ := h
  unfold tw
  split <;> cases back <;> simp [gmul, gb] <;> omega
theorem gb_tw (back : Bool) (e : Nat) : gb 1 (tw back e) := by
  unfold tw
  split <;> cases back <;> simp [gb]
theorem gb_gsum {M : Nat} {f : Nat → G} (m : Nat) (h : ∀ a, a < m → gb M (f a)) : gb (m * M) (gsum f m) := by
  induction m with
  | zero => simp [gsum, gb]
  | succ m ih =>
    obtain ⟨a1, a2⟩ := ih (fun a ha => h a (by omega))
    obtain ⟨b1, b2⟩ := h m (by omega)
    rw [Nat.succ_mul]
    simp only [gsum, gadd, gb]
    omega
theorem gb_lev {M : Nat} {z : Nat → G} (h : ∀ j, gb M (z j)) (back : Bool) (s j : Nat) : gb (4 * M) (lev back s z j) :=
  gb_gsum 4 (fun a _ => gb_mul_tw (h _) back _)
theorem gb_levs {M : Nat} {z : Nat → G} (h : ∀ j, gb M (z j)) (back : Bool) (t j : Nat) : gb (4 ^ t * M) (levs back z t j) := by
  induction t generalizing j with
  | zero => simpa [levs] using h j
  | succ t ih =>
    have := gb_lev ih back (4 ^ t) j
    rwa [← Nat.mul_assoc, ← Nat.pow_succ'] at this

/-- a level, as far as the places ahead of i are done -/
def part (back : Bool) (s : Nat) (z : Nat → G) (i j : Nat) : G := if bas s j < i then lev back s z j else z j
/-- .. and b of the four places that begin at i -/
def part4 (back : Bool) (s : Nat) (z : Nat → G) (i b j : Nat) : G := if bas s j < i ∨ (bas s j = i ∧ dig s j < b) then lev back s z j else z j
theorem part4_zero (back : Bool) (s : Nat) (z : Nat → G) (i : Nat) : part4 back s z i 0 = part back s z i := by
  funext j; simp [part4, part]
theorem part4_four (back : Bool) (s : Nat) (z : Nat → G) (i : Nat) : part4 back s z i 4 = part back s z (i + 1) := by
  funext j
  have := dig_lt s j
  unfold part4 part
  by_cases h : bas s j < i + 1
  · rw [if_pos h, if_pos (by omega)]
  · rw [if_neg h, if_neg (by omega)]
theorem part_skip (back : Bool) {s : Nat} (hs : 0 < s) (z : Nat → G) (i : Nat) (hi : dig s i ≠ 0) : part back s z (i + 1) = part back s z i := by
  funext j
  have h := (bas_dig hs j).1
  have hne : bas s j ≠ i := fun e => hi (by rw [← e]; exact h)
  unfold part
  by_cases h : bas s j < i
  · rw [if_pos h, if_pos (by omega)]
  · rw [if_neg h, if_neg (by omega)]
theorem part_all (back : Bool) (s : Nat) (z : Nat → G) (n j : Nat) (hj : j < n) : part back s z n j = lev back s z j := by
  have := bas_le s j
  unfold part; rw [if_pos (by omega)]
theorem part_none (back : Bool) (s : Nat) (z : Nat → G) : part back s z 0 = z := by
  funext j; unfold part; rw [if_neg (by omega)]
/-- the place that is read next is not done yet -/
theorem part_at (back : Bool) {s : Nat} (hs : 0 < s) (z : Nat → G) {i : Nat} (hi : dig s i = 0) (a : Nat) (ha : a < 4) : part back s z i (i + a * s) = z (i + a * s) := by
  unfold part; rw [(wing hs hi a ha).2, if_neg (by omega)]
theorem part4_set (back : Bool) {s : Nat} (hs : 0 < s) (z : Nat → G) {i : Nat} (hi : dig s i = 0) (b : Nat) (hb : b < 4) (j : Nat) : part4 back s z i (b + 1) j = if i + b * s = j then gsum (fun a => gmul (z (i + a * s)) (tw back (a * b % 4))) 4 else part4 back s z i b j := by
  by_cases e : i + b * s = j
  · subst e
    obtain ⟨h1, h2⟩ := wing hs hi b hb
    rw [if_pos rfl]
    unfold part4 lev
    rw [h1, h2, if_pos (by omega)]
  · rw [if_neg e]
    unfold part4
    by_cases h1 : bas s j < i
    · rw [if_pos (Or.inl h1), if_pos (Or.inl h1)]
    · by_cases h2 : bas s j = i
      · have h3 : dig s j ≠ b := fun e' => e (by
          obtain ⟨q, r, hr, h4, h5⟩ := split_at hs j
          rw [e', Nat.mul_add] at h4
          rw [Nat.mul_comm b]; omega)
        by_cases h4 : dig s j < b
        · rw [if_pos (by omega), if_pos (by omega)]
        · rw [if_neg (by omega), if_neg (by omega)]
      · rw [if_neg (by omega), if_neg (by omega)]
end Go.Proofs.Ythccnaemocdcbaa
