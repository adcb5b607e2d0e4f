import Derived.Test.YthccnaemocdcbaaH
namespace Go.Proofs.Ythccnaemocdcbaa
open Go.RowKit Ieee
set_option maxHeartbeats 2000000
set_option maxRecDepth 100000
set_option linter.unusedSimpArgs false
set_option linter.unusedVariables false

/-! the inverse, plainly -/
def gsc (c : Int) (z : G) : G := (c * z.1, c * z.2)
/-- the digit of an index replaced -/
def setd (s j a : Nat) : Nat := bas s j + a * s

theorem gmul_add (a b u : G) : gmul (gadd a b) u = gadd (gmul a u) (gmul b u) := by
  simp only [gmul, gadd, Prod.mk.injEq]; constructor <;> grind
theorem gmul_comm3 (z u v : G) : gmul (gmul z u) v = gmul (gmul z v) u := by
  simp only [gmul, Prod.mk.injEq]; constructor <;> grind
theorem gmul_zero (u : G) : gmul (0, 0) u = (0, 0) := by simp [gmul]
theorem gmul_gsum (f : Nat → G) (u : G) (n : Nat) : gmul (gsum f n) u = gsum (fun a => gmul (f a) u) n := by
  induction n with
  | zero => exact gmul_zero u
  | succ n ih => simp only [gsum, gmul_add, ih]
theorem gsum_add (f g : Nat → G) (n : Nat) : gsum (fun a => gadd (f a) (g a)) n = gadd (gsum f n) (gsum g n) := by
  induction n with
  | zero => simp [gsum, gadd]
  | succ n ih =>
    show gadd (gsum (fun a => gadd (f a) (g a)) n) (gadd (f n) (g n)) = gadd (gadd (gsum f n) (f n)) (gadd (gsum g n) (g n))
    rw [ih]; simp only [gadd, Prod.mk.injEq]; constructor <;> omega
theorem gsum_swap (F : Nat → Nat → G) (m n : Nat) : gsum (fun a => gsum (fun b => F a b) n) m = gsum (fun b => gsum (fun a => F a b) m) n := by
  induction m with
  | zero =>
    simp only [gsum]
    induction n with
    | zero => rfl
    | succ n ih => simp only [gsum, gadd, ← ih]; rfl
  | succ m ih => simp only [gsum, ih, gsum_add]
theorem gsum_congr (f g : Nat → G) (n : Nat) (h : ∀ a, a < n → f a = g a) : gsum f n = gsum g n := by
  induction n with
  | zero => rfl
  | succ n ih => simp only [gsum]; rw [ih (fun a ha => h a (by omega)), h n (by omega)]

theorem setd_dig {s : Nat} (hs : 0 < s) (j a : Nat) (ha : a < 4) : dig s (setd s j a) = a ∧ bas s (setd s j a) = bas s j := wing hs (bas_dig hs j).1 a ha |>.imp id (fun h => h)
/-- two digits apart -/
theorem parts_at {s u : Nat} (hs : 0 < s) (hu : 0 < u) (j : Nat) : ∃ q d' e d r, r < s ∧ d < 4 ∧ e < u ∧ d' < 4 ∧ j = s * (4 * (u * (4 * q + d') + e) + d) + r := by
  refine ⟨j / s / 4 / u / 4, j / s / 4 / u % 4, j / s / 4 % u, j / s % 4, j % s, Nat.mod_lt _ hs, Nat.mod_lt _ (by decide), Nat.mod_lt _ hu, Nat.mod_lt _ (by decide), ?_⟩
  have h1 := Nat.div_add_mod j s
  have h2 := Nat.div_add_mod (j / s) 4
  have h3 := Nat.div_add_mod (j / s / 4) u
  have h4 := Nat.div_add_mod (j / s / 4 / u) 4
  rw [h4, h3, h2, h1]
theorem two_forms (s u q d' e d r : Nat) : s * (4 * (u * (4 * q + d') + e) + d) + r = (4 * s * u) * (4 * q + d') + (s * (4 * e + d) + r) := by grind
theorem low_lt {s u e d r : Nat} (hr : r < s) (hd : d < 4) (he : e < u) : s * (4 * e + d) + r < 4 * s * u := by
  have h1 : s * (4 * e + d) + r < s * (4 * e + d + 1) := by rw [Nat.mul_add s (4 * e + d) 1]; omega
  have h2 : s * (4 * e + d + 1) ≤ s * (4 * u) := Nat.mul_le_mul_left _ (by omega)
  have h3 : s * (4 * u) = 4 * s * u := by grind
  omega
theorem apart {s u : Nat} (hs : 0 < s) (hu : 0 < u) (j a b : Nat) (ha : a < 4) (hb : b < 4) :
    dig s (setd (4 * s * u) j b) = dig s j ∧ dig (4 * s * u) (setd s j a) = dig (4 * s * u) j ∧ setd s (setd (4 * s * u) j b) a = setd (4 * s * u) (setd s j a) b := by
  obtain ⟨q, d', e, d, r, hr, hd, he, hd', rfl⟩ := parts_at hs hu j
  have hS : 0 < 4 * s * u := Nat.mul_pos (by omega) hu
  have key : ∀ x y, x < 4 → y < 4 → dig s (s * (4 * (u * (4 * q + y) + e) + x) + r) = x ∧ bas s (s * (4 * (u * (4 * q + y) + e) + x) + r) + a * s = s * (4 * (u * (4 * q + y) + e) + a) + r ∧ dig (4 * s * u) (s * (4 * (u * (4 * q + y) + e) + x) + r) = y ∧ bas (4 * s * u) (s * (4 * (u * (4 * q + y) + e) + x) + r) + b * (4 * s * u) = s * (4 * (u * (4 * q + b) + e) + x) + r := by
    intro x y hx hy
    have h1 := dig_of hs (u * (4 * q + y) + e) r x hr hx
    have h2 := dig_of hS q (s * (4 * e + x) + r) y (low_lt hr hx he) hy
    rw [← two_forms] at h2
    refine ⟨h1.1, ?_, h2.1, ?_⟩
    · rw [h1.2]; grind
    · rw [h2.2, two_forms]; grind
  obtain ⟨k1, k2, k3, k4⟩ := key d d' hd hd'
  unfold setd
  rw [k2, k4, k1, k3]
  obtain ⟨l1, l2, l3, l4⟩ := key d b hd hb
  obtain ⟨m1, m2, m3, m4⟩ := key a d' ha hd'
  exact ⟨l1, m3, by rw [l2, m4]⟩

theorem lev_comm {s u : Nat} (hs : 0 < s) (hu : 0 < u) (b b' : Bool) (z : Nat → G) : lev b s (lev b' (4 * s * u) z) = lev b' (4 * s * u) (lev b s z) := by
  funext j
  have hS : 0 < 4 * s * u := Nat.mul_pos (by omega) hu
  have e1 : lev b s (lev b' (4 * s * u) z) j = gsum (fun a => gsum (fun c => gmul (gmul (z (setd (4 * s * u) (setd s j a) c)) (tw b' (c * dig (4 * s * u) j % 4))) (tw b (a * dig s j % 4))) 4) 4 := by
    refine gsum_congr _ _ 4 fun a ha => ?_
    show gmul (gsum _ 4) _ = _
    rw [gmul_gsum]
    refine gsum_congr _ _ 4 fun c hc => ?_
    have h1 := apart hs hu j a c ha hc
    show gmul (gmul (z (setd (4 * s * u) (setd s j a) c)) (tw b' (c * dig (4 * s * u) (setd s j a) % 4))) _ = _
    rw [h1.2.1]
  have e2 : lev b' (4 * s * u) (lev b s z) j = gsum (fun c => gsum (fun a => gmul (gmul (z (setd s (setd (4 * s * u) j c) a)) (tw b (a * dig s j % 4))) (tw b' (c * dig (4 * s * u) j % 4))) 4) 4 := by
    refine gsum_congr _ _ 4 fun c hc => ?_
    show gmul (gsum _ 4) _ = _
    rw [gmul_gsum]
    refine gsum_congr _ _ 4 fun a ha => ?_
    have h1 := apart hs hu j a c ha hc
    show gmul (gmul (z (setd s (setd (4 * s * u) j c) a)) (tw b (a * dig s (setd (4 * s * u) j c) % 4))) _ = _
    rw [h1.1]
  rw [e1, e2, gsum_swap]
  refine gsum_congr _ _ 4 fun c hc => gsum_congr _ _ 4 fun a ha => ?_
  rw [(apart hs hu j a c ha hc).2.2, gmul_comm3]

theorem lev_inv {s : Nat} (hs : 0 < s) (b : Bool) (z : Nat → G) : lev (!b) s (lev b s z) = fun j => gsc 4 (z j) := by
  funext j
  have hd := dig_lt s j
  have hj : z j = z (setd s j (dig s j)) := by
    congr 1
    have : dig s j * s ≤ j := Nat.le_trans (Nat.mul_le_mul_right _ (Nat.mod_le _ _)) (Nat.div_mul_le_self j s)
    unfold setd bas; omega
  have e1 : lev (!b) s (lev b s z) j = gsum (fun a => gmul (gsum (fun c => gmul (z (setd s j c)) (tw b (c * a % 4))) 4) (tw (!b) (a * dig s j % 4))) 4 := by
    refine gsum_congr _ _ 4 fun a ha => ?_
    show gmul (gsum (fun c => gmul (z (bas s (setd s j a) + c * s)) (tw b (c * dig s (setd s j a) % 4))) 4) _ = _
    obtain ⟨h1, h2⟩ := setd_dig hs j a ha
    rw [h1, h2]; rfl
  rw [e1, hj]
  generalize dig s j = d at hd
  generalize setd s j = f
  have : d = 0 ∨ d = 1 ∨ d = 2 ∨ d = 3 := by omega
  rcases this with rfl | rfl | rfl | rfl <;> cases b <;> simp [gsum, gadd, gmul, tw, gsc] <;> omega
theorem lev_sc (b : Bool) (s : Nat) (c : Int) (z : Nat → G) : lev b s (fun j => gsc c (z j)) = fun j => gsc c (lev b s z j) := by
  funext j
  simp only [lev, gsum, gadd, gmul, gsc, Prod.mk.injEq]
  constructor <;> grind
theorem gsc_gsc (a b : Int) (z : G) : gsc a (gsc b z) = gsc (a * b) z := by simp only [gsc, Prod.mk.injEq]; constructor <;> grind

theorem lev_comm' (t t' : Nat) (h : t < t') (b b' : Bool) (z : Nat → G) : lev b (4 ^ t) (lev b' (4 ^ t') z) = lev b' (4 ^ t') (lev b (4 ^ t) z) := by
  have e : 4 ^ t' = 4 * 4 ^ t * 4 ^ (t' - t - 1) := by
    rw [← Nat.pow_succ', ← Nat.pow_add]; congr 1; omega
  rw [e]
  exact lev_comm (Nat.pow_pos (by decide)) (Nat.pow_pos (by decide)) b b' z

theorem levs_inv (b : Bool) (m : Nat) (hm : m ≤ 3) (z : Nat → G) (j : Nat) : levs (!b) (levs b z m) m j = gsc ((4 ^ m : Nat) : Int) (z j) := by
  have h : m = 0 ∨ m = 1 ∨ m = 2 ∨ m = 3 := by omega
  have i0 := fun z => lev_inv (s := 4 ^ 0) (by decide) b z
  have i1 := fun z => lev_inv (s := 4 ^ 1) (by decide) b z
  have i2 := fun z => lev_inv (s := 4 ^ 2) (by decide) b z
  have c01 := fun z => lev_comm' 0 1 (by decide) (!b) b z
  have c02 := fun z => lev_comm' 0 2 (by decide) (!b) b z
  have c12 := fun z => lev_comm' 1 2 (by decide) (!b) b z
  rcases h with rfl | rfl | rfl | rfl
  · simp [levs, gsc]
  · simp only [levs]; rw [i0]; rfl
  · simp only [levs]; rw [c01, i0]; simp only [lev_sc, i1, gsc_gsc]; rfl
  · simp only [levs]; rw [c02, c01, i0]; simp only [lev_sc]; rw [c12, i1]; simp only [lev_sc, i2, gsc_gsc]; rfl
end Go.Proofs.Ythccnaemocdcbaa
