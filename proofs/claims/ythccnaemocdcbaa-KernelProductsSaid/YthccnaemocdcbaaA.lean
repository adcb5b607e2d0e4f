import Derived.Test.YthccnaemocdcbaaProg
import Derived.WalkKit
import Derived.WalkSpells
import Derived.WalkLawsBesides
import Derived.BigQuiet
import Derived.Lib.Hide
import Derived.Deep.AppendLies
import Derived.Lib.LazyBuf
import Derived.Laws.FloatArith
namespace Go.Proofs.Ythccnaemocdcbaa
open Go.RowKit
set_option maxHeartbeats 400000
set_option maxRecDepth 100000
set_option linter.unusedSimpArgs false
set_option linter.unusedVariables false

/-! small whole numbers in floats -/
section
open Ieee

theorem log2_mul_pow (n k : Nat) (h : n ≠ 0) : (n * 2 ^ k).log2 = n.log2 + k := by
  have h2 : n * 2 ^ k ≠ 0 := by have := Nat.two_pow_pos k; exact Nat.mul_ne_zero h (by omega)
  refine (Nat.log2_eq_iff h2).2 ⟨?_, ?_⟩
  · rw [Nat.pow_add]; exact Nat.mul_le_mul_right _ (Nat.log2_self_le h)
  · rw [show n.log2 + k + 1 = (n.log2 + 1) + k by omega, Nat.pow_add]; exact Nat.mul_lt_mul_of_pos_right Nat.lt_log2_self (Nat.two_pow_pos k)

/-- which formats are meant -/
structure Ok (f : Format) : Prop where
  fb : 23 ≤ f.fractionBits
  lp : f.leastPlace ≤ -(f.fractionBits : Int)
  inf : (-f.leastPlace).toNat + 3 ≤ 2 ^ f.exponentBits

theorem ok_single : Ok single := ⟨by decide, by decide, by decide⟩
theorem ok_double : Ok double := ⟨by decide, by decide, by decide⟩

theorem kept_eq (s : Bool) (n k : Nat) (d : Nat) (last : Int) (hl : last = -(d : Int)) : Toward.even.cut s ((n * 2 ^ k) <<< (-(k : Int) - last).toNat) (last - -(k : Int)).toNat = n * 2 ^ d := by
  subst hl
  by_cases h : k ≤ d
  · have e1 : (-(k : Int) - -(d : Int)).toNat = d - k := by omega
    have e2 : (-(d : Int) - -(k : Int)).toNat = 0 := by omega
    rw [e1, e2, Nat.shiftLeft_eq, Nat.mul_assoc, ← Nat.pow_add, show k + (d - k) = d by omega]
    simp [Toward.cut, Nat.mod_one]
  · have e1 : (-(k : Int) - -(d : Int)).toNat = 0 := by omega
    have e2 : (-(d : Int) - -(k : Int)).toNat = k - d := by omega
    rw [e1, e2, Nat.shiftLeft_zero]
    by_cases hn : n = 0
    · subst hn; simp [Toward.cut]
    · have e3 : min (k - d) ((n * 2 ^ k).log2 + 2) = k - d := by rw [log2_mul_pow n k hn]; omega
      have e4 : n * 2 ^ k = n * 2 ^ d * 2 ^ (k - d) := by rw [Nat.mul_assoc, ← Nat.pow_add, show d + (k - d) = k by omega]
      have hp := Nat.two_pow_pos (k - d)
      simp only [Toward.cut, e3, Nat.shiftLeft_eq, Nat.one_mul]
      rw [e4, Nat.mul_mod_left, Nat.mul_div_cancel _ hp]
      simp

theorem nearest_eq {f : Format} (hf : Ok f) (s : Bool) (n k : Nat) (hn : n ≠ 0) (h24 : n < 2 ^ 24) : f.nearest s (n * 2 ^ k) (-(k : Int)) = f.word s (((n.log2 : Int) - f.fractionBits - f.leastPlace).toNat * f.binade + n * 2 ^ (f.fractionBits - n.log2)) := by
  have h0 : n * 2 ^ k ≠ 0 := by have := Nat.two_pow_pos k; exact Nat.mul_ne_zero hn (by omega)
  have hL : n.log2 < 24 := (Nat.log2_lt hn).2 h24
  have hfb := hf.fb
  have hlp := hf.lp
  unfold Format.nearest
  rw [if_neg h0, log2_mul_pow n k hn]
  have e : max (-(k : Int) + ((n.log2 + k : Nat) : Int) - (f.fractionBits : Int)) f.leastPlace = -((f.fractionBits - n.log2 : Nat) : Int) := by omega
  simp only [e]
  rw [kept_eq s n k (f.fractionBits - n.log2) _ rfl]
  congr 1
  rw [show (-((f.fractionBits - n.log2 : Nat) : Int) - f.leastPlace).toNat = ((n.log2 : Int) - f.fractionBits - f.leastPlace).toNat by omega]
  refine Nat.min_eq_left ?_
  have hk : n * 2 ^ (f.fractionBits - n.log2) < 2 * f.binade := by
    have h1 : n < 2 ^ (n.log2 + 1) := Nat.lt_log2_self
    have h2 := Nat.mul_lt_mul_of_pos_right h1 (Nat.two_pow_pos (f.fractionBits - n.log2))
    rw [← Nat.pow_add, show n.log2 + 1 + (f.fractionBits - n.log2) = f.fractionBits + 1 by omega, Nat.pow_succ] at h2
    unfold Format.binade; omega
  unfold Format.infRung
  have h3 : ((n.log2 : Int) - f.fractionBits - f.leastPlace).toNat + 2 ≤ 2 ^ f.exponentBits - 1 := by have := hf.inf; omega
  have h4 := Nat.mul_le_mul_right f.binade h3
  rw [Nat.add_mul] at h4
  omega

theorem kept_lo {f : Format} (hf : Ok f) (n : Nat) (hn : n ≠ 0) (h24 : n < 2 ^ 24) : f.binade ≤ n * 2 ^ (f.fractionBits - n.log2) ∧ n * 2 ^ (f.fractionBits - n.log2) < 2 * f.binade := by
  have hL : n.log2 < 24 := (Nat.log2_lt hn).2 h24
  have hfb := hf.fb
  have h1 : n < 2 ^ (n.log2 + 1) := Nat.lt_log2_self
  have h2 := Nat.mul_lt_mul_of_pos_right h1 (Nat.two_pow_pos (f.fractionBits - n.log2))
  rw [← Nat.pow_add, show n.log2 + 1 + (f.fractionBits - n.log2) = f.fractionBits + 1 by omega, Nat.pow_succ] at h2
  have h3 := Nat.mul_le_mul_right (2 ^ (f.fractionBits - n.log2)) (Nat.log2_self_le hn)
  rw [← Nat.pow_add, show n.log2 + (f.fractionBits - n.log2) = f.fractionBits by omega] at h3
  unfold Format.binade
  omega

theorem read_word {f : Format} (s : Bool) (r : Nat) (hr : r < f.signWeight) : f.word s r / f.signWeight % 2 = s.toNat ∧ f.word s r % f.signWeight = r := by
  unfold Format.word
  cases s
  · simp [Nat.div_eq_of_lt hr, Nat.mod_eq_of_lt hr]
  · have h0 : 0 < f.signWeight := by omega
    rw [if_pos rfl, Nat.add_div_left _ h0, Nat.div_eq_of_lt hr, Nat.add_mod_left, Nat.mod_eq_of_lt hr]
    simp

theorem read_nearest {f : Format} (hf : Ok f) (s : Bool) (n : Nat) (hn : n ≠ 0) (h24 : n < 2 ^ 24) : f.read (f.nearest s n 0) = .number s (n * 2 ^ (f.fractionBits - n.log2)) (-((f.fractionBits - n.log2 : Nat) : Int)) := by
  have h := nearest_eq hf s n 0 hn h24
  simp only [Nat.pow_zero, Nat.mul_one, Int.ofNat_zero, Int.neg_zero] at h
  have hL : n.log2 < 24 := (Nat.log2_lt hn).2 h24
  have hfb := hf.fb
  have hlp := hf.lp
  obtain ⟨k1, k2⟩ := kept_lo hf n hn h24
  have h' : f.nearest s n 0 = f.word s (((n.log2 : Int) - f.fractionBits - f.leastPlace).toNat * f.binade + n * 2 ^ (f.fractionBits - n.log2)) := h
  rw [h']
  generalize n * 2 ^ (f.fractionBits - n.log2) = K at k1 k2
  generalize hq : ((n.log2 : Int) - f.fractionBits - f.leastPlace).toNat = q
  have hb : 0 < f.binade := Nat.two_pow_pos _
  have hinf : (q + 2) * f.binade ≤ f.infRung := by
    unfold Format.infRung
    exact Nat.mul_le_mul_right _ (by have := hf.inf; omega)
  have hsw : f.infRung < f.signWeight := by
    unfold Format.infRung Format.signWeight Format.binade
    rw [Nat.pow_add]
    exact Nat.mul_lt_mul_of_pos_right (by have := Nat.two_pow_pos f.exponentBits; omega) (Nat.two_pow_pos _)
  rw [Nat.add_mul] at hinf
  obtain ⟨w1, w2⟩ := read_word (f := f) s (q * f.binade + K) (by omega)
  have hd : (q * f.binade + K) / f.binade = q + 1 := by
    rw [Nat.mul_comm, Nat.mul_add_div hb]
    have : K / f.binade = 1 := by rw [show K = f.binade * 1 + (K - f.binade) by omega, Nat.mul_add_div hb, Nat.div_eq_of_lt (by omega)]
    omega
  have hm : (q * f.binade + K) % f.binade = K - f.binade := by
    rw [Nat.mul_comm, Nat.mul_add_mod, show K = f.binade * 1 + (K - f.binade) by omega, Nat.mul_add_mod, Nat.mod_eq_of_lt (by omega)]
    omega
  unfold Format.read
  simp only [w1, w2]
  have hge : f.binade ≤ q * f.binade + K := by omega
  rw [if_neg (by omega), if_pos (by omega), hd, hm]
  congr 1
  · cases s <;> rfl
  · omega
  · omega

/-- the word of a small whole number (a zero may have either sign) -/
def Fc (f : Format) (b : Nat) (x : Int) : Prop := ∃ s : Bool, (x ≠ 0 → s = decide (x < 0)) ∧ b = f.nearest s x.natAbs 0
def small (x : Int) : Prop := x.natAbs < 2 ^ 24

theorem Fc.read {f : Format} (hf : Ok f) {b : Nat} {x : Int} (h : Fc f b x) (hx : small x) : ∃ (s : Bool) (k : Nat), f.read b = .number s (x.natAbs * 2 ^ k) (-(k : Int)) ∧ (x ≠ 0 → s = decide (x < 0)) := by
  obtain ⟨s, hs, rfl⟩ := h
  by_cases h0 : x = 0
  · subst h0
    refine ⟨s, (-f.leastPlace).toNat, ?_, fun h => absurd rfl h⟩
    have hlp := hf.lp
    have hsw : 0 < f.signWeight := Nat.two_pow_pos _
    obtain ⟨w1, w2⟩ := read_word (f := f) s 0 hsw
    have hb : 0 < f.binade := Nat.two_pow_pos _
    have e : f.nearest s (Int.natAbs 0) 0 = f.word s 0 := by simp [Format.nearest]
    rw [e]
    unfold Format.read
    simp only [w1, w2]
    rw [if_pos hb]
    congr 1
    · cases s <;> rfl
    · simp
    · omega
  · have hn : x.natAbs ≠ 0 := by omega
    exact ⟨s, _, read_nearest hf s _ hn hx, hs⟩

theorem Fc.mk {f : Format} (hf : Ok f) {x : Int} (hx : small x) (s : Bool) (k : Nat) (hs : x ≠ 0 → s = decide (x < 0)) : Fc f (f.write (.number s (x.natAbs * 2 ^ k) (-(k : Int)))) x := by
  refine ⟨s, hs, ?_⟩
  show f.nearest s (x.natAbs * 2 ^ k) (-(k : Int)) = _
  by_cases h0 : x.natAbs = 0
  · rw [h0]; simp [Format.nearest]
  · have h1 := nearest_eq hf s x.natAbs k h0 hx
    have h2 := nearest_eq hf s x.natAbs 0 h0 hx
    simp only [Nat.pow_zero, Nat.mul_one] at h2
    rw [h1]; exact h2.symm

theorem signed_eq {x : Int} {s : Bool} (hs : x ≠ 0 → s = decide (x < 0)) (k u : Nat) : signed s (x.natAbs * 2 ^ k) u = x * 2 ^ (k + u) := by
  unfold signed
  rw [Nat.shiftLeft_eq, Nat.mul_assoc, ← Nat.pow_add]
  by_cases h0 : x = 0
  · subst h0; simp
  · have hs := hs h0
    subst hs
    by_cases hneg : x < 0
    · rw [if_pos (by simpa using hneg)]
      push_cast
      rw [show ((x.natAbs : Int)) = -x by omega, Int.neg_mul, Int.neg_neg]
    · rw [if_neg (by simpa using hneg)]
      push_cast
      rw [show ((x.natAbs : Int)) = x by omega]

theorem abs_mul_pow (x : Int) (k : Nat) : (x * 2 ^ k).natAbs = x.natAbs * 2 ^ k := by
  rw [Int.natAbs_mul, Int.natAbs_pow]; rfl
theorem pow_pos' (k : Nat) : (0 : Int) < 2 ^ k := by
  have := Nat.two_pow_pos k
  have h : ((2 ^ k : Nat) : Int) = (2 : Int) ^ k := by push_cast; rfl
  omega
theorem mul_pow_lt {x : Int} (k : Nat) : x * 2 ^ k < 0 ↔ x < 0 := by
  have hp := pow_pos' k
  constructor
  · intro h
    by_cases h1 : x < 0
    · exact h1
    · have h1 : 0 ≤ x := by omega
      have := Int.mul_nonneg h1 (Int.le_of_lt hp); omega
  · intro h; exact Int.mul_neg_of_neg_of_pos h hp

theorem sum_eq {x y : Int} {s t : Bool} (hs : x ≠ 0 → s = decide (x < 0)) (ht : y ≠ 0 → t = decide (y < 0)) (i j : Nat) :
    ∃ r : Bool, (x + y ≠ 0 → r = decide (x + y < 0)) ∧ (Datum.number s (x.natAbs * 2 ^ i) (-(i : Int))).sum (.number t (y.natAbs * 2 ^ j) (-(j : Int))) = some (.number r ((x + y).natAbs * 2 ^ (max i j)) (-((max i j : Nat) : Int))) := by
  have e1 : min (-(i : Int)) (-(j : Int)) = -((max i j : Nat) : Int) := by omega
  have e2 : (-(i : Int) - -((max i j : Nat) : Int)).toNat = max i j - i := by omega
  have e3 : (-(j : Int) - -((max i j : Nat) : Int)).toNat = max i j - j := by omega
  have et : x * 2 ^ (max i j) + y * 2 ^ (max i j) = (x + y) * 2 ^ (max i j) := by rw [Int.add_mul]
  refine ⟨if (x + y) * 2 ^ (max i j) = 0 then s && t else decide ((x + y) * 2 ^ (max i j) < 0), ?_, ?_⟩
  · intro h
    have hp := pow_pos' (max i j)
    rw [if_neg (Int.mul_ne_zero h (by omega))]
    exact decide_eq_decide.2 (mul_pow_lt _)
  · simp only [Datum.sum, e1, e2, e3, signed_eq hs, signed_eq ht]
    rw [show i + (max i j - i) = max i j by omega, show j + (max i j - j) = max i j by omega, et, abs_mul_pow]

theorem Fc.add {f : Format} (hf : Ok f) {a b : Nat} {x y : Int} (ha : Fc f a x) (hb : Fc f b y) (hx : small x) (hy : small y) (hr : small (x + y)) : ∃ r, f.add a b = some r ∧ Fc f r (x + y) := by
  obtain ⟨s, i, h1, hs⟩ := ha.read hf hx
  obtain ⟨t, j, h2, ht⟩ := hb.read hf hy
  obtain ⟨r, hr0, h3⟩ := sum_eq hs ht i j
  refine ⟨_, ?_, Fc.mk hf hr r (max i j) hr0⟩
  unfold Format.add
  rw [h1, h2, h3]; rfl
theorem Fc.sub {f : Format} (hf : Ok f) {a b : Nat} {x y : Int} (ha : Fc f a x) (hb : Fc f b y) (hx : small x) (hy : small y) (hr : small (x - y)) : ∃ r, f.sub a b = some r ∧ Fc f r (x - y) := by
  obtain ⟨s, i, h1, hs⟩ := ha.read hf hx
  obtain ⟨t, j, h2, ht⟩ := hb.read hf hy
  have ht' : -y ≠ 0 → (!t) = decide (-y < 0) := fun h => by
    rw [ht (by omega)]
    by_cases h9 : y < 0
    · simp [h9]; omega
    · simp [h9]; omega
  obtain ⟨r, hr0, h3⟩ := sum_eq hs ht' i j
  rw [Int.natAbs_neg, ← Int.sub_eq_add_neg] at h3
  rw [← Int.sub_eq_add_neg] at hr0
  refine ⟨_, ?_, Fc.mk hf hr r (max i j) hr0⟩
  unfold Format.sub
  rw [h1, h2]
  show Option.map f.write ((Datum.number s (x.natAbs * 2 ^ i) (-(i : Int))).sum (.number (!t) (y.natAbs * 2 ^ j) (-(j : Int)))) = _
  rw [h3]; rfl
theorem Fc.mul {f : Format} (hf : Ok f) {a b : Nat} {x y : Int} (ha : Fc f a x) (hb : Fc f b y) (hx : small x) (hy : small y) (hr : small (x * y)) : ∃ r, f.mul a b = some r ∧ Fc f r (x * y) := by
  obtain ⟨s, i, h1, hs⟩ := ha.read hf hx
  obtain ⟨t, j, h2, ht⟩ := hb.read hf hy
  refine ⟨_, ?_, Fc.mk hf hr (s ^^ t) (i + j) ?_⟩
  · unfold Format.mul
    rw [h1, h2]
    show some (f.write (.number (s ^^ t) (x.natAbs * 2 ^ i * (y.natAbs * 2 ^ j)) (-(i : Int) + -(j : Int)))) = _
    rw [show x.natAbs * 2 ^ i * (y.natAbs * 2 ^ j) = (x * y).natAbs * 2 ^ (i + j) by rw [Int.natAbs_mul, Nat.pow_add]; simp only [Nat.mul_assoc, Nat.mul_left_comm], show -(i : Int) + -(j : Int) = -((i + j : Nat) : Int) by omega]
  · intro h
    have hx0 : x ≠ 0 := fun e => h (by rw [e, Int.zero_mul])
    have hy0 : y ≠ 0 := fun e => h (by rw [e, Int.mul_zero])
    rw [hs hx0, ht hy0]
    have hsg : decide (x * y < 0) = (decide (x < 0) ^^ decide (y < 0)) := by
      by_cases p : x < 0 <;> by_cases q : y < 0
      · have := Int.mul_pos_of_neg_of_neg p q
        rw [decide_eq_true p, decide_eq_true q, decide_eq_false (by omega)]; rfl
      · have := Int.mul_neg_of_neg_of_pos p (show 0 < y by omega)
        rw [decide_eq_true p, decide_eq_false q, decide_eq_true this]; rfl
      · have := Int.mul_neg_of_pos_of_neg (show 0 < x by omega) q
        rw [decide_eq_false p, decide_eq_true q, decide_eq_true this]; rfl
      · have := Int.mul_pos (show 0 < x by omega) (show 0 < y by omega)
        rw [decide_eq_false p, decide_eq_false q, decide_eq_false (by omega)]; rfl
    rw [hsg]
theorem Fc.order {f : Format} (hf : Ok f) {a b : Nat} {x y : Int} (ha : Fc f a x) (hb : Fc f b y) (hx : small x) (hy : small y) : f.order a b = some (compare x y) := by
  obtain ⟨s, i, h1, hs⟩ := ha.read hf hx
  obtain ⟨t, j, h2, ht⟩ := hb.read hf hy
  unfold Format.order
  rw [h1, h2]
  have e1 : min (-(i : Int)) (-(j : Int)) = -((max i j : Nat) : Int) := by omega
  have e2 : (-(i : Int) - -((max i j : Nat) : Int)).toNat = max i j - i := by omega
  have e3 : (-(j : Int) - -((max i j : Nat) : Int)).toNat = max i j - j := by omega
  simp only [Datum.order, e1, e2, e3, signed_eq hs, signed_eq ht]
  rw [show i + (max i j - i) = max i j by omega, show j + (max i j - j) = max i j by omega]
  have hp := pow_pos' (max i j)
  congr 1
  simp only [compare, compareOfLessAndEq]
  have hlt : x * 2 ^ (max i j) < y * 2 ^ (max i j) ↔ x < y := Int.mul_lt_mul_right hp
  have heq : x * 2 ^ (max i j) = y * 2 ^ (max i j) ↔ x = y := Int.mul_eq_mul_right_iff (by omega)
  simp only [hlt, heq]
theorem Fc.ofInt {f : Format} (x : Int) : Fc f (f.write (.number (x < 0) x.natAbs 0)) x := ⟨decide (x < 0), fun _ => rfl, rfl⟩
theorem cut_zero (s : Bool) (n k : Nat) : Toward.zero.cut s (n * 2 ^ k) k = n := by
  by_cases hn : n = 0
  · subst hn; simp [Toward.cut]
  · have e3 : min k ((n * 2 ^ k).log2 + 2) = k := by rw [log2_mul_pow n k hn]; omega
    simp only [Toward.cut, e3, Nat.shiftLeft_eq, Nat.one_mul]
    rw [Nat.mul_div_cancel _ (Nat.two_pow_pos k)]; rfl
theorem Fc.toInt {f : Format} (hf : Ok f) {a : Nat} {x : Int} (ha : Fc f a x) (hx : small x) : (f.read a).toInt .zero = some x := by
  obtain ⟨s, i, h1, hs⟩ := ha.read hf hx
  rw [h1]
  have e1 : (-(i : Int)).toNat = 0 := by omega
  have e2 : (- -(i : Int)).toNat = i := by omega
  simp only [Datum.toInt, Datum.integral, e1, e2, Nat.shiftLeft_zero, cut_zero]
  have := signed_eq hs 0 0
  simpa using this
/-- from one format to another one -/
theorem Fc.conv {f g : Format} (hf : Ok f) (hg : Ok g) {a : Nat} {x : Int} (ha : Fc f a x) (hx : small x) : ∃ s m e, f.read a = .number s m e ∧ Fc g (g.write (.number s m e)) x ∧ (g.read (g.write (.number s m e))).isInfinity = false := by
  obtain ⟨s, i, h1, hs⟩ := ha.read hf hx
  have h2 := Fc.mk hg hx s i hs
  obtain ⟨s', j, h3, _⟩ := h2.read hg hx
  exact ⟨s, _, _, h1, h2, by rw [h3]; rfl⟩

end

theorem ret_int {k : IntKind} {a b : Int} (h : a = b) : Ending.returned (.int k a) = .returned (.int k b) := by rw [h]
theorem ret_bool {a b : Bool} (h : a = b) : Ending.returned (.bool a) = .returned (.bool b) := by rw [h]

/-! reading of rows -/
/-- the slice at A reads as the elements xs, each of so many cells -/
structure Rd {α : Type} (enc : α → List Value) (sz : Nat) (w : World) (A : Option Addr) (xs : List α) : Prop where
  small : xs.length ≤ 9223372036854775807
  cell : ∀ k (h : k < xs.length), ∃ a, A = some a ∧ ∀ j v, (enc xs[k])[j]? = some v → w.cell? (a.add (k * sz + j)) = some v

theorem Rd.below {α : Type} {enc : α → List Value} {sz : Nat} {w w' : World} {A : Option Addr} {xs : List α} (h : Rd enc sz w A xs) (hb : Below w.heap.size w w') : Rd enc sz w' A xs :=
  ⟨h.small, fun k hk => by
    obtain ⟨a, ha, hc⟩ := h.cell k hk
    exact ⟨a, ha, fun j v hv => (hb.cell (World.block_lt_of_cell? w _ (hc j v hv))).trans (hc j v hv)⟩⟩

theorem Rd.nil {α : Type} (enc : α → List Value) (sz : Nat) (w : World) (A : Option Addr) : Rd enc sz w A [] := ⟨by simp, fun k h => by simp at h⟩


/-- the place of the first element that a test holds of; -1 without one -/
def idxF {α : Type} (p : α → Bool) (xs : List α) : Int := match xs.findIdx? p with | some i => (i : Int) | none => -1
theorem idxF_at {α : Type} (p : α → Bool) (xs : List α) (k : Nat) (hk : k < xs.length) (ht : p xs[k] = true) (hf : ∀ j (h : j < k), p (xs[j]'(by omega)) = false) : idxF p xs = k := by
  unfold idxF
  have : xs.findIdx? p = some k := by
    rw [List.findIdx?_eq_some_iff_getElem]
    exact ⟨hk, ht, fun j hj => by simp [hf j hj]⟩
  rw [this]
theorem idxF_none {α : Type} (p : α → Bool) (xs : List α) (hf : ∀ j (h : j < xs.length), p xs[j] = false) : idxF p xs = -1 := by
  unfold idxF
  have : xs.findIdx? p = none := by
    rw [List.findIdx?_eq_none_iff]
    intro x hx
    obtain ⟨j, hj, rfl⟩ := List.mem_iff_getElem.1 hx
    exact hf j hj
  rw [this]
theorem idxF_any {α : Type} (p : α → Bool) (xs : List α) : decide (0 ≤ idxF p xs) = xs.any p := by
  unfold idxF
  cases h : xs.findIdx? p with
  | none =>
    rw [List.findIdx?_eq_none_iff] at h
    simp
    intro x hx; exact h x hx
  | some i =>
    rw [List.findIdx?_eq_some_iff_getElem] at h
    obtain ⟨h1, h2, _⟩ := h
    simp
    exact ⟨_, List.getElem_mem h1, h2⟩


/-! rows of the call's own -/
/-- the slice value v is a row of the call's own (in blocks from base on) with the elements xs -/
def Own {α : Type} (enc : α → List Value) (sz : Nat) (e : TypeId) (w : World) (base : Nat) (v : Value) (xs : List α) : Prop := w.ownsRow base e sz v xs.length (xs.flatMap enc)

theorem flat_length {α : Type} {enc : α → List Value} {sz : Nat} (h : ∀ x, (enc x).length = sz) (xs : List α) : (xs.flatMap enc).length = xs.length * sz := by
  induction xs with
  | nil => simp
  | cons x xs ih => rw [List.flatMap_cons, List.length_append, ih, h, List.length_cons, Nat.succ_mul, Nat.add_comm]
theorem flat_get {α : Type} {enc : α → List Value} {sz : Nat} (h : ∀ x, (enc x).length = sz) (xs : List α) (k : Nat) (hk : k < xs.length) (j : Nat) (v : Value) (hj : (enc xs[k])[j]? = some v) : (xs.flatMap enc)[k * sz + j]? = some v := by
  induction xs generalizing k with
  | nil => simp at hk
  | cons x xs ih =>
    rw [List.flatMap_cons]
    cases k with
    | zero => rw [Nat.zero_mul, Nat.zero_add]; rw [List.getElem?_append_left (by have := (List.getElem?_eq_some_iff.1 hj).1; simpa using this)]; exact hj
    | succ k =>
      rw [List.getElem?_append_right (by rw [h, Nat.succ_mul]; omega), h]
      have : (k + 1) * sz + j - sz = k * sz + j := by rw [Nat.succ_mul]; omega
      rw [this]
      exact ih k (by simpa using hk) (by simpa using hj)
theorem flat_at {α : Type} {enc : α → List Value} {sz : Nat} (h : ∀ x, (enc x).length = sz) (xs : List α) (i : Nat) (v : Value) (hi : (xs.flatMap enc)[i]? = some v) : ∃ k j, ∃ hk : k < xs.length, i = k * sz + j ∧ (enc xs[k])[j]? = some v := by
  induction xs generalizing i with
  | nil => simp at hi
  | cons x xs ih =>
    rw [List.flatMap_cons] at hi
    by_cases hlt : i < sz
    · rw [List.getElem?_append_left (by rw [h]; exact hlt)] at hi
      exact ⟨0, i, by simp, by simp, by simpa using hi⟩
    · rw [List.getElem?_append_right (by rw [h]; omega), h] at hi
      obtain ⟨k, j, hk, he, hv⟩ := ih _ hi
      exact ⟨k + 1, j, by simpa using hk, by rw [Nat.succ_mul]; omega, by simpa using hv⟩

theorem Own.rd {α : Type} {enc : α → List Value} {sz : Nat} {e : TypeId} {w : World} {base : Nat} {v : Value} {xs : List α} (hs : ∀ x, (enc x).length = sz) (h : Own enc sz e w base v xs) :
    ∃ A c, v = .slice A xs.length c ∧ Rd enc sz w A xs := by
  have h0 := h
  obtain ⟨hl, h2⟩ := h
  rcases h2 with ⟨rfl, hn⟩ | ⟨g, cap, cur, rfl, hb, hg, hnc, hcm, hcs, ht⟩
  · have : xs = [] := List.eq_nil_of_length_eq_zero hn
    subst this
    exact ⟨none, 0, rfl, Rd.nil _ _ _ _⟩
  · refine ⟨_, _, rfl, ⟨by simp only [maxLen] at hcm; omega, fun k hk => ⟨_, rfl, fun j u hu => ?_⟩⟩⟩
    have hf := flat_get hs xs k hk j u hu
    have := (List.getElem?_eq_some_iff.1 hf).1
    rw [show (⟨g, 0, none⟩ : Addr).add (k * sz + j) = ⟨g, k * sz + j, none⟩ by unfold Addr.add; split <;> simp_all]
    rw [World.ownsRow.cellAt h0 _ (by rw [← hl]; exact this)]
    exact hf

/-- the cells of a row that is read, as append asks for them -/
theorem Rd.news {α : Type} {enc : α → List Value} {sz : Nat} {w : World} {a : Addr} {xs : List α} (hs : ∀ x, (enc x).length = sz) (h : Rd enc sz w (some a) xs) : ∀ j u, (xs.flatMap enc)[j]? = some u → w.cell? (a.add j) = some u := by
  intro j u hu
  obtain ⟨k, i, hk, rfl, hv⟩ := flat_at hs xs j u hu
  obtain ⟨a', ha, hc⟩ := h.cell k hk
  injection ha with ha
  subst ha
  exact hc i u hv


theorem Rd.none {α : Type} {enc : α → List Value} {sz : Nat} {w : World} {xs : List α} (h : Rd enc sz w none xs) : xs = [] := by
  cases xs with
  | nil => rfl
  | cons x xs => obtain ⟨a, ha, _⟩ := h.cell 0 (by simp); cases ha


/-- append of a row that is read to a row of the call's own, told of elements -/
theorem wpList_append_typed {α : Type} {P : Program} {enc : α → List Value} {sz : Nat} (hs : ∀ x, (enc x).length = sz) (h1 : ∀ x, ∀ u ∈ enc x, u.oneCell' = true)
    (w : World) {ops : Array Oper} {rest : List Oper} {o : Oper} {a : Act} {Q : Exit → Act → World → Prop} (hgd : o.guard = none) (s x : Operand) (t : TypeId)
    (ho : o.op = .call { callee := .builtin .append, args := #[s, x], argTypes := #[t, t] })
    (base : Nat) (e : TypeId) (z : Value) (bytes : Nat) (ht : P.underlying t = some (.slice e)) (hinfo : (P.info? e).map (fun i => (i.zero, i.size, i.bytes)) = some (some z, sz, bytes))
    (hzs : z.cells.size = sz) (hsz : 0 < sz) (hb0 : 0 < bytes)
    (v : Value) (xs : List α) (hv : a.eval s = v) (hown : Own enc sz e w base v xs)
    (ad : Addr) (m c : Nat) (ys : List α) (hx : a.eval x = .slice (some ad) m c) (hm : ys.length = m) (hr : Rd enc sz w (some ad) ys)
    (hbytes : (xs.length + m) * bytes ≤ 140737488355328) (hbase : base ≤ w.heap.size)
    (h : ∀ v' w', Own enc sz e w' base v' (xs ++ ys) → w.grownBy w' v.ownBlock → wpList P ops Q rest (a.put o.dst v') w') : wpList P ops Q (o :: rest) a w := by
  subst hm
  obtain ⟨i0, hi, hz0, hz1, hz2⟩ := info_parts hinfo
  refine wpList_append_own w hgd s x t ho base e i0 z sz bytes ht hi hz0 hz1 hz2 hzs hsz v xs.length (xs.flatMap enc) hv hown ad ys.length c (ys.flatMap enc) hx (flat_length hs ys) (hr.news hs)
    (fun u hu => by obtain ⟨y, _, hy⟩ := List.mem_flatMap.1 hu; exact h1 y u hy) ?_ hbytes hbase ?_
  · have : xs.length + ys.length ≤ (xs.length + ys.length) * bytes := Nat.le_mul_of_pos_right _ hb0
    simp only [maxLen]
    omega
  · intro v' w' hown' hg _
    refine h v' w' ?_ hg
    unfold Own
    rw [List.length_append, List.flatMap_append]
    exact hown'

theorem Own.empty {α : Type} (enc : α → List Value) (sz : Nat) (e : TypeId) (w : World) (base : Nat) (hb : base ≤ w.heap.size) : Own enc sz e (w.alloc (.cells #[] e)) base (.slice (some ⟨w.heap.size, 0, none⟩) 0 0) [] :=
  World.ownsRow_lit w #[] 0 hb (Nat.zero_le _) (by simp)

/-- slices.Clone -/
def ClonePost {α : Type} (enc : α → List Value) (sz : Nat) (t : TypeId) (xs : List α) (w : World) (e : Ending) (w' : World) : Prop := ∃ v, e = .returned v ∧ Own enc sz t w' w.heap.size v xs ∧ Below w.heap.size w w'


theorem flat_set {α : Type} {enc : α → List Value} {sz : Nat} (hs : ∀ x, (enc x).length = sz) (xs : List α) (i : Nat) (hi : i < xs.length) (j : Nat) (hj : j < sz) (v : Value) (y : α) (hy : (enc xs[i]).set j v = enc y) :
    (xs.flatMap enc).set (i * sz + j) v = (xs.set i y).flatMap enc := by
  induction xs generalizing i with
  | nil => simp at hi
  | cons x xs ih =>
    cases i with
    | zero =>
      simp only [Nat.zero_mul, Nat.zero_add, List.set_cons_zero, List.flatMap_cons]
      rw [List.set_append_left _ _ (by rw [hs]; exact hj)]
      simp at hy
      rw [hy]
    | succ i =>
      simp only [List.set_cons_succ, List.flatMap_cons]
      rw [List.set_append_right _ _ (by rw [hs, Nat.succ_mul]; omega), hs, show (i + 1) * sz + j - sz = i * sz + j by rw [Nat.succ_mul]; omega]
      rw [ih i (by simpa using hi) (by simpa using hy)]

theorem Own.set {α : Type} {enc : α → List Value} {sz : Nat} {e : TypeId} {w : World} {base g n c : Nat} {xs : List α} (hs : ∀ x, (enc x).length = sz) (h : Own enc sz e w base (.slice (some ⟨g, 0, none⟩) n c) xs) (hn : xs.length = n)
    (i : Nat) (hi : i < xs.length) (j : Nat) (hj : j < sz) (v : Value) (y : α) (hy : (enc xs[i]).set j v = enc y) :
    Own enc sz e (w.setCell ⟨g, i * sz + j, none⟩ v) base (.slice (some ⟨g, 0, none⟩) n c) (xs.set i y) ∧ w.grownBy (w.setCell ⟨g, i * sz + j, none⟩ v) (some g) := by
  subst hn
  have := World.ownsRow.stored h (i * sz + j) v
  refine ⟨?_, this.2⟩
  unfold Own
  rw [List.length_set, ← flat_set hs xs i hi j hj v y hy]
  exact this.1
theorem Own.cell {α : Type} {enc : α → List Value} {sz : Nat} {e : TypeId} {w : World} {base g n c : Nat} {xs : List α} (hs : ∀ x, (enc x).length = sz) (h : Own enc sz e w base (.slice (some ⟨g, 0, none⟩) n c) xs) (hn : xs.length = n)
    (i : Nat) (hi : i < xs.length) (j : Nat) (v : Value) (hv : (enc xs[i])[j]? = some v) : w.cell? ⟨g, i * sz + j, none⟩ = some v ∧ w.frozen? ⟨g, i * sz + j, none⟩ = false := by
  subst hn
  have hf := flat_get hs xs i hi j v hv
  have hlt := (List.getElem?_eq_some_iff.1 hf).1
  exact ⟨by rw [World.ownsRow.cellAt h _ (by rw [← h.1]; exact hlt)]; exact hf, World.ownsRow.frozenAt h _⟩
theorem Own.grown {α : Type} {enc : α → List Value} {sz : Nat} {e : TypeId} {w w' : World} {base : Nat} {v : Value} {xs : List α} (h : Own enc sz e w base v xs) {row : Option Nat} (hg : w.grownBy w' row) (hne : v.ownBlock = none ∨ v.ownBlock ≠ row) : Own enc sz e w' base v xs := World.ownsRow.kept h hg hne
theorem Own.blk {α : Type} {enc : α → List Value} {sz : Nat} {e : TypeId} {w : World} {base : Nat} {v : Value} {xs : List α} (h : Own enc sz e w base v xs) (k : Nat) (hk : v.ownBlock = some k) : base ≤ k ∧ k < w.heap.size ∧ ∃ cur, w.heap[k]? = some (.cells cur e (0, 0)) := by
  have h1 := World.ownsRow.lt h k hk
  refine ⟨h1.1, h1.2, ?_⟩
  rcases h.2 with ⟨rfl, _⟩ | ⟨g, cap, cur, rfl, hb, hg, _⟩
  · simp [Value.ownBlock] at hk
  · have : g = k := by simpa [Value.ownBlock] using hk
    subst this
    exact ⟨cur, hg⟩

theorem Own.rest {α : Type} {enc : α → List Value} {sz : Nat} {e : TypeId} {w w' : World} {base : Nat} {v : Value} {xs : List α} (h : Own enc sz e w base v xs) (hb : Below w.heap.size w w') : Own enc sz e w' base v xs :=
  h.grown (row := none) ⟨hb.os, hb.tape, hb.output, hb.size, fun k hk _ => hb.block k hk⟩ (by cases v.ownBlock <;> simp)


theorem Own.form {α : Type} {enc : α → List Value} {sz : Nat} {e : TypeId} {w : World} {base : Nat} {v : Value} {xs : List α} (hs : ∀ x, (enc x).length = sz) (h : Own enc sz e w base v xs) :
    ∃ A c, v = .slice A xs.length c ∧ xs.length ≤ c ∧ Rd enc sz w A xs ∧ ∀ a, A = some a → base ≤ a.block ∧ a.block < w.heap.size := by
  have h0 := h
  obtain ⟨A, c, rfl, hr⟩ := h.rd hs
  refine ⟨A, c, rfl, ?_, hr, fun a ha => ?_⟩
  · rcases h.2 with ⟨h1, hn⟩ | ⟨g, cap, cur, h1, hb, hg, hnc, _⟩
    · obtain ⟨_, e2, e3⟩ := Value.slice.inj h1; omega
    · obtain ⟨_, e2, e3⟩ := Value.slice.inj h1; omega
  · subst ha
    have := h.blk a.block rfl
    exact ⟨this.1, this.2.1⟩
end Go.Proofs.Ythccnaemocdcbaa
