import Derived.Test.YthccnaemocdcbaaJ
namespace Go.Proofs.Ythccnaemocdcbaa
open Go.RowKit Ieee
set_option maxHeartbeats 4000000
set_option maxRecDepth 100000
set_option linter.unusedSimpArgs false
set_option linter.unusedVariables false

/-! convolution, plainly -/
/-- cyclic in one digit -/
def cyc (s : Nat) (u v : Nat → G) (j : Nat) : G := gsum (fun c => gmul (u (setd s j c)) (v (setd s j ((dig s j + 4 - c) % 4)))) 4
theorem cyc_alg (b : Bool) (d : Nat) (hd : d < 4) (u v : Nat → G) : gmul (gsum (fun c => gmul (u c) (tw b (c * d % 4))) 4) (gsum (fun c => gmul (v c) (tw b (c * d % 4))) 4) = gsum (fun a => gmul (gsum (fun c => gmul (u c) (v ((a + 4 - c) % 4))) 4) (tw b (a * d % 4))) 4 := by
  have : d = 0 ∨ d = 1 ∨ d = 2 ∨ d = 3 := by omega
  generalize hu0 : u 0 = u0
  generalize hu1 : u 1 = u1
  generalize hu2 : u 2 = u2
  generalize hu3 : u 3 = u3
  generalize hv0 : v 0 = v0
  generalize hv1 : v 1 = v1
  generalize hv2 : v 2 = v2
  generalize hv3 : v 3 = v3
  obtain ⟨a0, b0⟩ := u0
  obtain ⟨a1, b1⟩ := u1
  obtain ⟨a2, b2⟩ := u2
  obtain ⟨a3, b3⟩ := u3
  obtain ⟨c0, d0⟩ := v0
  obtain ⟨c1, d1⟩ := v1
  obtain ⟨c2, d2⟩ := v2
  obtain ⟨c3, d3⟩ := v3
  rcases this with rfl | rfl | rfl | rfl <;> cases b <;> simp [gsum, gadd, gmul, tw, hu0, hu1, hu2, hu3, hv0, hv1, hv2, hv3] <;> constructor <;> grind
theorem lev_setd (b : Bool) (s : Nat) (z : Nat → G) (j : Nat) : lev b s z j = gsum (fun c => gmul (z (setd s j c)) (tw b (c * dig s j % 4))) 4 := rfl
theorem cyc_lev (b : Bool) {s : Nat} (hs : 0 < s) (u v : Nat → G) (j : Nat) : gmul (lev b s u j) (lev b s v j) = lev b s (cyc s u v) j := by
  rw [lev_setd b s u, lev_setd b s v, cyc_alg b (dig s j) (dig_lt s j) (fun c => u (setd s j c)) (fun c => v (setd s j c)), lev_setd]
  refine gsum_congr _ _ 4 fun a ha => ?_
  congr 1
  obtain ⟨h1, h2⟩ := setd_dig hs j a ha
  unfold cyc
  rw [h1]
  refine gsum_congr _ _ 4 fun c hc => ?_
  unfold setd
  rw [show bas s (bas s j + a * s) = bas s j from h2]
/-- two digits -/
def cyc2 (a b : Nat → G) (j : Nat) : G := gsum (fun c => cyc 1 (fun i => a (setd 4 i c)) (fun i => b (setd 4 i ((dig 4 j + 4 - c) % 4))) j) 4
theorem apart14 (j a b : Nat) (ha : a < 4) (hb : b < 4) : dig 1 (setd 4 j b) = dig 1 j ∧ dig 4 (setd 1 j a) = dig 4 j ∧ setd 1 (setd 4 j b) a = setd 4 (setd 1 j a) b := by
  have := apart (s := 1) (u := 1) (by decide) (by decide) j a b ha hb
  simpa using this
theorem lev_shift (b : Bool) (z : Nat → G) (j c : Nat) (hc : c < 4) : lev b 1 z (setd 4 j c) = lev b 1 (fun i => z (setd 4 i c)) j := by
  rw [lev_setd, lev_setd]
  refine gsum_congr _ _ 4 fun a ha => ?_
  obtain ⟨h1, h2, h3⟩ := apart14 j a c ha hc
  rw [h1, h3]
theorem lev_gsum (b : Bool) (s : Nat) (F : Nat → Nat → G) (n j : Nat) : gsum (fun c => lev b s (F c) j) n = lev b s (fun i => gsum (fun c => F c i) n) j := by
  rw [lev_setd]
  have : gsum (fun c => lev b s (F c) j) n = gsum (fun c => gsum (fun a => gmul (F c (setd s j a)) (tw b (a * dig s j % 4))) 4) n := rfl
  rw [this, gsum_swap]
  refine gsum_congr _ _ 4 fun a ha => ?_
  rw [gmul_gsum]
/-- .. the second digit's place given -/
def cyc2at (D : Nat) (u v : Nat → G) (i : Nat) : G := gsum (fun c => cyc 1 (fun i => u (setd 4 i c)) (fun i => v (setd 4 i ((D + 4 - c) % 4))) i) 4
theorem cyc2_at (u v : Nat → G) (j : Nat) : cyc2 u v j = cyc2at (dig 4 j) u v j := rfl
theorem cyc2_lev (b : Bool) (u v : Nat → G) (j : Nat) : cyc 4 (lev b 1 u) (lev b 1 v) j = lev b 1 (cyc2 u v) j := by
  have e : lev b 1 (cyc2 u v) j = lev b 1 (cyc2at (dig 4 j) u v) j := by
    rw [lev_setd, lev_setd]
    refine gsum_congr _ _ 4 fun a ha => ?_
    rw [cyc2_at, (apart14 j a 0 ha (by decide)).2.1]
  have e2 := lev_gsum b 1 (fun c => cyc 1 (fun i => u (setd 4 i c)) (fun i => v (setd 4 i ((dig 4 j + 4 - c) % 4)))) 4 j
  have e3 : lev b 1 (cyc2at (dig 4 j) u v) j = gsum (fun c => lev b 1 (cyc 1 (fun i => u (setd 4 i c)) (fun i => v (setd 4 i ((dig 4 j + 4 - c) % 4)))) j) 4 := e2.symm
  rw [e, e3]
  unfold cyc
  refine gsum_congr _ _ 4 fun c hc => ?_
  rw [lev_shift b u j c hc, lev_shift b v j _ (Nat.mod_lt _ (by decide))]
  exact cyc_lev b (by decide) _ _ j

theorem gb_gmul {M N : Nat} {x y : G} (hx : gb M x) (hy : gb N y) : gb (2 * (M * N)) (gmul x y) := by
  have p1 := abs_mul_le hx.1 hy.1
  have p2 := abs_mul_le hx.2 hy.2
  have p3 := abs_mul_le hx.1 hy.2
  have p4 := abs_mul_le hx.2 hy.1
  simp only [gmul, gb]
  omega
/-- the product of two transforms is a transform -/
theorem conv_is (m : Nat) (hm : m ≤ 2) (a b : Nat → G) (M : Nat) (ha : ∀ j, gb M (a j)) (hb : ∀ j, gb M (b j)) : ∃ c : Nat → G, (∀ j, gmul (levs false a m j) (levs false b m j) = levs false c m j) ∧ ∀ j, gb (4 ^ m * (2 * (M * M))) (c j) := by
  have h : m = 0 ∨ m = 1 ∨ m = 2 := by omega
  have hc1 : ∀ (u v : Nat → G), (∀ j, gb M (u j)) → (∀ j, gb M (v j)) → ∀ s j, gb (4 * (2 * (M * M))) (cyc s u v j) := fun u v hu hv s j => gb_gsum 4 (fun c _ => gb_gmul (hu _) (hv _))
  rcases h with rfl | rfl | rfl
  · exact ⟨fun j => gmul (a j) (b j), fun j => rfl, fun j => by simpa using gb_gmul (ha j) (hb j)⟩
  · exact ⟨cyc 1 a b, fun j => cyc_lev false (by decide) a b j, fun j => by simpa using hc1 a b ha hb 1 j⟩
  · refine ⟨cyc2 a b, fun j => ?_, fun j => ?_⟩
    · show gmul (lev false 4 (lev false 1 a) j) (lev false 4 (lev false 1 b) j) = lev false 4 (lev false 1 (cyc2 a b)) j
      rw [cyc_lev false (by decide)]
      congr 1
      funext i
      exact cyc2_lev false a b i
    · have := gb_gsum (M := 4 * (2 * (M * M))) (f := fun c => cyc 1 (fun i => a (setd 4 i c)) (fun i => b (setd 4 i ((dig 4 j + 4 - c) % 4))) j) 4 (fun c _ => hc1 _ _ (fun i => ha _) (fun i => hb _) 1 j)
      have e : 4 ^ 2 * (2 * (M * M)) = 4 * (4 * (2 * (M * M))) := by omega
      rw [e]; exact this

/-- the products, element by element -/
def prods (xs ys : List G) : List G := List.zipWith gmul xs ys
theorem prods_comm (xs ys : List G) : prods xs ys = prods ys xs := by
  unfold prods
  rw [List.zipWith_comm]
  congr 1
  funext a b
  simp only [gmul, Prod.mk.injEq]; constructor <;> grind
theorem zfun_gb {zs : List G} {M : Nat} (hz : ∀ z ∈ zs, gb M z) : ∀ j, gb M (zfun zs j) := fun j => by
  unfold zfun
  rw [List.getD_eq_getElem?_getD]
  cases h : zs[j]? with
  | none => simp [gb]
  | some z => exact hz z (List.mem_of_getElem? h)
/-- a convolution: its transform is the product of the transforms -/
theorem conv_list (m : Nat) (hm : m ≤ 2) (a b : List G) (ha : a.length = 4 ^ m) (hb : b.length = 4 ^ m) (M : Nat) (hga : ∀ z ∈ a, gb M z) (hgb : ∀ z ∈ b, gb M z) :
    ∃ c : List G, c.length = 4 ^ m ∧ (∀ z ∈ c, gb (4 ^ m * (2 * (M * M))) z) ∧ tr false m c = prods (tr false m a) (tr false m b) ∧ tr true m (prods (tr false m a) (tr false m b)) = c.map (gsc ((4 ^ m : Nat) : Int)) := by
  obtain ⟨c, h1, h2⟩ := conv_is m hm (zfun a) (zfun b) M (zfun_gb hga) (zfun_gb hgb)
  have hl : ((List.range (4 ^ m)).map c).length = 4 ^ m := by simp
  have he : tr false m ((List.range (4 ^ m)).map c) = prods (tr false m a) (tr false m b) := by
    apply List.ext_getElem
    · simp [tr, prods]
    · intro j j1 j2
      have hj : j < 4 ^ m := by simpa [tr] using j1
      have e : (tr false m ((List.range (4 ^ m)).map c))[j] = levs false (zfun ((List.range (4 ^ m)).map c)) m j := by simp [tr]
      rw [e, levs_congr false m _ c (fun i hi => by simp [zfun, hi]) m (Nat.le_refl _) j hj, ← h1]
      simp [prods, tr]
  refine ⟨(List.range (4 ^ m)).map c, hl, fun z hz => ?_, he, ?_⟩
  · obtain ⟨j, _, rfl⟩ := List.mem_map.1 hz
    exact h2 j
  · rw [← he]
    exact tr_inv false m (by omega) _ hl
theorem gsc_inj {n : Int} (hn : n ≠ 0) {c d : List G} (h : c.map (gsc n) = d.map (gsc n)) : c = d := by
  refine (List.map_inj_right (fun x y hxy => ?_)).1 h
  simp only [gsc, Prod.mk.injEq] at hxy
  exact Prod.ext (Int.eq_of_mul_eq_mul_left hn hxy.1) (Int.eq_of_mul_eq_mul_left hn hxy.2)

/-! exact quotients -/
theorem log2_kept {f : Format} (hf : Ok f) (n : Nat) (hn : n ≠ 0) (h24 : n < 2 ^ 24) : (n * 2 ^ (f.fractionBits - n.log2)).log2 = f.fractionBits := by
  have hL : n.log2 < 24 := (Nat.log2_lt hn).2 h24
  have := hf.fb
  rw [log2_mul_pow _ _ hn]; omega
theorem Fc.div {f : Format} (hf : Ok f) {a b : Nat} {n : Nat} {x : Int} (hn : n ≠ 0) (ha : Fc f a ((n : Int) * x)) (hb : Fc f b (n : Int)) (hx : small x) (hnx : small ((n : Int) * x)) (hns : small (n : Int)) : ∃ r, f.div a b = some r ∧ Fc f r x := by
  obtain ⟨t, ht, rfl⟩ := hb
  rw [Int.natAbs_natCast]
  have htf : t = false := by rw [ht (by omega)]; exact decide_eq_false (by omega)
  subst htf
  have rb := read_nearest hf false n hn (by have := hns; unfold small at this; omega)
  by_cases h0 : x = 0
  · subst h0
    rw [Int.mul_zero] at ha
    obtain ⟨s, k, r1, hs⟩ := ha.read hf (by unfold small; decide)
    have hz : (n * 2 ^ (f.fractionBits - n.log2)) ≠ 0 := Nat.mul_ne_zero hn (by have := Nat.two_pow_pos (f.fractionBits - n.log2); omega)
    refine ⟨f.nearest s 0 0, ?_, ⟨s, fun h => absurd rfl h, rfl⟩⟩
    unfold Format.div
    rw [r1, rb]
    simp only [Datum.quotient, Int.natAbs_zero, Nat.zero_mul, if_neg hz, Nat.zero_shiftLeft, Nat.zero_div, Nat.zero_mod, Option.map_some, Format.write, Format.nearest]
    simp
  · obtain ⟨s, hs, rfl⟩ := ha
    have hnx0 : ((n : Int) * x) ≠ 0 := Int.mul_ne_zero (by omega) h0
    have habs : ((n : Int) * x).natAbs = n * x.natAbs := by rw [Int.natAbs_mul, Int.natAbs_natCast]
    have hN0 : n * x.natAbs ≠ 0 := by rw [← habs]; omega
    have hN24 : n * x.natAbs < 2 ^ 24 := by rw [← habs]; exact hnx
    rw [habs]
    have ra := read_nearest hf s (n * x.natAbs) hN0 hN24
    have l1 := log2_kept hf _ hN0 hN24
    have l2 := log2_kept hf n hn (by have := hns; unfold small at this; omega)
    have hz : (n * 2 ^ (f.fractionBits - n.log2)) ≠ 0 := Nat.mul_ne_zero hn (by have := Nat.two_pow_pos (f.fractionBits - n.log2); omega)
    have hfb := hf.fb
    have hL1 : (n * x.natAbs).log2 < 24 := (Nat.log2_lt hN0).2 hN24
    have hL2 : n.log2 < 24 := (Nat.log2_lt hn).2 (by have := hns; unfold small at this; omega)
    have hle : n.log2 ≤ (n * x.natAbs).log2 := by
      have h1 : n ≤ n * x.natAbs := Nat.le_mul_of_pos_right _ (by omega)
      exact (Nat.le_log2 hN0).2 (Nat.le_trans (Nat.log2_self_le hn) h1)
    generalize hA : (n * x.natAbs).log2 = LA at *
    generalize hB : n.log2 = LB at *
    -- the dividend
    have hmore : f.fractionBits + 2 + f.fractionBits - f.fractionBits = f.fractionBits + 2 := by omega
    have hdiv : (n * x.natAbs * 2 ^ (f.fractionBits - LA)) <<< (f.fractionBits + 2) = (n * 2 ^ (f.fractionBits - LB)) * (x.natAbs * 2 ^ (f.fractionBits + 2 + LB - LA)) := by
      rw [Nat.shiftLeft_eq]
      have e : 2 ^ (f.fractionBits - LA) * 2 ^ (f.fractionBits + 2) = 2 ^ (f.fractionBits - LB) * 2 ^ (f.fractionBits + 2 + LB - LA) := by
        rw [← Nat.pow_add, ← Nat.pow_add]; congr 1; omega
      calc n * x.natAbs * 2 ^ (f.fractionBits - LA) * 2 ^ (f.fractionBits + 2) = n * x.natAbs * (2 ^ (f.fractionBits - LA) * 2 ^ (f.fractionBits + 2)) := by rw [Nat.mul_assoc]
        _ = n * x.natAbs * (2 ^ (f.fractionBits - LB) * 2 ^ (f.fractionBits + 2 + LB - LA)) := by rw [e]
        _ = _ := by simp only [Nat.mul_assoc, Nat.mul_left_comm]
    have hsx : s = decide (x < 0) := by
      rw [hs hnx0]
      have : (n : Int) * x < 0 ↔ x < 0 := by
        constructor
        · intro h
          by_cases h1 : x < 0
          · exact h1
          · have := Int.mul_nonneg (show (0 : Int) ≤ n by omega) (show 0 ≤ x by omega); omega
        · intro h; exact Int.mul_neg_of_pos_of_neg (by omega) h
      exact decide_eq_decide.2 this
    have hK : 0 < n * 2 ^ (f.fractionBits - LB) := by omega
    have hq : (Datum.number s (n * x.natAbs * 2 ^ (f.fractionBits - LA)) (-((f.fractionBits - LA : Nat) : Int))).quotient (f.fractionBits + 2) (.number false (n * 2 ^ (f.fractionBits - LB)) (-((f.fractionBits - LB : Nat) : Int))) = some (.number s (x.natAbs * 2 ^ (f.fractionBits + 3 + LB - LA)) (-((f.fractionBits + 3 + LB - LA : Nat) : Int))) := by
      simp only [Datum.quotient, if_neg hz, l1, l2, hmore, hdiv, Nat.mul_div_cancel_left _ hK, Nat.mul_mod_right, Bool.xor_false]
      congr 2
      · rw [show f.fractionBits + 3 + LB - LA = (f.fractionBits + 2 + LB - LA) + 1 by omega, Nat.pow_succ]
        show 2 * (x.natAbs * 2 ^ (f.fractionBits + 2 + LB - LA)) + 0 = x.natAbs * (2 ^ (f.fractionBits + 2 + LB - LA) * 2)
        generalize 2 ^ (f.fractionBits + 2 + LB - LA) = P
        rw [Nat.add_zero, Nat.mul_comm P 2, Nat.mul_left_comm]
      · omega
    refine ⟨_, ?_, Fc.mk hf hx s (f.fractionBits + 3 + LB - LA) (fun _ => hsx)⟩
    unfold Format.div
    rw [ra, rb, hq]; rfl
end Go.Proofs.Ythccnaemocdcbaa
