import Derived.Test.YthccnaemocdcbaaI
import Derived.BigQuiet
namespace Go.Proofs.Ythccnaemocdcbaa
open Go.RowKit Ieee
set_option maxHeartbeats 4000000
set_option maxRecDepth 100000
set_option linter.unusedSimpArgs false
set_option linter.unusedVariables false

theorem levs_congr (b : Bool) (m : Nat) (z z' : Nat → G) (h : ∀ j, j < 4 ^ m → z j = z' j) (t : Nat) (ht : t ≤ m) (j : Nat) (hj : j < 4 ^ m) : levs b z t j = levs b z' t j := by
  induction t generalizing j with
  | zero => exact h j hj
  | succ t ih =>
    show gsum _ 4 = gsum _ 4
    refine gsum_congr _ _ 4 fun a ha => ?_
    have hs : 0 < 4 ^ t := Nat.pow_pos (by decide)
    have hlt := wing_lt hs (pow4_dvd m t (by omega)) (bas_dig hs j).1 (Nat.lt_of_le_of_lt (bas_le _ j) hj) a ha
    rw [ih (by omega) _ hlt]
theorem tr_len (b : Bool) (m : Nat) (zs : List G) : (tr b m zs).length = 4 ^ m := by simp [tr]
theorem zfun_tr (b : Bool) (m : Nat) (zs : List G) (j : Nat) (hj : j < 4 ^ m) : zfun (tr b m zs) j = levs b (zfun zs) m j := by
  simp [zfun, tr, hj]
theorem tr_inv (b : Bool) (m : Nat) (hm : m ≤ 3) (zs : List G) (hl : zs.length = 4 ^ m) : tr (!b) m (tr b m zs) = zs.map (gsc ((4 ^ m : Nat) : Int)) := by
  apply List.ext_getElem
  · simp [tr, hl]
  · intro j h1 h2
    have hj : j < 4 ^ m := by simpa [tr] using h1
    have e : (tr (!b) m (tr b m zs))[j] = levs (!b) (zfun (tr b m zs)) m j := by simp [tr]
    rw [e, levs_congr (!b) m _ _ (fun i hi => zfun_tr b m zs i hi) m (Nat.le_refl _) j hj, levs_inv b m hm]
    simp [zfun, hl, hj]
theorem gb_tr (b : Bool) (m : Nat) (zs : List G) (M : Nat) (hz : ∀ z ∈ zs, gb M z) : ∀ z ∈ tr b m zs, gb (4 ^ m * M) z := by
  have hgb : ∀ j, gb M (zfun zs j) := fun j => by
    unfold zfun
    rw [List.getD_eq_getElem?_getD]
    cases h : zs[j]? with
    | none => simp [gb]
    | some z => exact hz z (List.mem_of_getElem? h)
  intro z h
  obtain ⟨j, _, rfl⟩ := List.mem_map.1 h
  exact gb_levs hgb b m j

theorem flat_rep {α : Type} (enc : α → List Value) (x : α) (n : Nat) : (List.replicate n x).flatMap enc = (List.replicate n (enc x)).flatten := by
  induction n with
  | zero => rfl
  | succ k ih => simp [List.replicate_succ, ih]

theorem madeCells_mul (z : Array Value) (n : Nat) (hz : 0 < z.size) : (madeCells z (n * z.size)).toList = (List.replicate n z.toList).flatten := by
  induction n with
  | zero => simp [madeCells]
  | succ k ih =>
    have h1 : (List.replicate (k + 1) z.toList).flatten = (List.replicate k z.toList).flatten ++ z.toList := by
      rw [List.replicate_succ', List.flatten_append]; simp
    rw [h1, ← ih]
    simp only [madeCells, Array.toList_map, Array.toList_range]
    rw [Nat.succ_mul, List.range_add, List.map_append, List.map_map]
    congr 1
    apply List.ext_getElem
    · simp
    · intro i hi1 hi2
      have hi : i < z.size := by simpa using hi1
      simp only [List.getElem_map, List.getElem_range, Function.comp]
      rw [show (k * z.size + i) % z.size = i by rw [Nat.add_comm, Nat.mul_comm, Nat.add_mul_mod_self_left]; exact Nat.mod_eq_of_lt hi]
      simp [hi]


theorem made_cx (k : FloatKind) (n : Nat) : (madeCells (Value.complex k 0 0).cells (n * 1)).toList = (List.replicate n ((0, 0) : G)).flatMap (encG k) := by
  have h0 : can k 0 = 0 := by cases k <;> decide
  have := madeCells_mul #[.complex k 0 0] n (by simp)
  rw [flat_rep]
  simpa [Value.cells, encG, h0] using this
abbrev enc8 (x : Int) : List Value := [.int .i8 x]
theorem Rd.i8 {w : World} {A : Option Addr} {xs : List Int} (h : Rd enc8 1 w A xs) (k : Nat) (hk : k < xs.length) : ∃ a, A = some a ∧ w.cell? (a.add k) = some (.int .i8 xs[k]) := by
  obtain ⟨a, ha, hc⟩ := h.cell k hk
  exact ⟨a, ha, by simpa using hc 0 _ rfl⟩
/-- a part of a number of the list -/
def part8 (l : List Int) (q : Nat) : Int := (l.getD q 0).tmod 61
theorem part8_small (l : List Int) (q : Nat) : (part8 l q).natAbs ≤ 60 := by
  unfold part8
  rw [Int.natAbs_tmod]
  have := Nat.mod_lt (l.getD q 0).natAbs (show 0 < 61 by decide)
  show _ % 61 ≤ 60
  omega
theorem part8_at (l : List Int) (q : Nat) (h : q < l.length) : part8 l q = (l[q]).tmod 61 := by simp [part8, h]
theorem part8_out (l : List Int) (q : Nat) (h : ¬ q < l.length) : part8 l q = 0 := by
  unfold part8; rw [List.getD_eq_getElem?_getD, List.getElem?_eq_none (by omega)]; rfl
/-- the list, as far as the places ahead of i are filled -/
def zlist (l : List Int) (n i : Nat) : List G := (List.range n).map fun j => if j < i then (part8 l (2 * j), part8 l (2 * j + 1)) else (0, 0)
theorem zlist_zero (l : List Int) (n : Nat) : zlist l n 0 = List.replicate n (0, 0) := by
  unfold zlist
  apply List.ext_getElem
  · simp
  · intro j h1 h2; simp
theorem zlist_len (l : List Int) (n i : Nat) : (zlist l n i).length = n := by simp [zlist]
theorem zlist_set (l : List Int) (n i : Nat) (hi : i < n) : (zlist l n i).set i (part8 l (2 * i), part8 l (2 * i + 1)) = zlist l n (i + 1) := by
  unfold zlist
  apply List.ext_getElem
  · simp
  · intro j h1 h2
    rw [List.getElem_set]
    simp only [List.getElem_map, List.getElem_range]
    by_cases e : i = j
    · subst e; rw [if_pos rfl, if_pos (by omega)]
    · rw [if_neg e]
      by_cases h3 : j < i
      · rw [if_pos h3, if_pos (by omega)]
      · rw [if_neg h3, if_neg (by omega)]
theorem zlist_gb (l : List Int) (n i : Nat) : ∀ z ∈ zlist l n i, gb 60 z := by
  intro z hz
  obtain ⟨j, _, rfl⟩ := List.mem_map.1 hz
  split
  · exact ⟨part8_small l _, part8_small l _⟩
  · simp [gb]
/-- the two lists under way -/
structure II (w : World) (n g1 g2 c1 c2 : Nat) (zs : List G) (wr : World) : Prop where
  o1 : Own (encG .f64) 1 27 wr w.heap.size (.slice (some ⟨g1, 0, none⟩) n c1) zs
  o2 : Own (encG .f32) 1 29 wr w.heap.size (.slice (some ⟨g2, 0, none⟩) n c2) zs
  low : Below w.heap.size w wr
  ne : g1 ≠ g2
theorem II.set {w : World} {n g1 g2 c1 c2 : Nat} {zs : List G} {wr : World} (h : II w n g1 g2 c1 c2 zs wr) (i : Nat) (hl : zs.length = n) (hi : i < zs.length) (z : G) : II w n g1 g2 c1 c2 (zs.set i z) ((wr.setCell ⟨g1, i, none⟩ (.complex .f64 (can .f64 z.1) (can .f64 z.2))).setCell ⟨g2, i, none⟩ (.complex .f32 (can .f32 z.1) (can .f32 z.2))) := by
  have b1 := h.o1.blk g1 rfl
  have b2 := h.o2.blk g2 rfl
  have s1 := h.o1.set lenG hl i hi 0 (by decide) (.complex .f64 (can .f64 z.1) (can .f64 z.2)) z rfl
  simp only [Nat.mul_one, Nat.add_zero] at s1
  have k2 := h.o2.grown s1.2 (Or.inr (fun e => h.ne (Option.some.inj (show some g2 = some g1 from e)).symm))
  have s2 := k2.set lenG hl i hi 0 (by decide) (.complex .f32 (can .f32 z.1) (can .f32 z.2)) z rfl
  simp only [Nat.mul_one, Nat.add_zero] at s2
  have k1 := s1.1.grown s2.2 (Or.inr (fun e => h.ne (Option.some.inj (show some g1 = some g2 from e))))
  refine ⟨k1, s2.1, ?_, h.ne⟩
  have l1 := h.low.grown s1.2 h.low.size (fun b hb => by cases hb; omega)
  exact l1.grown s2.2 l1.size (fun b hb => by cases hb; omega)
theorem II.cells {w : World} {n g1 g2 c1 c2 : Nat} {zs : List G} {wr : World} (h : II w n g1 g2 c1 c2 zs wr) (i : Nat) (hl : zs.length = n) (hi : i < zs.length) : (wr.cell? ⟨g1, i, none⟩ = some (.complex .f64 (can .f64 zs[i].1) (can .f64 zs[i].2)) ∧ wr.frozen? ⟨g1, i, none⟩ = false) ∧ (wr.cell? ⟨g2, i, none⟩ = some (.complex .f32 (can .f32 zs[i].1) (can .f32 zs[i].2)) ∧ wr.frozen? ⟨g2, i, none⟩ = false) := by
  have q1 := h.o1.cell lenG hl i hi 0 _ rfl
  have q2 := h.o2.cell lenG hl i hi 0 _ rfl
  simp only [Nat.mul_one, Nat.add_zero] at q1 q2
  exact ⟨q1, q2⟩

theorem idx23 (m : Nat) (hm : m ≤ 3) (w : World) : (Instr.index 23 (.agg #[.int .i64 1, .int .i64 4, .int .i64 16, .int .i64 64]) (.int .i64 (m : Int))).run Try.prog w = .ok (.int .i64 ((4 ^ m : Nat) : Int)) w := by
  have : m = 0 ∨ m = 1 ∨ m = 2 ∨ m = 3 := by omega
  rcases this with rfl | rfl | rfl | rfl <;> (simp [Instr.index, run_underlying Try.underlying23, asIntOf, go_sem]; try rfl)

theorem below_drewN' {B : Nat} {w W : World} (h : Below B w W) (n : Nat) : Below B w (W.drewN n) := ⟨h.os, h.tape, h.output, h.size, h.block⟩
theorem add_at (b j : Nat) : (⟨b, 0, none⟩ : Addr).add j = ⟨b, j, none⟩ := by unfold Addr.add; split <;> simp_all
theorem ord_same {k : FloatKind} {a b : Nat} {x : Int} (ha : Fc k.format a x) (hb : Fc k.format b x) (hx : small x) : k.format.order a b = some Ordering.eq := by
  rw [Fc.order (kOk k) ha hb hx hx, (cmp_eq x x).1.2 rfl]
theorem ccv_run (z : G) (M : Nat) (hz : gb M z) (hM : M < 2 ^ 24) : ∃ v, Cx .f64 v z ∧ ∀ w, (convert 29 27 (.complex .f32 (can .f32 z.1) (can .f32 z.2))).run Try.prog w = .ok v w := by
  obtain ⟨s1, m1, p1, h1, h2, h3⟩ := Fc.conv (kOk .f32) (kOk .f64) (can_fc .f32 z.1) (by have := hz.1; unfold small; omega)
  obtain ⟨s2, m2, p2, k1, k2, k3⟩ := Fc.conv (kOk .f32) (kOk .f64) (can_fc .f32 z.2) (by have := hz.2; unfold small; omega)
  refine ⟨.complex .f64 _ _, ⟨_, _, rfl, h2, k2⟩, fun w => ?_⟩
  have h1' : FloatKind.f32.decode (can .f32 z.1) = .number s1 m1 p1 := h1
  have k1' : FloatKind.f32.decode (can .f32 z.2) = .number s2 m2 p2 := k1
  have h3' : (FloatKind.f64.decode (FloatKind.f64.encode (.number s1 m1 p1))).isInfinity = false := h3
  have k3' : (FloatKind.f64.decode (FloatKind.f64.encode (.number s2 m2 p2))).isInfinity = false := k3
  simp [convert, run_underlying Try.underlying27, run_underlying Try.underlying29, Conv.complexToComplex, Conv.floatToFloat, h1', k1', h3', k3']
  exact ⟨rfl, rfl⟩
theorem inverse_calls (k : Int) (hk : 0 ≤ k ∧ k ≤ 255) (l : List Int) (hl8 : ∀ x ∈ l, -128 ≤ x ∧ x ≤ 127) (L : Option Addr) (cl : Nat) (w : World) (hx : Rd enc8 1 w L l) :
    Calls Try.prog 3 #[.int .u8 k, .slice L l.length cl] w fun e w' => e = .returned (.bool true) ∧ Below w.heap.size w w' := by
  obtain ⟨m, hm⟩ : ∃ m : Nat, k.tmod 4 = m := ⟨(k.tmod 4).toNat, by have := Int.tmod_nonneg 4 hk.1; omega⟩
  have hm3 : m ≤ 3 := by have := Int.tmod_lt_of_pos k (show (0 : Int) < 4 by decide); omega
  have hn64 : 4 ^ m ≤ 64 := (pow4 m hm3 0 (by omega)).1
  have hn0 : 0 < 4 ^ m := Nat.pow_pos (by decide)
  obtain ⟨n, hn⟩ : ∃ n, 4 ^ m = n := ⟨_, rfl⟩
  rw [hn] at hn64 hn0
  have hidx := fun w => idx23 m hm3 w
  rw [hn] at hidx
  have hsl := hx.small
  obtain ⟨i1, hi1, hz1, hs1, hb1⟩ := info_parts info27
  obtain ⟨i2, hi2, hz2, hs2, hb2⟩ := info_parts info29
  obtain ⟨W1, hmk1, hown1, hg1⟩ := run_makeSlice_full (P := Try.prog) (w := w) w.heap.size 24 27 i1 _ 1 Try.underlying24 hi1 hz1 hs1 .i64 .i64 n (by omega) (by rw [hb1]; omega) (by simp [maxLen]; omega) (Nat.le_refl _)
  obtain ⟨W2, hmk2, hown2, hg2⟩ := run_makeSlice_full (P := Try.prog) (w := W1) w.heap.size 25 29 i2 _ 1 Try.underlying25 hi2 hz2 hs2 .i64 .i64 n (by omega) (by rw [hb2]; omega) (by simp [maxLen]; omega) hg1.size
  rw [made_cx] at hown1 hown2
  have hsz1 : w.heap.size < W1.heap.size := by
    have h0 : Own (encG .f64) 1 27 W1 w.heap.size (.slice (some ⟨w.heap.size, 0, none⟩) n n) (List.replicate n (0, 0)) := by
      unfold Own; rw [List.length_replicate]; exact hown1
    exact (h0.blk _ rfl).2.1
  obtain ⟨g2, hg2'⟩ : ∃ g, W1.heap.size = g := ⟨_, rfl⟩
  obtain ⟨g1, hg1'⟩ : ∃ g, w.heap.size = g := ⟨_, rfl⟩
  have hII : II w n w.heap.size W1.heap.size n n (zlist l n 0) W2 := by
    rw [zlist_zero]
    have o1 : Own (encG .f64) 1 27 W1 w.heap.size (.slice (some ⟨w.heap.size, 0, none⟩) n n) (List.replicate n (0, 0)) := by
      unfold Own; rw [List.length_replicate]; exact hown1
    have o2 : Own (encG .f32) 1 29 W2 w.heap.size (.slice (some ⟨W1.heap.size, 0, none⟩) n n) (List.replicate n (0, 0)) := by
      unfold Own; rw [List.length_replicate]; exact hown2
    exact ⟨o1.grown hg2 (Or.inr (by simp [Value.ownBlock])), o2, ((Below.refl w.heap.size w).grown hg1 (Nat.le_refl _) (fun b hb => by cases hb)).grown hg2 hg1.size (fun b hb => by cases hb), by omega⟩
  have HI := Lib.hid (And.intro hII (And.intro hx (And.intro hm3 (And.intro hn hl8))))
  have HG := Lib.hid (And.intro hg1' hg2')
  clear hown1 hown2 hg1 hg2 hII hx hm3 hn hl8 hi1 hz1 hs1 hb1 hi2 hz2 hs2 hb2 hsz1 hg2' hg1'
  go_enter Try.func3, Try.ntmps3
  go_wp2_with fail
  go_loopg [8, 9, 10, 27, 28, 29, 30, 31, 32, 33, 34, 35, 36, 37, 38, 39, 40, 41, 42, 43, 44, 45, 46, 47, 48, 49, 50, 51, 52, 53, 54, 55, 56, 57, 58, 59, 60, 61, 62, 63, 64, 65, 66, 67, 68, 69, 70, 71, 72, 73] n (fun gk v8 v9 v10 v27 v28 v29 v30 v31 v32 v33 v34 v35 v36 v37 v38 v39 v40 v41 v42 v43 v44 v45 v46 v47 v48 v49 v50 v51 v52 v53 v54 v55 v56 v57 v58 v59 v60 v61 v62 v63 v64 v65 v66 v67 v68 v69 v70 v71 v72 v73 wr => ∃ i : Nat, i + gk = n ∧ v8 = .int .i64 (i : Int) ∧ II w n w.heap.size W1.heap.size n n (zlist l n i) wr)
  case atStart => exact ⟨0, by omega, rfl, HI.out.1⟩
  case round =>
    obtain ⟨i, hi, rfl, hii⟩ := hrel
    by_cases hil : i < n
    · have hb1 : decide (i < n) = true := decide_eq_true hil
      have hzi : i < (zlist l n i).length := by rw [zlist_len]; exact hil
      obtain ⟨⟨q1, q2⟩, q3, q4⟩ := hii.cells i (zlist_len _ _ _) hzi
      have hset := hii.set i (zlist_len _ _ _) (by rw [zlist_len]; exact hil) (part8 l (2 * i), part8 l (2 * i + 1))
      rw [zlist_set l n i hil] at hset
      simp only at hset
      have hrd := HI.out.2.1.below hii.low
      have hne := hii.ne
      have hne' := Ne.symm hii.ne
      generalize can .f64 (zlist l n i)[i].1 = e1 at q1
      generalize can .f64 (zlist l n i)[i].2 = e2 at q1
      generalize can .f32 (zlist l n i)[i].1 = e3 at q3
      generalize can .f32 (zlist l n i)[i].2 = e4 at q3
      by_cases h1 : 2 * i < l.length
      · obtain ⟨a, rfl, c1⟩ := hrd.i8 (2 * i) h1
        have hd1 : decide (2 * (i : Int) < (l.length : Int)) = true := decide_eq_true (by omega)
        have hx1 := HI.out.2.2.2.2 l[2 * i] (List.getElem_mem h1)
        rw [part8_at l (2 * i) h1] at hset
        by_cases h2 : 2 * i + 1 < l.length
        · obtain ⟨a', ha', c2⟩ := hrd.i8 (2 * i + 1) h2
          cases ha'
          change wr.cell? ⟨a.block, a.off + (2 * i + 1), none⟩ = _ at c2
          have hd2 : decide (2 * (i : Int) + 1 < (l.length : Int)) = true := decide_eq_true (by omega)
          have hx2 := HI.out.2.2.2.2 l[2 * i + 1] (List.getElem_mem h2)
          rw [part8_at l (2 * i + 1) h2] at hset
          generalize l[2 * i] = x at c1 hx1 hset
          generalize l[2 * i + 1] = y at c2 hx2 hset
          have HS := Lib.hid hset
          clear hset hii hrd
          go_wp2_with fail
          go_roundg (gk - 1)
          case measure => omega
          case rel => exact ⟨i + 1, by omega, by go_num, HS.out⟩
        · have hd2 : decide (2 * (i : Int) + 1 < (l.length : Int)) = false := decide_eq_false (by omega)
          rw [part8_out l (2 * i + 1) h2] at hset
          generalize l[2 * i] = x at c1 hx1 hset
          have HS := Lib.hid hset
          clear hset hii hrd
          go_wp2_with fail
          go_roundg (gk - 1)
          case measure => omega
          case rel => exact ⟨i + 1, by omega, by go_num, HS.out⟩
      · have hd1 : decide (2 * (i : Int) < (l.length : Int)) = false := decide_eq_false (by omega)
        have hd2 : decide (2 * (i : Int) + 1 < (l.length : Int)) = false := decide_eq_false (by omega)
        rw [part8_out l (2 * i) h1, part8_out l (2 * i + 1) (by omega)] at hset
        have HS := Lib.hid hset
        clear hset hii hrd
        go_wp2_with fail
        go_roundg (gk - 1)
        case measure => omega
        case rel => exact ⟨i + 1, by omega, by go_num, HS.out⟩
    · have hb1 : decide (i < n) = false := decide_eq_false hil
      obtain rfl : i = n := by omega
      have hn := HI.out.2.2.2.1
      obtain ⟨A1, k1, e1, hr1⟩ := hii.o1.rd lenG
      obtain ⟨A2, k2, e2, hr2⟩ := hii.o2.rd lenG
      obtain ⟨rfl, hx1, rfl⟩ := Value.slice.inj e1
      obtain ⟨rfl, hx2, rfl⟩ := Value.slice.inj e2
      clear hx1 hx2
      have hzl : (zlist l i i).length = 4 ^ m := by rw [zlist_len, hn]
      have h60 : 2 * (4 ^ m * 60) < 2 ^ 24 := by rw [hn]; omega
      have ht1 := transform_calls false (zlist l i i) m HI.out.2.2.1 hzl 60 h60 (by decide) (zlist_gb l i i) _ i wr hr1
      have ht2 := fun w' (hb : Below wr.heap.size wr w') => transform64_calls false (zlist l i i) m HI.out.2.2.1 hzl 60 h60 (by decide) (zlist_gb l i i) _ i w' (hr2.below hb)
      have ht3 := fun w' A c (hx : Rd (encG .f64) 1 w' A (tr false m (zlist l i i))) => transform_calls true (tr false m (zlist l i i)) m HI.out.2.2.1 (tr_len _ _ _) (4 ^ m * 60) (by rw [hn]; have : i * (i * 60) ≤ 64 * (64 * 60) := Nat.mul_le_mul hn64 (Nat.mul_le_mul_right _ hn64); omega) (by rw [hn]; omega) (gb_tr false m _ 60 (zlist_gb l i i)) A c w' hx
      rw [hn] at ht1
      simp only [hn] at ht2 ht3
      have hinv := tr_inv false m HI.out.2.2.1 (zlist l i i) hzl
      rw [hn] at hinv
      have hinv' : tr true m (tr false m (zlist l i i)) = (zlist l i i).map (gsc (i : Int)) := hinv
      simp only [hinv'] at ht3
      have htl : (tr false m (zlist l i i)).length = i := by rw [tr_len, hn]
      have hgt := gb_tr false m (zlist l i i) 60 (zlist_gb l i i)
      rw [hn] at hgt
      have HT1 := Lib.hid ht1
      have HT2 := Lib.hid ht2
      have HT3 := Lib.hid ht3
      have HII := Lib.hid hii
      have hzl' := zlist_len l i i
      have HZ := Lib.hid (And.intro htl (And.intro hzl' (And.intro hgt (And.intro (zlist_gb l i i) hr1))))
      clear ht1 ht2 ht3 hii hr1 hr2 hinv hinv' htl hgt hzl hzl' h60 e1 e2
      generalize hzs : zlist l i i = zs at HT1 HT2 HT3 HZ HII
      clear hzs
      generalize hta : tr false m zs = ta at HT1 HT2 HT3 HZ
      clear hta hn hi hil
      go_upto_region 13 with fail
      go_wp2_with fail
      (with_reducible refine (HT1.out).mono ?_); rintro e w3 ⟨v1, rfl, hown1, hb1⟩
      obtain ⟨A1, c1, rfl, hr1⟩ := hown1.rd lenG
      rw [HZ.out.1]
      have H3 := Lib.hid (And.intro hr1 hb1)
      clear hown1 hr1 hb1
      go_wp2_with fail
      (with_reducible refine (HT2.out w3 H3.out.2).mono ?_); rintro e w4 ⟨v2, rfl, hown2, hb2⟩
      obtain ⟨A2, c2, rfl, hr2⟩ := hown2.rd lenG
      rw [HZ.out.1]
      have H4 := Lib.hid (And.intro hr2 (And.intro (H3.out.1.below hb2) (H3.out.2.trans (hb2.mono H3.out.2.size))))
      clear hown2 hr2 hb2
      go_wp2_with fail
      go_loopg [15, 102, 103, 104, 105, 106, 107, 108, 109, 110, 111, 112, 113, 114, 115, 116] i (fun gk v15 v102 v103 v104 v105 v106 v107 v108 v109 v110 v111 v112 v113 v114 v115 v116 wx => ∃ j : Nat, j + gk = i ∧ v15 = .int .i64 (j : Int) ∧ Below w4.heap.size w4 wx)
      case atStart => exact ⟨0, by omega, rfl, Below.refl _ _⟩
      case round =>
        obtain ⟨j, hj, rfl, hbx⟩ := hrel
        by_cases hji : j < i
        · have hb3 : decide (j < i) = true := decide_eq_true hji
          have hjt : j < ta.length := by rw [HZ.out.1]; exact hji
          obtain ⟨a1, rfl, q1⟩ := (H4.out.2.1.below hbx).g j hjt
          obtain ⟨a2, rfl, q2⟩ := (H4.out.1.below hbx).g j hjt
          have HBX := Lib.hid hbx
          clear hbx
          have hgz := HZ.out.2.2.1 ta[j] (List.getElem_mem hjt)
          generalize ta[j] = z at q1 q2 hgz
          obtain ⟨v, hv, hcv⟩ := ccv_run z (i * 60) hgz (by omega)
          have hne' := fun w => run_cne hv (Cx.can .f64 z) hgz hgz (show i * 60 < 2 ^ 24 by omega) 27 w
          simp only [eq_self, decide_true, Bool.and_self, Bool.not_true] at hne'
          obtain ⟨b1, b2, rfl, hf1, hf2⟩ := hv
          have ho1 := ord_same hf1 (can_fc .f64 z.1) (by have := hgz.1; unfold small; omega)
          have ho2 := ord_same hf2 (can_fc .f64 z.2) (by have := hgz.2; unfold small; omega)
          generalize can .f32 z.1 = r1 at q2 hcv
          generalize can .f32 z.2 = r2 at q2 hcv
          generalize can .f64 z.1 = r3 at q1 hne' ho1
          generalize can .f64 z.2 = r4 at q1 hne' ho2
          clear hgz hf1 hf2
          go_upto_region 20 with fail
          go_quiet (fail)
          go_wp2_with fail
          go_roundg (gk - 1)
          case measure => omega
          case rel => exact ⟨j + 1, by omega, by go_num, below_drewN' HBX.out nq⟩
        · have hb3 : decide (j < i) = false := decide_eq_false hji
          have HBX := Lib.hid hbx
          have hr1 := H4.out.2.1.below hbx
          have hlow := H4.out.2.2.trans (hbx.mono H4.out.2.2.size)
          obtain ⟨A3, hA3⟩ : ∃ A3, A1 = A3 := ⟨_, rfl⟩
          have ht4 := HT3.out wr A1 c1 hr1
          have HT4 := Lib.hid ht4
          have HLW := Lib.hid hlow
          clear hbx hr1 hlow ht4 hA3
          go_upto_region 22 with fail
          go_wp2_with fail
          (with_reducible refine (HT4.out).mono ?_); rintro e w6 ⟨v3, rfl, hown3, hb6⟩
          obtain ⟨A5, c5, rfl, hr5⟩ := hown3.rd lenG
          rw [List.length_map, HZ.out.2.1]
          have hlow6 := HLW.out.trans (hb6.mono HLW.out.size)
          have H6 := Lib.hid (And.intro hr5 (And.intro (HZ.out.2.2.2.2.below hlow6) hlow6))
          clear hown3 hr5 hb6 hlow6
          go_wp2_with fail
          go_loopg [17, 130, 131, 132, 133, 134, 135, 136, 137, 138, 139, 140, 141, 142, 143, 144, 145, 146, 147, 148, 149, 150, 151, 152, 153, 154, 155, 156, 157, 158, 159, 160, 161, 162, 163, 164] i (fun gk v17 v130 v131 v132 v133 v134 v135 v136 v137 v138 v139 v140 v141 v142 v143 v144 v145 v146 v147 v148 v149 v150 v151 v152 v153 v154 v155 v156 v157 v158 v159 v160 v161 v162 v163 v164 wx => ∃ j : Nat, j + gk = i ∧ v17 = .int .i64 (j : Int) ∧ Below w6.heap.size w6 wx)
          case atStart => exact ⟨0, by omega, rfl, Below.refl _ _⟩
          case round =>
            obtain ⟨j, hj, rfl, hbx⟩ := hrel
            by_cases hji : j < i
            · have hb4 : decide (j < i) = true := decide_eq_true hji
              have hjz : j < zs.length := by rw [HZ.out.2.1]; exact hji
              obtain ⟨a5, rfl, q1⟩ := (H6.out.1.below hbx).g j (by rw [List.length_map]; exact hjz)
              obtain ⟨a0, ha0, q2⟩ := (H6.out.2.1.below hbx).g j hjz
              cases ha0
              have e0 : (⟨w.heap.size, 0, none⟩ : Addr).add j = ⟨w.heap.size, j, none⟩ := add_at _ _
              rw [e0] at q2
              rw [List.getElem_map] at q1
              have hgz := HZ.out.2.2.2.1 zs[j] (List.getElem_mem hjz)
              generalize zs[j] = z at q1 q2 hgz
              have HBX2 := Lib.hid hbx
              clear hbx e0
              have hsi : small (i : Int) := by unfold small; omega
              have hs1 : small z.1 := by have := hgz.1; unfold small; omega
              have hs2 : small z.2 := by have := hgz.2; unfold small; omega
              have hp1 := abs_mul_le (x := (i : Int)) (M := 64) (by omega) hgz.1
              have hp2 := abs_mul_le (x := (i : Int)) (M := 64) (by omega) hgz.2
              obtain ⟨m1, hm1, hf1⟩ := Fc.mul ok_double (can_fc .f64 (i : Int)) (can_fc .f64 z.1) hsi hs1 (by unfold small; omega)
              obtain ⟨m2, hm2, hf2⟩ := Fc.mul ok_double (can_fc .f64 (i : Int)) (can_fc .f64 z.2) hsi hs2 (by unfold small; omega)
              have ho1 := ord_same (can_fc .f64 ((i : Int) * z.1)) hf1 (by unfold small; omega)
              have ho2 := ord_same (can_fc .f64 ((i : Int) * z.2)) hf2 (by unfold small; omega)
              have hm1' : FloatKind.f64.format.mul (floatOfInt .f64 (i : Int)) (can .f64 z.1) = some m1 := hm1
              have hm2' : FloatKind.f64.format.mul (floatOfInt .f64 (i : Int)) (can .f64 z.2) = some m2 := hm2
              simp only [gsc] at q1
              generalize can .f64 ((i : Int) * z.1) = r1 at q1 ho1
              generalize can .f64 ((i : Int) * z.2) = r2 at q1 ho2
              generalize can .f64 z.1 = r3 at q2 hm1'
              generalize can .f64 z.2 = r4 at q2 hm2'
              have hrm1 := fun w => run_float_arith (P := Try.prog) w .mul 28 .f64 _ _ m1 hm1'
              have hrm2 := fun w => run_float_arith (P := Try.prog) w .mul 28 .f64 _ _ m2 hm2'
              clear hgz hsi hs1 hs2 hp1 hp2 hm1 hm2 hf1 hf2
              go_upto_region 28 with fail
              go_quiet (fail)
              go_wp2_with fail
              go_roundg (gk - 1)
              case measure => omega
              case rel => exact ⟨j + 1, by omega, by go_num, below_drewN' HBX2.out nq⟩
            · have hb4 : decide (j < i) = false := decide_eq_false hji
              have HBX2 := Lib.hid hbx
              have haw := awake_calls wr
              have HAW := Lib.hid haw
              clear hbx haw
              go_wp2_with fail
              (with_reducible refine (HAW.out).mono ?_); rintro e w9 ⟨rfl, hb9⟩
              have H9 := Lib.hid hb9
              clear hb9
              go_wp2_with fail
              go_ret
              have l1 := HII.out.low.trans (H6.out.2.2.mono HII.out.low.size)
              have l2 := l1.trans (HBX2.out.mono l1.size)
              exact ⟨rfl, l2.trans (H9.out.mono l2.size)⟩
end Go.Proofs.Ythccnaemocdcbaa
