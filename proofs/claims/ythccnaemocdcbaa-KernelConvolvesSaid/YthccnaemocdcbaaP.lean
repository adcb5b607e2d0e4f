import Derived.Test.YthccnaemocdcbaaO
namespace Go.Proofs.Ythccnaemocdcbaa
open Go.RowKit Ieee
set_option maxHeartbeats 4000000
set_option maxRecDepth 100000
set_option linter.unusedSimpArgs false
set_option linter.unusedVariables false

/-- a number of the list -/
def p21 (l : List Int) (i : Nat) : G := if 2 * i + 1 < l.length then ((l.getD (2 * i) 0).tmod 21, (l.getD (2 * i + 1) 0).tmod 21) else (0, 0)
theorem p21_in (l : List Int) (i : Nat) (h : 2 * i + 1 < l.length) : p21 l i = ((l[2 * i]).tmod 21, (l[2 * i + 1]).tmod 21) := by
  unfold p21; rw [if_pos h, List.getD_eq_getElem?_getD, List.getD_eq_getElem?_getD, List.getElem?_eq_getElem (by omega), List.getElem?_eq_getElem (by omega)]; rfl
theorem p21_out (l : List Int) (i : Nat) (h : ¬ 2 * i + 1 < l.length) : p21 l i = (0, 0) := by unfold p21; rw [if_neg h]
theorem tmod21 (x : Int) : (x.tmod 21).natAbs ≤ 20 := by
  rw [Int.natAbs_tmod]
  have := Nat.mod_lt x.natAbs (show 0 < 21 by decide)
  show _ % 21 ≤ 20
  omega
theorem p21_gb (l : List Int) (i : Nat) : gb 20 (p21 l i) := by
  unfold p21
  split
  · exact ⟨tmod21 _, tmod21 _⟩
  · simp [gb]
/-- the list, as far as the places ahead of i are filled -/
def zl (l : List Int) (n i : Nat) : List G := (List.range n).map fun j => if j < i then p21 l j else (0, 0)
theorem zl_zero (l : List Int) (n : Nat) : zl l n 0 = List.replicate n (0, 0) := by
  unfold zl
  apply List.ext_getElem
  · simp
  · intro j h1 h2; simp
theorem zl_len (l : List Int) (n i : Nat) : (zl l n i).length = n := by simp [zl]
theorem zl_set (l : List Int) (n i : Nat) (hi : i < n) : (zl l n i).set i (p21 l i) = zl l n (i + 1) := by
  unfold zl
  apply List.ext_getElem
  · simp
  · intro j h1 h2
    rw [List.getElem_set]
    simp only [List.getElem_map, List.getElem_range]
    by_cases e : i = j
    · subst e; rw [if_pos rfl, if_pos (by omega)]
    · rw [if_neg e]
      by_cases h3 : j < i
      · rw [if_pos h3, if_pos (by omega)]
      · rw [if_neg h3, if_neg (by omega)]
theorem zl_same (l : List Int) (n i : Nat) (h : p21 l i = (0, 0)) : zl l n (i + 1) = zl l n i := by
  unfold zl
  apply List.ext_getElem
  · simp
  · intro j h1 h2
    simp only [List.getElem_map, List.getElem_range]
    by_cases e : j = i
    · subst e; rw [if_pos (by omega), if_neg (by omega), h]
    · by_cases h3 : j < i
      · rw [if_pos (by omega), if_pos h3]
      · rw [if_neg (by omega), if_neg h3]
theorem zl_gb (l : List Int) (n i : Nat) : ∀ z ∈ zl l n i, gb 20 z := by
  intro z hz
  obtain ⟨j, _, rfl⟩ := List.mem_map.1 hz
  split
  · exact p21_gb l _
  · simp [gb]
structure AB (w : World) (n g1 g2 c1 c2 : Nat) (a b : List G) (wr : World) : Prop where
  o1 : Own (encG .f64) 1 27 wr w.heap.size (.slice (some ⟨g1, 0, none⟩) n c1) a
  o2 : Own (encG .f64) 1 27 wr w.heap.size (.slice (some ⟨g2, 0, none⟩) n c2) b
  low : Below w.heap.size w wr
  ne : g1 ≠ g2
theorem AB.rest {w : World} {n g1 g2 c1 c2 : Nat} {a b : List G} {wr wx : World} (h : AB w n g1 g2 c1 c2 a b wr) (hb : Below wr.heap.size wr wx) : AB w n g1 g2 c1 c2 a b wx := ⟨h.o1.rest hb, h.o2.rest hb, h.low.trans (hb.mono h.low.size), h.ne⟩
theorem AB.swap {w : World} {n g1 g2 c1 c2 : Nat} {a b : List G} {wr : World} (h : AB w n g1 g2 c1 c2 a b wr) : AB w n g2 g1 c2 c1 b a wr := ⟨h.o2, h.o1, h.low, Ne.symm h.ne⟩
theorem AB.set1 {w : World} {n g1 g2 c1 c2 : Nat} {a b : List G} {wr : World} (h : AB w n g1 g2 c1 c2 a b wr) (i : Nat) (hl : a.length = n) (hi : i < a.length) (z : G) : AB w n g1 g2 c1 c2 (a.set i z) b (wr.setCell ⟨g1, i, none⟩ (.complex .f64 (can .f64 z.1) (can .f64 z.2))) := by
  have b1 := h.o1.blk g1 rfl
  have s1 := h.o1.set lenG hl i hi 0 (by decide) (.complex .f64 (can .f64 z.1) (can .f64 z.2)) z rfl
  simp only [Nat.mul_one, Nat.add_zero] at s1
  exact ⟨s1.1, h.o2.grown s1.2 (Or.inr (fun e => h.ne (Option.some.inj (show some g2 = some g1 from e)).symm)), h.low.grown s1.2 h.low.size (fun b hb => by cases hb; omega), h.ne⟩
theorem AB.set2 {w : World} {n g1 g2 c1 c2 : Nat} {a b : List G} {wr : World} (h : AB w n g1 g2 c1 c2 a b wr) (i : Nat) (hl : b.length = n) (hi : i < b.length) (z : G) : AB w n g1 g2 c1 c2 a (b.set i z) (wr.setCell ⟨g2, i, none⟩ (.complex .f64 (can .f64 z.1) (can .f64 z.2))) := (h.swap.set1 i hl hi z).swap
theorem AB.cells {w : World} {n g1 g2 c1 c2 : Nat} {a b : List G} {wr : World} (h : AB w n g1 g2 c1 c2 a b wr) (i : Nat) (hl : a.length = n) (hi : i < a.length) : wr.cell? ⟨g1, i, none⟩ = some (.complex .f64 (can .f64 a[i].1) (can .f64 a[i].2)) ∧ wr.frozen? ⟨g1, i, none⟩ = false := by
  have q1 := h.o1.cell lenG hl i hi 0 _ rfl
  simpa only [Nat.mul_one, Nat.add_zero] using q1

theorem idx38 (m : Nat) (hm : m ≤ 2) (w : World) : (Instr.index 38 (.agg #[.int .i64 1, .int .i64 4, .int .i64 16]) (.int .i64 (m : Int))).run Try.prog w = .ok (.int .i64 ((4 ^ m : Nat) : Int)) w := by
  have : m = 0 ∨ m = 1 ∨ m = 2 := by omega
  rcases this with rfl | rfl | rfl <;> (simp [Instr.index, run_underlying Try.underlying38, asIntOf, go_sem]; try rfl)

theorem convolves_calls (k : Int) (hk : 0 ≤ k ∧ k ≤ 255) (l mm : List Int) (hl8 : ∀ x ∈ l, -128 ≤ x ∧ x ≤ 127) (hm8 : ∀ x ∈ mm, -128 ≤ x ∧ x ≤ 127) (L N : Option Addr) (cl cm : Nat) (w : World) (hx : Rd enc8 1 w L l) (hxm : Rd enc8 1 w N mm) :
    Calls Try.prog 4 #[.int .u8 k, .slice L l.length cl, .slice N mm.length cm] w fun e w' => e = .returned (.bool true) ∧ Below w.heap.size w w' := by
  obtain ⟨m, hm⟩ : ∃ m : Nat, k.tmod 3 = m := ⟨(k.tmod 3).toNat, by have := Int.tmod_nonneg 3 hk.1; omega⟩
  have hm2 : m ≤ 2 := by have := Int.tmod_lt_of_pos k (show (0 : Int) < 3 by decide); omega
  have hn16 : 4 ^ m ≤ 16 := by
    have : m = 0 ∨ m = 1 ∨ m = 2 := by omega
    rcases this with rfl | rfl | rfl <;> decide
  have hn0 : 0 < 4 ^ m := Nat.pow_pos (by decide)
  obtain ⟨n, hn⟩ : ∃ n, 4 ^ m = n := ⟨_, rfl⟩
  rw [hn] at hn16 hn0
  have hidx := fun w => idx38 m hm2 w
  rw [hn] at hidx
  have hsl := hx.small
  have hslm := hxm.small
  obtain ⟨i1, hi1, hz1, hs1, hb1⟩ := info_parts info27
  obtain ⟨W1, hmk1, hown1, hg1⟩ := run_makeSlice_full (P := Try.prog) (w := w.drew) w.heap.size 24 27 i1 _ 1 Try.underlying24 hi1 hz1 hs1 .i64 .i64 n (by omega) (by rw [hb1]; omega) (by simp [maxLen]; omega) (Nat.le_refl _)
  obtain ⟨W2, hmk2, hown2, hg2⟩ := run_makeSlice_full (P := Try.prog) (w := W1) w.heap.size 24 27 i1 _ 1 Try.underlying24 hi1 hz1 hs1 .i64 .i64 n (by omega) (by rw [hb1]; omega) (by simp [maxLen]; omega) hg1.size
  rw [made_cx] at hown1 hown2
  have o1 : Own (encG .f64) 1 27 W1 w.heap.size (.slice (some ⟨w.heap.size, 0, none⟩) n n) (List.replicate n (0, 0)) := by
    unfold Own; rw [List.length_replicate]; exact hown1
  have hsz1 : w.heap.size < W1.heap.size := (o1.blk _ rfl).2.1
  have hAB : AB w n w.heap.size W1.heap.size n n (List.replicate n (0, 0)) (List.replicate n (0, 0)) W2 := by
    have o2 : Own (encG .f64) 1 27 W2 w.heap.size (.slice (some ⟨W1.heap.size, 0, none⟩) n n) (List.replicate n (0, 0)) := by
      unfold Own; rw [List.length_replicate]; exact hown2
    exact ⟨o1.grown hg2 (Or.inr (by simp [Value.ownBlock])), o2, ((Below.refl w.heap.size w).drew.grown hg1 (Nat.le_refl _) (fun b hb => by cases hb)).grown hg2 hg1.size (fun b hb => by cases hb), by omega⟩
  have HAB := Lib.hid hAB
  have HI := Lib.hid (And.intro (And.intro hx hxm) (And.intro hm2 (And.intro hn (And.intro hn16 (And.intro hl8 hm8)))))
  clear hown1 hown2 hg1 hg2 hAB hx hxm hm2 hn hl8 hm8 hi1 hz1 hs1 hb1 hsz1 o1
  go_enter Try.func4, Try.ntmps4
  go_upto_region 2 with fail
  go_cut [8, 9] (fun s8 s9 wx => ∃ g1 g2 c1 c2, s8 = .slice (some ⟨g1, 0, none⟩) n c1 ∧ s9 = .slice (some ⟨g2, 0, none⟩) n c2 ∧ AB w n g1 g2 c1 c2 (List.replicate n (0, 0)) (List.replicate n (0, 0)) wx)
  case first =>
    go_region_with (fail)
    all_goals (
      go_wp2_with fail
      go_meet
      first
      | exact ⟨_, _, _, _, rfl, rfl, HAB.out⟩
      | exact ⟨_, _, _, _, rfl, rfl, HAB.out.swap⟩)
  case rest =>
    obtain ⟨g1, g2, c1, c2, rfl, rfl, hab0⟩ := hcut
    have HAB0 := Lib.hid hab0
    clear hab0 hmk1 hmk2 HAB
    go_wp2_with fail
    go_loopg [10, 29, 30, 31, 32, 33, 34, 35, 36, 37, 38, 39, 40, 41, 42, 43, 44, 45, 46, 47, 48, 49, 50, 51, 52, 53, 54, 55, 56, 57, 58, 59, 60, 61, 62, 63, 64, 65, 66, 67, 68, 69, 70, 71, 72, 73, 74, 75, 76, 77, 78, 79, 80, 81, 82, 83] n (fun gk v10 v29 v30 v31 v32 v33 v34 v35 v36 v37 v38 v39 v40 v41 v42 v43 v44 v45 v46 v47 v48 v49 v50 v51 v52 v53 v54 v55 v56 v57 v58 v59 v60 v61 v62 v63 v64 v65 v66 v67 v68 v69 v70 v71 v72 v73 v74 v75 v76 v77 v78 v79 v80 v81 v82 v83 wr => ∃ i : Nat, i + gk = n ∧ v10 = .int .i64 (i : Int) ∧ AB w n g1 g2 c1 c2 (zl l n i) (zl mm n i) wr)
    case atStart => exact ⟨0, by omega, rfl, by rw [zl_zero, zl_zero]; exact HAB0.out⟩
    case round =>
      obtain ⟨i, hi, rfl, hab⟩ := hrel
      by_cases hil : i < n
      · have hb1 : decide (i < n) = true := decide_eq_true hil
        have hil1 : i < (zl l n i).length := by rw [zl_len]; exact hil
        have hil2 : i < (zl mm n i).length := by rw [zl_len]; exact hil
        have hrd1 := HI.out.1.1.below hab.low
        have hrd2 := HI.out.1.2.below hab.low
        obtain ⟨q1, q2⟩ := hab.cells i (zl_len _ _ _) hil1
        obtain ⟨q3, q4⟩ := hab.swap.cells i (zl_len _ _ _) hil2
        have hn16' := HI.out.2.2.2.1
        have hwa : wrap64 (2 * (i : Int)) = 2 * (i : Int) := wrap64_in' _ (by omega)
        have hwb : wrap64 (2 * (i : Int) + 1) = 2 * (i : Int) + 1 := wrap64_in' _ (by omega)
        have hwe : (2 * (i : Int)).toNat = 2 * i := by omega
        have hwf : (2 * (i : Int) + 1).toNat = 2 * i + 1 := by omega
        have hwc : IntKind.i64.wrap (2 * (i : Int)) = 2 * (i : Int) := by rw [IntKind.wrap_i64]; omega
        have hwd : IntKind.i64.wrap (2 * (i : Int) + 1) = 2 * (i : Int) + 1 := by rw [IntKind.wrap_i64]; omega
        generalize can .f64 (zl l n i)[i].1 = e1 at q1
        generalize can .f64 (zl l n i)[i].2 = e2 at q1
        generalize can .f64 (zl mm n i)[i].1 = e3 at q3
        generalize can .f64 (zl mm n i)[i].2 = e4 at q3
        by_cases h1 : 2 * i + 1 < l.length
        · by_cases h2 : 2 * i + 1 < mm.length
          · skip
            obtain ⟨a1, ea1, cc1⟩ := (HI.out.1.1.below hab.low).i8 (2 * i) (by omega)
            subst ea1
            obtain ⟨a1', ha1, cc2⟩ := (HI.out.1.1.below hab.low).i8 (2 * i + 1) (by omega)
            cases ha1
            change World.cell? _ ⟨a1.block, a1.off + (2 * i + 1), none⟩ = _ at cc2
            have hy1 : decide (2 * (i : Int) + 1 < (l.length : Int)) = true := decide_eq_true (by omega)
            have hv1 : (2 * (i : Int) < (l.length : Int)) := by omega
            have hu1 : (2 * (i : Int) + 1 < (l.length : Int)) := by omega
            have ht1 : (0 : Int) ≤ 2 * (i : Int) := by omega
            have hr1 : (0 : Int) ≤ 2 * (i : Int) + 1 := by omega
            have hq1 : 2 * i < l.length := by omega
            have hz1 := HI.out.2.2.2.2.1 l[2 * i] (List.getElem_mem _)
            have hw1 := HI.out.2.2.2.2.1 l[2 * i + 1] (List.getElem_mem _)
            have hs1 := hab.set1 i (zl_len _ _ _) hil1 (p21 l i)
            rw [zl_set l n i hil, p21_in l i (by omega)] at hs1
            generalize l[2 * i] = x1 at cc1 hz1 hs1
            generalize l[2 * i + 1] = y1 at cc2 hw1 hs1
            obtain ⟨Z, hZ⟩ : ∃ Z, wr.setCell ⟨g1, i, none⟩ (.complex .f64 (floatOfInt .f64 (x1.tmod 21)) (floatOfInt .f64 (y1.tmod 21))) = Z := ⟨_, rfl⟩
            have hab1 : AB w n g1 g2 c1 c2 (zl l n (i + 1)) (zl mm n i) Z := by rw [← hZ]; exact hs1
            obtain ⟨q5, q6⟩ := hab1.swap.cells i (zl_len _ _ _) hil2
            generalize can .f64 (zl mm n i)[i].1 = e5 at q5
            generalize can .f64 (zl mm n i)[i].2 = e6 at q5
            obtain ⟨a2, ea2, dd1⟩ := (HI.out.1.2.below hab1.low).i8 (2 * i) (by omega)
            subst ea2
            obtain ⟨a2', ha2, dd2⟩ := (HI.out.1.2.below hab1.low).i8 (2 * i + 1) (by omega)
            cases ha2
            change World.cell? _ ⟨a2.block, a2.off + (2 * i + 1), none⟩ = _ at dd2
            have hy2 : decide (2 * (i : Int) + 1 < (mm.length : Int)) = true := decide_eq_true (by omega)
            have hv2 : (2 * (i : Int) < (mm.length : Int)) := by omega
            have hu2 : (2 * (i : Int) + 1 < (mm.length : Int)) := by omega
            have ht2 : (0 : Int) ≤ 2 * (i : Int) := by omega
            have hr2 : (0 : Int) ≤ 2 * (i : Int) + 1 := by omega
            have hq2 : 2 * i < mm.length := by omega
            have hz2 := HI.out.2.2.2.2.2 mm[2 * i] (List.getElem_mem _)
            have hw2 := HI.out.2.2.2.2.2 mm[2 * i + 1] (List.getElem_mem _)
            have hs2 := hab1.set2 i (zl_len _ _ _) hil2 (p21 mm i)
            rw [zl_set mm n i hil, p21_in mm i (by omega)] at hs2
            generalize mm[2 * i] = x2 at dd1 hz2 hs2
            generalize mm[2 * i + 1] = y2 at dd2 hw2 hs2
            have HZ := Lib.hid hZ
            have HS := Lib.hid hs2
            clear hab hs1 hab1 hZ hs2 hrd1 hrd2 q3 q4
            go_upto_region 7 with fail
            go_region_with (fail)
            all_goals (
              rw [HZ.out]
              go_upto_region 9 with fail
              go_region_with (fail)
              all_goals (
                go_wp2_with fail
                go_roundg (gk - 1)
                case measure => omega
                case rel => exact ⟨i + 1, by omega, by go_num, HS.out.rest (by first | exact Below.refl _ _ | exact (Below.refl _ _).drew | exact (Below.refl _ _).drew.drew)⟩))
          · skip
            obtain ⟨a1, ea1, cc1⟩ := (HI.out.1.1.below hab.low).i8 (2 * i) (by omega)
            subst ea1
            obtain ⟨a1', ha1, cc2⟩ := (HI.out.1.1.below hab.low).i8 (2 * i + 1) (by omega)
            cases ha1
            change World.cell? _ ⟨a1.block, a1.off + (2 * i + 1), none⟩ = _ at cc2
            have hy1 : decide (2 * (i : Int) + 1 < (l.length : Int)) = true := decide_eq_true (by omega)
            have hv1 : (2 * (i : Int) < (l.length : Int)) := by omega
            have hu1 : (2 * (i : Int) + 1 < (l.length : Int)) := by omega
            have ht1 : (0 : Int) ≤ 2 * (i : Int) := by omega
            have hr1 : (0 : Int) ≤ 2 * (i : Int) + 1 := by omega
            have hq1 : 2 * i < l.length := by omega
            have hz1 := HI.out.2.2.2.2.1 l[2 * i] (List.getElem_mem _)
            have hw1 := HI.out.2.2.2.2.1 l[2 * i + 1] (List.getElem_mem _)
            have hy2 : decide (2 * (i : Int) + 1 < (mm.length : Int)) = false := decide_eq_false (by omega)
            have hp2 := p21_out mm i (by omega)
            have hs1 := hab.set1 i (zl_len _ _ _) hil1 (p21 l i)
            rw [zl_set l n i hil, p21_in l i (by omega), ← zl_same mm n i hp2] at hs1
            generalize l[2 * i] = x1 at cc1 hz1 hs1
            generalize l[2 * i + 1] = y1 at cc2 hw1 hs1
            have HS := Lib.hid hs1
            clear hab hs1 hrd1 hrd2 hp2 q3 q4
            go_upto_region 7 with fail
            go_region_with (fail)
            all_goals (
              go_wp2_with fail
              go_roundg (gk - 1)
              case measure => omega
              case rel => exact ⟨i + 1, by omega, by go_num, HS.out.rest (by first | exact Below.refl _ _ | exact (Below.refl _ _).drew | exact (Below.refl _ _).drew.drew)⟩)
        · by_cases h2 : 2 * i + 1 < mm.length
          · skip
            have hy1 : decide (2 * (i : Int) + 1 < (l.length : Int)) = false := decide_eq_false (by omega)
            have hp1 := p21_out l i (by omega)
            obtain ⟨a2, ea2, dd1⟩ := (HI.out.1.2.below hab.low).i8 (2 * i) (by omega)
            subst ea2
            obtain ⟨a2', ha2, dd2⟩ := (HI.out.1.2.below hab.low).i8 (2 * i + 1) (by omega)
            cases ha2
            change World.cell? _ ⟨a2.block, a2.off + (2 * i + 1), none⟩ = _ at dd2
            have hy2 : decide (2 * (i : Int) + 1 < (mm.length : Int)) = true := decide_eq_true (by omega)
            have hv2 : (2 * (i : Int) < (mm.length : Int)) := by omega
            have hu2 : (2 * (i : Int) + 1 < (mm.length : Int)) := by omega
            have ht2 : (0 : Int) ≤ 2 * (i : Int) := by omega
            have hr2 : (0 : Int) ≤ 2 * (i : Int) + 1 := by omega
            have hq2 : 2 * i < mm.length := by omega
            have hz2 := HI.out.2.2.2.2.2 mm[2 * i] (List.getElem_mem _)
            have hw2 := HI.out.2.2.2.2.2 mm[2 * i + 1] (List.getElem_mem _)
            have hs1 := hab.set2 i (zl_len _ _ _) hil2 (p21 mm i)
            rw [zl_set mm n i hil, p21_in mm i (by omega), ← zl_same l n i hp1] at hs1
            generalize mm[2 * i] = x2 at dd1 hz2 hs1
            generalize mm[2 * i + 1] = y2 at dd2 hw2 hs1
            have HS := Lib.hid hs1
            clear hab hs1 hrd1 hrd2 hp1 q1 q2
            go_upto_region 9 with fail
            go_region_with (fail)
            all_goals (
              go_wp2_with fail
              go_roundg (gk - 1)
              case measure => omega
              case rel => exact ⟨i + 1, by omega, by go_num, HS.out.rest (by first | exact Below.refl _ _ | exact (Below.refl _ _).drew | exact (Below.refl _ _).drew.drew)⟩)
          · skip
            have hy1 : decide (2 * (i : Int) + 1 < (l.length : Int)) = false := decide_eq_false (by omega)
            have hp1 := p21_out l i (by omega)
            have hy2 : decide (2 * (i : Int) + 1 < (mm.length : Int)) = false := decide_eq_false (by omega)
            have hp2 := p21_out mm i (by omega)
            have hs1 : AB w n g1 g2 c1 c2 (zl l n (i + 1)) (zl mm n (i + 1)) wr := by rw [zl_same mm n i hp2, zl_same l n i hp1]; exact hab
            have HS := Lib.hid hs1
            clear hab hs1 hrd1 hrd2 hp1 hp2 q1 q2 q3 q4
            go_wp2_with fail
            go_roundg (gk - 1)
            case measure => omega
            case rel => exact ⟨i + 1, by omega, by go_num, HS.out.rest (by first | exact Below.refl _ _ | exact (Below.refl _ _).drew | exact (Below.refl _ _).drew.drew)⟩
      · have hb1 : decide (i < n) = false := decide_eq_false hil
        obtain rfl : i = n := by omega
        have hm2 := HI.out.2.1
        have hn := HI.out.2.2.1
        have h16 := HI.out.2.2.2.1
        have hla : (zl l i i).length = 4 ^ m := by rw [zl_len, hn]
        have hlb : (zl mm i i).length = 4 ^ m := by rw [zl_len, hn]
        obtain ⟨cs, hcl, hgc, htr, hinv⟩ := conv_list m hm2 (zl l i i) (zl mm i i) hla hlb 20 (zl_gb l i i) (zl_gb mm i i)
        have hgc' : ∀ z ∈ cs, gb 12800 z := fun z hz => ⟨Nat.le_trans (hgc z hz).1 (by rw [hn]; omega), Nat.le_trans (hgc z hz).2 (by rw [hn]; omega)⟩
        have hinv2 := hinv
        rw [prods_comm] at hinv2
        have hv1 := fun w' A B c1 c2 (hA : Rd (encG .f64) 1 w' A (zl l i i)) (hB : Rd (encG .f64) 1 w' B (zl mm i i)) => convolve_calls (zl l i i) (zl mm i i) cs m hm2 hla hlb (zl_gb l i i) (zl_gb mm i i) hcl hgc' hinv A B c1 c2 w' hA hB
        have hv2 := fun w' A B c1 c2 (hA : Rd (encG .f64) 1 w' A (zl mm i i)) (hB : Rd (encG .f64) 1 w' B (zl l i i)) => convolve_calls (zl mm i i) (zl l i i) cs m hm2 hlb hla (zl_gb mm i i) (zl_gb l i i) hcl hgc' hinv2 A B c1 c2 w' hA hB
        have ht1 := fun w' A c1 (hA : Rd (encG .f64) 1 w' A (zl l i i)) => transform_calls false (zl l i i) m (by omega) hla 20 (by rw [hn]; omega) (by decide) (zl_gb l i i) A c1 w' hA
        have ht2 := fun w' A c1 (hA : Rd (encG .f64) 1 w' A (zl mm i i)) => transform_calls false (zl mm i i) m (by omega) hlb 20 (by rw [hn]; omega) (by decide) (zl_gb mm i i) A c1 w' hA
        have ht3 := fun w' A c1 (hA : Rd (encG .f64) 1 w' A cs) => transform_calls false cs m (by omega) hcl 12800 (by rw [hn]; omega) (by decide) hgc' A c1 w' hA
        rw [htr] at ht3
        have lta := tr_len false m (zl l i i)
        have ltb := tr_len false m (zl mm i i)
        have gta := gb_tr false m (zl l i i) 20 (zl_gb l i i)
        have gtb := gb_tr false m (zl mm i i) 20 (zl_gb mm i i)
        rw [hn] at hla hlb hcl lta ltb gta gtb
        simp only [hn] at hv1 hv2 ht1 ht2 ht3
        clear hinv hinv2 htr hgc
        generalize tr false m (zl l i i) = ta at ht1 ht3 lta gta
        generalize tr false m (zl mm i i) = tb at ht2 ht3 ltb gtb
        generalize zl l i i = za at hv1 hv2 ht1 hla hab
        generalize zl mm i i = zb at hv1 hv2 ht2 hlb hab
        have lpr : (prods ta tb).length = i := by unfold prods; simp [lta, ltb]
        have hpz : ∀ j (h1 : j < ta.length) (h2 : j < tb.length) (h3 : j < (prods ta tb).length), (prods ta tb)[j] = gmul ta[j] tb[j] := fun j h1 h2 h3 => by simp [prods]
        generalize prods ta tb = pr at ht3 lpr hpz
        have HV1 := Lib.hid hv1
        have HV2 := Lib.hid hv2
        have HT1 := Lib.hid ht1
        have HT2 := Lib.hid ht2
        have HT3 := Lib.hid ht3
        obtain ⟨A1, k1, e1, hr1⟩ := hab.o1.rd lenG
        obtain ⟨A2, k2, e2, hr2⟩ := hab.o2.rd lenG
        obtain ⟨rfl, hx1, rfl⟩ := Value.slice.inj e1
        obtain ⟨rfl, hx2, rfl⟩ := Value.slice.inj e2
        have HL := Lib.hid (And.intro hcl (And.intro lta (And.intro ltb (And.intro lpr (And.intro hpz (And.intro gta (And.intro gtb h16)))))))
        have HR := Lib.hid (And.intro hr1 (And.intro hr2 hab.low))
        clear hv1 hv2 ht1 ht2 ht3 hcl lta ltb lpr hpz gta gtb hr1 hr2 e1 e2 hx1 hx2 hab hla hlb hm2 hn h16 hgc' hi hil
        go_upto_region 10 with fail
        go_wp2_with fail
        (with_reducible refine (HV1.out wr _ _ _ _ HR.out.1 HR.out.2.1).mono ?_); rintro e w1 ⟨v1, rfl, hown1, hb1⟩
        obtain ⟨A3, k3, rfl, hr3⟩ := hown1.rd lenG
        rw [HL.out.1]
        have H1 := Lib.hid (And.intro (HR.out.1.below hb1) (And.intro (HR.out.2.1.below hb1) (And.intro hr3 (HR.out.2.2.trans (hb1.mono HR.out.2.2.size)))))
        clear hown1 hb1 hr3
        go_wp2_with fail
        (with_reducible refine (HV2.out w1 _ _ _ _ H1.out.2.1 H1.out.1).mono ?_); rintro e w2 ⟨v2, rfl, hown2, hb2⟩
        obtain ⟨A4, k4, rfl, hr4⟩ := hown2.rd lenG
        rw [HL.out.1]
        have hsm := same_calls cs A3 A4 k3 k4 w2 (H1.out.2.2.1.below hb2) hr4
        rw [HL.out.1] at hsm
        have HSM := Lib.hid hsm
        have H2 := Lib.hid (And.intro (H1.out.1.below hb2) (And.intro (H1.out.2.1.below hb2) (And.intro (H1.out.2.2.1.below hb2) (H1.out.2.2.2.trans (hb2.mono H1.out.2.2.2.size)))))
        clear hown2 hb2 hr4 hsm
        go_wp2_with fail
        (with_reducible refine (HSM.out).mono ?_); rintro e w3 ⟨rfl, hb3⟩
        have H3 := Lib.hid (And.intro (H2.out.1.below hb3) (And.intro (H2.out.2.1.below hb3) (And.intro (H2.out.2.2.1.below hb3) (H2.out.2.2.2.trans (hb3.mono H2.out.2.2.2.size)))))
        clear hb3
        go_wp2_with fail
        (with_reducible refine (HT1.out w3 _ _ H3.out.1).mono ?_); rintro e w4 ⟨v4, rfl, hown4, hb4⟩
        obtain ⟨A5, k5, rfl, hr5⟩ := hown4.rd lenG
        rw [HL.out.2.1]
        have H4 := Lib.hid (And.intro hr5 (And.intro (H3.out.2.1.below hb4) (And.intro (H3.out.2.2.1.below hb4) (H3.out.2.2.2.trans (hb4.mono H3.out.2.2.2.size)))))
        clear hown4 hb4 hr5
        go_wp2_with fail
        (with_reducible refine (HT2.out w4 _ _ H4.out.2.1).mono ?_); rintro e w5 ⟨v5, rfl, hown5, hb5⟩
        obtain ⟨A6, k6, rfl, hr6⟩ := hown5.rd lenG
        rw [HL.out.2.2.1]
        have H5 := Lib.hid (And.intro (H4.out.1.below hb5) (And.intro hr6 (And.intro (H4.out.2.2.1.below hb5) (H4.out.2.2.2.trans (hb5.mono H4.out.2.2.2.size)))))
        clear hown5 hb5 hr6
        go_wp2_with fail
        (with_reducible refine (HT3.out w5 _ _ H5.out.2.2.1).mono ?_); rintro e w6 ⟨v6, rfl, hown6, hb6⟩
        obtain ⟨A7, k7, rfl, hr7⟩ := hown6.rd lenG
        rw [HL.out.2.2.2.1]
        have H6 := Lib.hid (And.intro (H5.out.1.below hb6) (And.intro (H5.out.2.1.below hb6) (And.intro hr7 (H5.out.2.2.2.trans (hb6.mono H5.out.2.2.2.size)))))
        clear hown6 hb6 hr7
        go_wp2_with fail
        go_loopg [19, 157, 158, 159, 160, 161, 162, 163, 164, 165, 166, 167, 168, 169, 170, 171, 172, 173, 174, 175] i (fun gk v19 v157 v158 v159 v160 v161 v162 v163 v164 v165 v166 v167 v168 v169 v170 v171 v172 v173 v174 v175 wx => ∃ j : Nat, j + gk = i ∧ v19 = .int .i64 (j : Int) ∧ Below w6.heap.size w6 wx)
        case atStart => exact ⟨0, by omega, rfl, Below.refl _ _⟩
        case round =>
          obtain ⟨j, hj, rfl, hbx⟩ := hrel
          by_cases hji : j < i
          · have hb3 : decide (j < i) = true := decide_eq_true hji
            have j1 : j < ta.length := by rw [HL.out.2.1]; exact hji
            have j2 : j < tb.length := by rw [HL.out.2.2.1]; exact hji
            have j3 : j < pr.length := by rw [HL.out.2.2.2.1]; exact hji
            obtain ⟨a5, rfl, q5⟩ := (H6.out.1.below hbx).g j j1
            obtain ⟨a6, rfl, q6⟩ := (H6.out.2.1.below hbx).g j j2
            obtain ⟨a7, rfl, q7⟩ := (H6.out.2.2.1.below hbx).g j j3
            rw [HL.out.2.2.2.2.1 j j1 j2 j3] at q7
            have g5 : gb 320 ta[j] := by have := HL.out.2.2.2.2.2.1 ta[j] (List.getElem_mem j1); have h16 := HL.out.2.2.2.2.2.2.2; exact ⟨Nat.le_trans this.1 (by omega), Nat.le_trans this.2 (by omega)⟩
            have g6 : gb 320 tb[j] := by have := HL.out.2.2.2.2.2.2.1 tb[j] (List.getElem_mem j2); have h16 := HL.out.2.2.2.2.2.2.2; exact ⟨Nat.le_trans this.1 (by omega), Nat.le_trans this.2 (by omega)⟩
            generalize ta[j] = x at q5 q7 g5
            generalize tb[j] = y at q6 q7 g6
            have htm := fun w' => times_calls x y 320 g5 g6 (by decide) w'
            have gxy := gb_gmul g5 g6
            have ho1 := ord_same (can_fc .f64 (gmul x y).1) (can_fc .f64 (gmul x y).1) (by have := gxy.1; unfold small; omega)
            have ho2 := ord_same (can_fc .f64 (gmul x y).2) (can_fc .f64 (gmul x y).2) (by have := gxy.2; unfold small; omega)
            generalize can .f64 (gmul x y).1 = b1 at q7 htm ho1
            generalize can .f64 (gmul x y).2 = b2 at q7 htm ho2
            generalize can .f64 x.1 = b3 at q5 htm
            generalize can .f64 x.2 = b4 at q5 htm
            generalize can .f64 y.1 = b5 at q6 htm
            generalize can .f64 y.2 = b6 at q6 htm
            have HTM := Lib.hid htm
            have hd : Below w6.heap.size w6 wr.drew := hbx.drew
            have HD := Lib.hid hd
            have HQ := Lib.hid (And.intro (show wr.drew.cell? (a5.add j) = some (.complex .f64 b3 b4) from q5) (And.intro (show wr.drew.cell? (a6.add j) = some (.complex .f64 b5 b6) from q6) (show wr.drew.cell? (a7.add j) = some (.complex .f64 b1 b2) from q7)))
            clear htm gxy g5 g6 hbx hd
            go_upto_region 22 with fail
            go_region_held3 (fun w' => w'.cell? (a5.add j) = some (.complex .f64 b3 b4) ∧ w'.cell? (a6.add j) = some (.complex .f64 b5 b6) ∧ w'.cell? (a7.add j) = some (.complex .f64 b1 b2)) (with_reducible exact HQ.out) (first | (go_at_call 14; (with_reducible refine (HTM.out _).mono ?_); rintro e w9 ⟨rfl, rfl⟩))
            all_goals (
              go_wp2_with fail
              go_roundg (gk - 1)
              case measure => omega
              case rel => exact ⟨j + 1, by omega, by go_num, HD.out⟩)
          · have hb3 : decide (j < i) = false := decide_eq_false hji
            have HBX := Lib.hid hbx
            have haw := awake_calls wr
            have HAW := Lib.hid haw
            clear hbx haw
            go_wp2_with fail
            (with_reducible refine (HAW.out).mono ?_); rintro e w9 ⟨rfl, hb9⟩
            have H9 := Lib.hid hb9
            clear hb9
            go_wp2_with fail
            go_ret
            have l1 := H6.out.2.2.2
            have l2 := l1.trans (HBX.out.mono l1.size)
            exact ⟨rfl, l2.trans (H9.out.mono l2.size)⟩
end Go.Proofs.Ythccnaemocdcbaa
