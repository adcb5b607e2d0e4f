import Derived.Test.YthccnaemocdcbaaU
namespace Go.Proofs.Ythccnaemocdcbaa
open Go.RowKit Go.Maps Go.WideMaps
set_option maxHeartbeats 4000000
set_option maxRecDepth 100000
set_option linter.unusedSimpArgs false
set_option linter.unusedVariables false

theorem made_int (n : Nat) : (madeCells (Value.int .i64 0).cells (n * 1)).toList = (List.replicate n (0 : Int)).flatMap encI := by
  have := madeCells_mul #[.int .i64 0] n (by simp)
  rw [flat_rep]
  simpa [Value.cells, encI] using this

def ProdPost (o f : List Int) (code : Int) (w : World) (e : Ending) (w' : World) : Prop :=
  ∃ vo vf, e = .returned (.tuple #[vo, vf, .int .i64 code]) ∧ Own encI 1 3 w' w.heap.size vo o ∧ Own encI 1 3 w' w.heap.size vf f ∧ Below w.heap.size w w'

/-- what the loop of Product owns -/
structure PS (w : World) (R L P g1 g2 M c1 c2 : Nat) (v : List Int) (m : List En) (i : Nat) (wr : World) : Prop where
  o1 : Own encI 1 3 wr w.heap.size (.slice (some ⟨g1, 0, none⟩) R c1) (outF R v (m.take i))
  o2 : Own encI 1 3 wr w.heap.size (.slice (some ⟨g2, 0, none⟩) P c2) (fetI R L P m i)
  mb : MB wr M i (metF R L P (m.take i))
  low : Below w.heap.size w wr
  ne : g1 ≠ g2
  n1 : M ≠ g1
  n2 : M ≠ g2
  mM : w.heap.size ≤ M
theorem PS.rest {w : World} {R L P g1 g2 M c1 c2 : Nat} {v : List Int} {m : List En} {i : Nat} {wr wx : World} (h : PS w R L P g1 g2 M c1 c2 v m i wr) (hb : Below wr.heap.size wr wx) : PS w R L P g1 g2 M c1 c2 v m i wx :=
  ⟨h.o1.rest hb, h.o2.rest hb, by obtain ⟨D, hD, hf⟩ := h.mb; exact ⟨D, by obtain ⟨es, clock, q1, q2⟩ := hD; exact ⟨es, clock, (hb.block M h.mb.lt).trans q1, q2⟩, hf⟩, h.low.trans (hb.mono h.low.size), h.ne, h.n1, h.n2, h.mM⟩
/-- the elements are stored, the rest is as it was -/
structure PS' (w : World) (R L P g1 g2 M c1 c2 : Nat) (v : List Int) (m : List En) (i : Nat) (wr : World) : Prop where
  o1 : Own encI 1 3 wr w.heap.size (.slice (some ⟨g1, 0, none⟩) R c1) (outF R v (m.take (i + 1)))
  o2 : Own encI 1 3 wr w.heap.size (.slice (some ⟨g2, 0, none⟩) P c2) (fetI R L P m i)
  mb : MB wr M i (metF R L P (m.take i))
  low : Below w.heap.size w wr
  ne : g1 ≠ g2
  n1 : M ≠ g1
  n2 : M ≠ g2
  mM : w.heap.size ≤ M
theorem PS'.rest {w : World} {R L P g1 g2 M c1 c2 : Nat} {v : List Int} {m : List En} {i : Nat} {wr wx : World} (h : PS' w R L P g1 g2 M c1 c2 v m i wr) (hb : Below wr.heap.size wr wx) : PS' w R L P g1 g2 M c1 c2 v m i wx :=
  ⟨h.o1.rest hb, h.o2.rest hb, by obtain ⟨D, hD, hf⟩ := h.mb; exact ⟨D, by obtain ⟨es, clock, q1, q2⟩ := hD; exact ⟨es, clock, (hb.block M h.mb.lt).trans q1, q2⟩, hf⟩, h.low.trans (hb.mono h.low.size), h.ne, h.n1, h.n2, h.mM⟩
theorem take_snoc {α : Type} (m : List α) (i : Nat) (h : i < m.length) : m.take (i + 1) = m.take i ++ [m[i]] := List.take_succ_eq_append_getElem h
theorem PS.cell1 {w : World} {R L P g1 g2 M c1 c2 : Nat} {v : List Int} {m : List En} {i : Nat} {wr : World} (h : PS w R L P g1 g2 M c1 c2 v m i wr) (r : Nat) (hr : r < R) : wr.cell? ⟨g1, r, none⟩ = some (.int .i64 ((outF R v (m.take i)).getD r 0)) ∧ wr.frozen? ⟨g1, r, none⟩ = false := by
  have hlen := outF_len R v (m.take i)
  have q1 := h.o1.cell lenI hlen r (by omega) 0 _ rfl
  rw [getD_in _ _ (by omega)]
  simpa only [Nat.mul_one, Nat.add_zero] using q1
theorem PS.out {w : World} {R L P g1 g2 M c1 c2 : Nat} {v : List Int} {m : List En} {i : Nat} {wr : World} (h : PS w R L P g1 g2 M c1 c2 v m i wr) (hi : i < m.length) (hr : (m[i]).r.toNat < R) :
    PS' w R L P g1 g2 M c1 c2 v m i (wr.setCell ⟨g1, (m[i]).r.toNat, none⟩ (.int .i64 ((outF R v (m.take i)).getD (m[i]).r.toNat 0 + (m[i]).v * v.getD (m[i]).c.toNat 0))) ∧ wr.grownBy (wr.setCell ⟨g1, (m[i]).r.toNat, none⟩ (.int .i64 ((outF R v (m.take i)).getD (m[i]).r.toNat 0 + (m[i]).v * v.getD (m[i]).c.toNat 0))) (some g1) := by
  have hlen := outF_len R v (m.take i)
  have hb := h.o1.blk g1 rfl
  have s1 := h.o1.set lenI hlen (m[i]).r.toNat (by omega) 0 (by decide) (.int .i64 ((outF R v (m.take i)).getD (m[i]).r.toNat 0 + (m[i]).v * v.getD (m[i]).c.toNat 0)) ((outF R v (m.take i)).getD (m[i]).r.toNat 0 + (m[i]).v * v.getD (m[i]).c.toNat 0) rfl
  simp only [Nat.mul_one, Nat.add_zero] at s1
  refine ⟨⟨?_, h.o2.grown s1.2 (Or.inr (fun e => h.ne (Option.some.inj (show some g2 = some g1 from e)).symm)), h.mb.kept s1.2 (fun e => h.n1 (Option.some.inj e)), h.low.grown s1.2 h.low.size (fun b hb => by cases hb; omega), h.ne, h.n1, h.n2, h.mM⟩, s1.2⟩
  rw [take_snoc m i hi, outF_snoc]
  exact s1.1
/-- a column that is known -/
theorem PS'.known {w : World} {R L P g1 g2 M c1 c2 : Nat} {v : List Int} {m : List En} {i : Nat} {wr : World} (h : PS' w R L P g1 g2 M c1 c2 v m i wr) (hi : i < m.length) (hc : 0 ≤ (m[i]).c) (hk : knownB R L P (m.take i) m[i] = true) : PS w R L P g1 g2 M c1 c2 v m (i + 1) wr := by
  refine ⟨h.o1, ?_, ?_, h.low, h.ne, h.n1, h.n2, h.mM⟩
  · rw [fetI_succ _ _ _ _ _ hi]; unfold fetS; rw [if_pos hk]; exact h.o2
  · rw [take_snoc m i hi, metF_same _ _ _ _ _ hc hk]; exact h.mb.mono (by omega)
theorem PS'.cell2 {w : World} {R L P g1 g2 M c1 c2 : Nat} {v : List Int} {m : List En} {i : Nat} {wr : World} (h : PS' w R L P g1 g2 M c1 c2 v m i wr) (k : Nat) (hk : k < P) : wr.cell? ⟨g2, k, none⟩ = some (.int .i64 ((fetI R L P m i).getD k 0)) ∧ wr.frozen? ⟨g2, k, none⟩ = false := by
  have hlen := fetI_len R L P m i
  have q1 := h.o2.cell lenI hlen k (by omega) 0 _ rfl
  rw [getD_in _ _ (by omega)]
  simpa only [Nat.mul_one, Nat.add_zero] using q1
/-- a column that is not known: the map is written, and the number of the part -/
theorem PS'.new {w : World} {R L P g1 g2 M c1 c2 : Nat} {v : List Int} {m : List En} {i : Nat} {wr wm : World} (h : PS' w R L P g1 g2 M c1 c2 v m i wr) (hi : i < m.length) (hc : 0 ≤ (m[i]).c) (hk : knownB R L P (m.take i) m[i] = false) (hp : ptF R (m[i]).r.toNat P < P)
    (hg : wr.grownBy wm (some M)) (hm : MB wm M (i + 1) (fun k' c' => metF R L P (m.take i) k' c' || (ptF R (m[i]).r.toNat P == k' && (m[i]).c.toNat == c'))) :
    (wm.cell? ⟨g2, ptF R (m[i]).r.toNat P, none⟩ = some (.int .i64 ((fetI R L P m i).getD (ptF R (m[i]).r.toNat P) 0)) ∧ wm.frozen? ⟨g2, ptF R (m[i]).r.toNat P, none⟩ = false) ∧
    PS w R L P g1 g2 M c1 c2 v m (i + 1) (wm.setCell ⟨g2, ptF R (m[i]).r.toNat P, none⟩ (.int .i64 ((fetI R L P m i).getD (ptF R (m[i]).r.toNat P) 0 + 1))) := by
  have h' : PS' w R L P g1 g2 M c1 c2 v m i wm → True := fun _ => trivial
  have o1 := h.o1.grown hg (Or.inr (fun e => h.n1 (Option.some.inj (show some g1 = some M from e)).symm))
  have o2 := h.o2.grown hg (Or.inr (fun e => h.n2 (Option.some.inj (show some g2 = some M from e)).symm))
  have low := h.low.grown hg h.low.size (fun b hb => by cases hb; exact h.mM)
  have hlen := fetI_len R L P m i
  have hb := o2.blk g2 rfl
  have q1 := o2.cell lenI hlen (ptF R (m[i]).r.toNat P) (by omega) 0 _ rfl
  have s1 := o2.set lenI hlen (ptF R (m[i]).r.toNat P) (by omega) 0 (by decide) (.int .i64 ((fetI R L P m i).getD (ptF R (m[i]).r.toNat P) 0 + 1)) ((fetI R L P m i).getD (ptF R (m[i]).r.toNat P) 0 + 1) rfl
  simp only [Nat.mul_one, Nat.add_zero] at s1 q1
  refine ⟨by rw [getD_in _ _ (by omega)]; exact q1, o1.grown s1.2 (Or.inr (fun e => h.ne (Option.some.inj (show some g1 = some g2 from e)))), ?_, ?_, low.grown s1.2 low.size (fun b hb => by cases hb; omega), h.ne, h.n1, h.n2, h.mM⟩
  · rw [fetI_succ _ _ _ _ _ hi]; unfold fetS; rw [if_neg (by rw [hk]; decide)]; exact s1.1
  · rw [take_snoc m i hi, metF_new _ _ _ _ _ hc hk]; exact hm.kept s1.2 (fun e => h.n2 (Option.some.inj e))

/-- two rows of zeros, made one behind the other -/
theorem made_two (B R P : Nat) (hR : R ≤ 1024) (hP : P ≤ 1024) (w : World) (hB : B ≤ w.heap.size) :
    ∃ W1 W2, (Instr.makeSlice 44 (.int .i64 (R : Int)) (.int .i64 (R : Int))).run Try.prog w.drew = .ok (.slice (some ⟨w.heap.size, 0, none⟩) R R) W1 ∧
      (Instr.makeSlice 44 (.int .i64 (P : Int)) (.int .i64 (P : Int))).run Try.prog W1 = .ok (.slice (some ⟨W1.heap.size, 0, none⟩) P P) W2 ∧
      Own encI 1 3 W2 B (.slice (some ⟨w.heap.size, 0, none⟩) R R) (List.replicate R 0) ∧ Own encI 1 3 W2 B (.slice (some ⟨W1.heap.size, 0, none⟩) P P) (List.replicate P 0) ∧
      Below w.heap.size w W1 ∧ Below w.heap.size w W2 ∧ w.heap.size ≠ W1.heap.size := by
  obtain ⟨i1, hi1, hz1, hs1, hb1⟩ := info_parts info3
  obtain ⟨W1, hmk1, hown1, hg1⟩ := run_makeSlice_full (P := Try.prog) (w := w.drew) B 44 3 i1 _ 1 Try.underlying44 hi1 hz1 hs1 .i64 .i64 R (by omega) (by rw [hb1]; omega) (by simp [maxLen]; omega) hB
  have hBW : B ≤ W1.heap.size := Nat.le_trans hB hg1.size
  obtain ⟨W2, hmk2, hown2, hg2⟩ := run_makeSlice_full (P := Try.prog) (w := W1) B 44 3 i1 _ 1 Try.underlying44 hi1 hz1 hs1 .i64 .i64 P (by omega) (by rw [hb1]; omega) (by simp [maxLen]; omega) hBW
  rw [made_int] at hown1 hown2
  have o1 : Own encI 1 3 W1 B (.slice (some ⟨w.heap.size, 0, none⟩) R R) (List.replicate R 0) := by
    unfold Own; rw [List.length_replicate]; exact hown1
  have o2 : Own encI 1 3 W2 B (.slice (some ⟨W1.heap.size, 0, none⟩) P P) (List.replicate P 0) := by
    unfold Own; rw [List.length_replicate]; exact hown2
  have hsz1 : w.heap.size < W1.heap.size := (o1.blk _ rfl).2.1
  have b1 : Below w.heap.size w W1 := (Below.refl w.heap.size w).drew.grown hg1 (Nat.le_refl _) (fun b hb => by cases hb)
  exact ⟨W1, W2, hmk1, hmk2, o1.grown hg2 (Or.inr (by simp [Value.ownBlock])), o2, b1, b1.grown hg2 hg1.size (fun b hb => by cases hb), by omega⟩

theorem product_ok (R P : Nat) (hR : R ≤ 1024) (hP : 1 ≤ P) (hP16 : P ≤ 16) (m : List En) (v : List Int) (hm5 : m.length ≤ 5000) (hv1 : v.length ≤ 1024) (hva : v.any (fun n => !wI 1000000 n) = false) (hma : m.any (badN R v.length) = false)
    (A V : Option Addr) (ca cv : Nat) (w : World) (hA : Rd encN 3 w A m) (hV : Rd encI 1 w V v) :
    Calls Try.prog 15 #[.int .i64 (R : Int), .slice A m.length ca, .slice V v.length cv, .int .i64 (P : Int)] w (ProdPost (outF R v m) (fetI R v.length P m m.length) 0 w) := by
  have h35 := fun w' (hb' : Below w.heap.size w w') => containsFuncI_calls (fun n => !wI 1000000 n) 36 #[] V v cv w' (hV.below hb') f36 (fun x w1 hb1 => by
    have h := out1_calls x w1
    exact h.mono (fun e w2 ⟨e1, e2⟩ => ⟨e1, e2 ▸ Below.refl _ _⟩))
  have H35 := Lib.hid h35
  have h38 := fun w' (hb' : Below w.heap.size w w') (b1 b2 : Addr) (hc1 : w'.cell? b1 = some (.int .i64 (R : Int))) (hc2 : w'.cell? b2 = some (.slice V v.length cv)) => containsFuncN_calls (badN R v.length) 39 #[.pointer (some b1), .pointer (some b2)] A m ca w' (hA.below hb') f39 (fun x w1 hb1 => by
    exact out2_calls x R V v.length cv b1 b2 w1 ((hb1.cell (World.block_lt_of_cell? _ _ hc1)).trans hc1) ((hb1.cell (World.block_lt_of_cell? _ _ hc2)).trans hc2))
  have H38 := Lib.hid h38
  rw [hva] at h35
  have hsm := hA.small
  have hsv := hV.small
  have HI := Lib.hid (And.intro hA (And.intro hV (And.intro hva hma)))
  clear h35 h38 hA hV hva hma
  go_enter Try.func15, Try.ntmps15
  obtain ⟨W0, hW0⟩ : ∃ W0, ((w.alloc (Obj.cells #[Value.int IntKind.i64 (R : Int)] 3)).alloc (Obj.cells #[Value.slice V v.length cv] 44)) = W0 := ⟨_, rfl⟩
  have hb0 : Below w.heap.size w W0 := by rw [← hW0]; exact ((Below.refl _ _).alloc (Nat.le_refl _) _).alloc (by simp) _
  have hc4 : W0.cell? ⟨w.heap.size, 0, none⟩ = some (.int .i64 (R : Int)) := by rw [← hW0]; simp
  have hc6 : W0.cell? ⟨w.heap.size + 1, 0, none⟩ = some (.slice V v.length cv) := by rw [← hW0]; simp
  have hl4 := World.block_lt_of_cell? _ _ hc4
  have hl6 := World.block_lt_of_cell? _ _ hc6
  have h1 := H35.out W0 hb0
  rw [HI.out.2.2.1] at h1
  have H1 := Lib.hid h1
  have HB0 := Lib.hid hb0
  clear h1 hb0 H35
  go_upto_region 7 with fail
  try rw [hW0]
  clear hW0
  go_upto_region 9 with ((with_reducible refine (H1.out).mono ?_); rintro e w1 ⟨rfl, hb1⟩)
  have hd4 := (hb1.cell hl4).trans hc4
  have hd6 := (hb1.cell hl6).trans hc6
  have hb01 := HB0.out.trans (hb1.mono HB0.out.size)
  have h2 := H38.out w1 hb01 _ _ hd4 hd6
  rw [HI.out.2.2.2] at h2
  have H2 := Lib.hid h2
  have hl4' := World.block_lt_of_cell? _ _ hd4
  have hl6' := World.block_lt_of_cell? _ _ hd6
  have HB1 := Lib.hid hb01
  clear hc4 hc6 hl4 hl6 hb1 hb01 h2 H38 H1 HB0
  go_upto_region 11 with ((with_reducible refine (H2.out).mono ?_); rintro e w2 ⟨rfl, hb2⟩)
  have hc4 := (hb2.cell hl4').trans hd4
  have hc6 := (hb2.cell hl6').trans hd6
  have hb02 := HB1.out.trans (hb2.mono HB1.out.size)
  have HB2 := Lib.hid hb02
  have hb02s := hb02.size
  have hl4 := World.block_lt_of_cell? _ _ hc4
  have hl6 := World.block_lt_of_cell? _ _ hc6
  clear hd4 hd6 hl4' hl6' hb2 hb02 H2 HB1
  obtain ⟨W1, W2, k1, k2, o1, o2, bb1, bb2, ne1⟩ := made_two w2.heap.size R P hR (by omega) w2 (Nat.le_refl _)
  obtain ⟨X1, X2, j1, j2, p1, p2, cc1, cc2, ne2⟩ := made_two w2.heap.size P R (by omega) hR w2 (Nat.le_refl _)
  have u4 := (bb1.cell hl4).trans hc4
  have u6 := (bb1.cell hl6).trans hc6
  have x4 := (cc1.cell hl4).trans hc4
  have x6 := (cc1.cell hl6).trans hc6
  have HQ := Lib.hid (And.intro (And.intro o1 (And.intro o2 (And.intro bb2 ne1))) (And.intro p1 (And.intro p2 (And.intro cc2 ne2))))
  have HL := Lib.hid (And.intro hl4 (And.intro hl6 (And.intro hc4 hc6)))
  clear o1 o2 bb1 bb2 ne1 p1 p2 cc1 cc2 ne2 hl4 hl6 hb02s
  go_cut [11, 12] (fun s11 s12 wx => ∃ g1 g2 c1 c2, s11 = .slice (some ⟨g1, 0, none⟩) R c1 ∧ s12 = .slice (some ⟨g2, 0, none⟩) P c2 ∧ Own encI 1 3 wx w2.heap.size (.slice (some ⟨g1, 0, none⟩) R c1) (List.replicate R 0) ∧ Own encI 1 3 wx w2.heap.size (.slice (some ⟨g2, 0, none⟩) P c2) (List.replicate P 0) ∧ Below w2.heap.size w2 wx ∧ g1 ≠ g2)
  case first =>
    go_region_with (fail)
    all_goals (
      go_wp2_with fail
      go_meet
      first
      | exact ⟨_, _, _, _, rfl, rfl, HQ.out.1⟩
      | exact ⟨_, _, _, _, rfl, rfl, HQ.out.2.2.1, HQ.out.2.1, HQ.out.2.2.2.1, HQ.out.2.2.2.2.symm⟩)
  case rest =>
    obtain ⟨g1, g2, c1, c2, rfl, rfl, hq⟩ := hcut
    have hps : PS w2 R v.length P g1 g2 wc.heap.size c1 c2 v m 0 (wc.alloc (.map #[] 0)) := by
      have hk1 := hq.1.blk g1 rfl
      have hk2 := hq.2.1.blk g2 rfl
      have hg := World.grownBy_alloc wc (.map #[] 0) none
      refine ⟨hq.1.grown hg (Or.inr (by simp [Value.ownBlock])), hq.2.1.grown hg (Or.inr (by simp [Value.ownBlock])), ?_, hq.2.2.1.alloc hq.2.2.1.size _, hq.2.2.2, by omega, by omega, hq.2.2.1.size⟩
      rw [List.take_zero, metF_nil]
      exact MB.made wc
    have HP := Lib.hid hps
    have hmm := @run_makeMap Try.prog
    clear hq hps HQ k1 k2 j1 j2 u4 u6 x4 x6 hc4 hc6
    go_wp2_with fail
    go_loopg [15, 16, 17, 55, 56, 57, 58, 59, 60, 61, 62, 63, 64, 65, 66, 67, 68, 69, 70, 71, 72, 73, 74, 75, 76, 77, 78, 79, 80, 81, 82, 83, 84, 85, 86, 87, 88, 89, 90, 91, 92, 93, 94, 95, 96, 97, 98, 99, 100, 101, 102, 103, 104, 105] m.length (fun gk v15 v16 v17 v55 v56 v57 v58 v59 v60 v61 v62 v63 v64 v65 v66 v67 v68 v69 v70 v71 v72 v73 v74 v75 v76 v77 v78 v79 v80 v81 v82 v83 v84 v85 v86 v87 v88 v89 v90 v91 v92 v93 v94 v95 v96 v97 v98 v99 v100 v101 v102 v103 v104 v105 wr => ∃ i : Nat, i + gk = m.length ∧ v55 = .int .i64 (i : Int) ∧ PS w2 R v.length P g1 g2 wc.heap.size c1 c2 v m i wr)
    case atStart => exact ⟨0, by omega, rfl, HP.out⟩
    case round =>
      obtain ⟨i, hi, rfl, hps⟩ := hrel
      clear hmm HP
      generalize wc.heap.size = M at *
      by_cases hil : i < m.length
      · have hb1 : decide (i < m.length) = true := decide_eq_true hil
        have hbw : Below w.heap.size w wr := HB2.out.trans (hps.low.mono HB2.out.size)
        obtain ⟨a, rfl, e0, e1, e2⟩ := (HI.out.1.below hbw).ent i hil
        have hfit := fit3_of R v.length m[i] (by
          have := HI.out.2.2.2
          rw [List.any_eq_false] at this
          exact Bool.eq_false_iff.2 (this _ (List.getElem_mem hil)))
        obtain ⟨hf1, hf2, hf3, hf4, hf5, hf6⟩ := hfit
        have hfit := 0
        obtain ⟨rn, hrn⟩ : ∃ rn : Nat, (m[i]).r = (rn : Int) := ⟨_, (Int.toNat_of_nonneg hf1).symm⟩
        obtain ⟨cn, hcn⟩ : ∃ cn : Nat, (m[i]).c = (cn : Int) := ⟨_, (Int.toNat_of_nonneg hf3).symm⟩
        have hrt : (m[i]).r.toNat = rn := by rw [hrn]; rfl
        have hct : (m[i]).c.toNat = cn := by rw [hcn]; rfl
        obtain ⟨W5, hW5⟩ : ∃ W5, wr.alloc (.cells #[.int .i64 (rn : Int), .int .i64 (cn : Int), .int .i64 (m[i]).v] 78) = W5 := ⟨_, rfl⟩
        have hb5 : Below wr.heap.size wr W5 := by rw [← hW5]; exact (Below.refl _ _).alloc (Nat.le_refl _) _
        have hps5 := hps.rest hb5
        have y0 : W5.cell? ⟨wr.heap.size, 0, none⟩ = some (.int .i64 (rn : Int)) := by rw [← hW5]; simp
        have y1 : W5.cell? ⟨wr.heap.size, 1, none⟩ = some (.int .i64 (cn : Int)) := by rw [← hW5]; simp
        have y2 : W5.cell? ⟨wr.heap.size, 2, none⟩ = some (.int .i64 (m[i]).v) := by rw [← hW5]; simp
        have z4 : W5.cell? ⟨w.heap.size, 0, none⟩ = some (.int .i64 (R : Int)) := (hps5.low.cell HL.out.1).trans HL.out.2.2.1
        have z6 : W5.cell? ⟨w.heap.size + 1, 0, none⟩ = some (.slice V v.length cv) := (hps5.low.cell HL.out.2.1).trans HL.out.2.2.2
        rw [hrt] at hf2
        rw [hct] at hf4
        obtain ⟨av, rfl, ev⟩ := (HI.out.2.1.below (HB2.out.trans (hps5.low.mono HB2.out.size))).int cn hf4
        obtain ⟨q1, q2⟩ := hps5.cell1 rn hf2
        have hs := hps5.out hil (by rw [hrt]; exact hf2)
        rw [hrt, hct, getD_in v cn hf4] at hs
        have hbnd := outF_bound R v.length v rfl (fun x hx => by
          have := HI.out.2.2.1
          rw [List.any_eq_false] at this
          have := this x hx
          simp [wI] at this
          exact this) (m.take i) (fun e he => fit3_of _ _ _ (by
          have := HI.out.2.2.2
          rw [List.any_eq_false] at this
          exact Bool.eq_false_iff.2 (this _ (List.mem_of_mem_take he))))
        have hrm := hps.o1.blk g1 rfl
        generalize hov : (outF R v (m.take i)).getD rn 0 = o at hs q1
        have hob : -(5000 * 1000000000000 : Int) ≤ o ∧ o ≤ 5000 * 1000000000000 := by
          have hlen := outF_len R v (m.take i)
          rw [← hov, getD_in _ _ (by omega)]
          have := hbnd _ (List.getElem_mem (show rn < (outF R v (m.take i)).length by omega))
          have h2 : (m.take i).length ≤ 5000 := by rw [List.length_take]; omega
          omega
        have hxb : -1000000 ≤ v[cn] ∧ v[cn] ≤ 1000000 := by
          have := HI.out.2.2.1
          rw [List.any_eq_false] at this
          have := this v[cn] (List.getElem_mem hf4)
          simp [wI] at this
          exact this
        have hmb := mul_bound (m[i]).v v[cn] ⟨hf5, hf6⟩ hxb
        generalize hyv : (m[i]).v = y at *
        generalize v[cn] = x at *
        generalize hyx : y * x = yx at *
        generalize hsm : o + yx = sm at *
        have w1' : wrap64 yx = yx := wrap64_fit _ (by omega)
        have w2' : wrap64 sm = sm := wrap64_fit _ (by omega)
        have w3' : IntKind.i64.wrap yx = yx := by rw [IntKind.wrap_i64]; omega
        have w4' : IntKind.i64.wrap sm = sm := by rw [IntKind.wrap_i64]; omega
        obtain ⟨Z, hZ⟩ : ∃ Z, W5.setCell ⟨g1, rn, none⟩ (.int .i64 sm) = Z := ⟨_, rfl⟩
        rw [hZ] at hs
        have t0 : Z.cell? ⟨wr.heap.size, 0, none⟩ = some (.int .i64 (rn : Int)) := hs.2.cell y0 (fun e => by have := Option.some.inj e; simp at this; omega)
        have t1 : Z.cell? ⟨wr.heap.size, 1, none⟩ = some (.int .i64 (cn : Int)) := hs.2.cell y1 (fun e => by have := Option.some.inj e; simp at this; omega)
        have t4 : Z.cell? ⟨w.heap.size, 0, none⟩ = some (.int .i64 (R : Int)) := (hs.1.low.cell HL.out.1).trans HL.out.2.2.1
        have t6 : Z.cell? ⟨w.heap.size + 1, 0, none⟩ = some (.slice (some av) v.length cv) := (hs.1.low.cell HL.out.2.1).trans HL.out.2.2.2
        have HZ := Lib.hid hZ
        have HT := Lib.hid (And.intro hs.1 (And.intro t0 (And.intro t1 (And.intro t4 t6))))
        have HF := Lib.hid (And.intro hf2 (And.intro hf4 (And.intro hrt (And.intro hct (And.intro hrn hcn)))))
        have hRi : (rn : Int) < (R : Int) := by omega
        have hVi : (cn : Int) < (v.length : Int) := by omega
        clear hps hps5 hs t0 t1 t4 t6 hbnd hmb hxb hob hov hfit hb5 hrm hbw hZ
        rw [hrn] at e0
        rw [hcn] at e1
        go_upto_region 16 with fail
        go_cut [73] (fun s73 wx => PS' w2 R v.length P g1 g2 M c1 c2 v m i wx ∧ wx.cell? ⟨wr.heap.size, 0, none⟩ = some (.int .i64 (rn : Int)) ∧ wx.cell? ⟨wr.heap.size, 1, none⟩ = some (.int .i64 (cn : Int)) ∧ wx.cell? ⟨w.heap.size, 0, none⟩ = some (.int .i64 (R : Int)) ∧ wx.cell? ⟨w.heap.size + 1, 0, none⟩ = some (.slice (some av) v.length cv))
        case first =>
          go_region
          all_goals (
            go_wp2_with fail
            go_meet
            try rw [HZ.out]
            first
            | exact HT.out
            | exact ⟨HT.out.1.rest (Below.refl _ _).drew, HT.out.2.1, HT.out.2.2.1, HT.out.2.2.2.1, HT.out.2.2.2.2⟩)
        case rest =>
          obtain ⟨hp5, t0, t1, t4, t6⟩ := hcut
          have ho := owner_calls R rn P hR HF.out.1 hP hP16 wc
          have hkP := ptF_lt R rn P HF.out.1 hP
          have ho2 := fun w' => owner_calls v.length cn P hv1 HF.out.2.1 hP hP16 w'
          have hL1 := World.block_lt_of_cell? _ _ t1
          have hL6 := World.block_lt_of_cell? _ _ t6
          generalize hk : ptF R rn P = k at ho hkP
          have hk3 : k ≤ 1000000 := by omega
          have hc3 : cn ≤ 1000000 := by omega
          have HO := Lib.hid ho
          have HO2 := Lib.hid ho2
          have HP5 := Lib.hid hp5
          have HK := Lib.hid (And.intro hk (And.intro hkP (And.intro hk3 hc3)))
          clear ho hp5 hk ho2
          go_upto_region 18 with ((with_reducible refine (HO.out).mono ?_); rintro e w8 ⟨rfl, hb8⟩)
          obtain ⟨W9, hW9⟩ : ∃ W9, w8.alloc (.cells #[.int .i64 (k : Int), .int .i64 (cn : Int)] 82) = W9 := ⟨_, rfl⟩
          have hb9 : Below w8.heap.size w8 W9 := by rw [← hW9]; exact (Below.refl _ _).alloc (Nat.le_refl _) _
          have hb59 : Below wc.heap.size wc W9 := hb8.trans (hb9.mono hb8.size)
          have hp9 := HP5.out.rest hb59
          have r8 := (hb8.cell hL1).trans t1
          have r1 := (hb59.cell hL1).trans t1
          have r6 := (hb59.cell hL6).trans t6
          have s0 : W9.cell? ⟨w8.heap.size, 0, none⟩ = some (.int .i64 (k : Int)) := by rw [← hW9]; simp
          have s1 : W9.cell? ⟨w8.heap.size, 1, none⟩ = some (.int .i64 (cn : Int)) := by rw [← hW9]; simp
          have hlook := hp9.mb.look k cn HK.out.2.2.1 HK.out.2.2.2
          have HP9 := Lib.hid hp9
          clear hp9 hb8 hb9 hb59 t0 t1 t4 t6 hL1 hL6 HP5 HO y0 y1 y2 z4 z6 e0 e1 e2 ev q1 q2 hyx hsm HT HZ w1' w2' w3' w4'
          have hkn := metF_known R v.length P (m.take i) m[i] (by omega)
          rw [HF.out.2.2.1, HF.out.2.2.2.1, HK.out.1] at hkn
          go_upto_region 19 with fail
          try rw [hW9]
          clear hW9
          by_cases hpk : ptF v.length cn P = k
          · have hm0 : metF R v.length P (m.take i) k cn = false := by unfold metF; rw [hpk]; simp
            rw [hm0] at hlook
            rw [decide_eq_true hpk, Bool.true_or] at hkn
            rw [hpk] at HO2
            have HKN := Lib.hid hkn
            clear hkn hpk hm0
            go_wp2_with ((with_reducible refine (HO2.out _).mono ?_); rintro e w10 ⟨rfl, hb10⟩)
            go_roundg (gk - 1)
            case measure => omega
            case rel => exact ⟨i + 1, by omega, by go_num, (HP9.out.known hil (by omega) HKN.out).rest hb10⟩
          · rw [decide_eq_false hpk, Bool.false_or] at hkn
            cases hm0 : metF R v.length P (m.take i) k cn with
            | true =>
              rw [hm0] at hlook hkn
              have HKN := Lib.hid hkn
              clear hkn hm0 hpk
              go_wp2_with fail
              go_roundg (gk - 1)
              case measure => omega
              case rel => exact ⟨i + 1, by omega, by go_num, HP9.out.known hil (by omega) HKN.out⟩
            | false =>
              rw [hm0] at hlook hkn
              have hpk' : (k : Int) ≠ (ptF v.length cn P : Int) := by omega
              generalize ptF v.length cn P = k2 at *
              have hd : decide ((k2 : Int) = (k : Int)) = false := decide_eq_false (by omega)
              have HKN := Lib.hid hkn
              clear hkn hm0
              have HT9 := Lib.hid (And.intro s0 s1)
              have hfb := fetI_bound R v.length P m i
              have hfl := fetI_len R v.length P m i
              go_upto_region 20 with ((with_reducible refine (HO2.out _).mono ?_); rintro e w10 ⟨rfl, hb10⟩)
              have v0 := (hb10.cell (World.block_lt_of_cell? _ _ HT9.out.1)).trans HT9.out.1
              have v1 := (hb10.cell (World.block_lt_of_cell? _ _ HT9.out.2)).trans HT9.out.2
              have hp10 := HP9.out.rest hb10
              obtain ⟨wm, hturn, hmbm, hgm⟩ := hp10.mb.turn (by omega) k cn HK.out.2.2.1 HK.out.2.2.2
              have hnew := hp10.new hil (by omega) HKN.out (by rw [HF.out.2.2.1, HK.out.1]; exact HK.out.2.1) hgm (by rw [HF.out.2.2.1, HF.out.2.2.2.1, HK.out.1]; exact hmbm)
              rw [HF.out.2.2.1, HK.out.1] at hnew
              obtain ⟨⟨n1, n2⟩, hps1⟩ := hnew
              generalize hfv : (fetI R v.length P m i).getD k 0 = fv at n1 hps1
              have hfb2 : 0 ≤ fv ∧ fv ≤ (i : Int) := by
                have hk4 : k < (fetI R v.length P m i).length := by rw [hfl]; exact HK.out.2.1
                rw [← hfv, getD_in _ _ hk4]
                exact hfb _ (List.getElem_mem hk4)
              have hw1 : wrap64 (fv + 1) = fv + 1 := wrap64_fit _ (by omega)
              have hkP := HK.out.2.1
              have HPS := Lib.hid hps1
              clear hps1 hp10 hmbm hgm hfv hfb hfl hlook s0 s1 r1 r6 r8 hb10
              go_wp2_with fail
              go_roundg (gk - 1)
              case measure => omega
              case rel => exact ⟨i + 1, by omega, by go_num, HPS.out⟩
      · have hb1 : decide (i < m.length) = false := decide_eq_false hil
        have him : i = m.length := by omega
        have hlow := HB2.out.trans (hps.low.mono HB2.out.size)
        have o1 := hps.o1.base HB2.out.size
        have o2 := hps.o2.base HB2.out.size
        rw [him, List.take_length] at o1
        rw [him] at o2
        have HE := Lib.hid (And.intro o1 (And.intro o2 hlow))
        clear hps o1 o2 hlow
        subst him
        go_wp2_with fail
        refine bodyPost_ret (by simp [results, Try.results15, go_sem]; try rfl) rfl ?_
        exact ⟨_, _, rfl, HE.out.1, HE.out.2.1, HE.out.2.2⟩
end Go.Proofs.Ythccnaemocdcbaa
