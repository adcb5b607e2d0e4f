import Derived.Test.YthebembnlmddoaaBN
namespace Go.Proofs.Ythebembnlmddoaa
open Go.RowKit
set_option maxHeartbeats 8000000
set_option maxRecDepth 100000
set_option linter.unusedSimpArgs false
set_option linter.unusedVariables false

theorem clocksR_chk (l : List Ev) (hk0 : chkF l ≠ 0) (A : Option Addr) (c : Nat) (w : World) (hA : Rd encE 11 w A l) :
    Calls Try.prog 17 #[.slice A l.length c] w (ErPost (chkF l) w) := by
  have hck := checkR_calls l A c w hA
  have hsm := hA.small
  have hkc : (chkF l != 0) = true := by simp [hk0]
  generalize chkF l = m at *
  have HC := Lib.hid hck
  clear hA hk0 hck
  go_enter Try.func17, Try.ntmps17
  go_upto_region 1 with fail
  go_wp2_with fail
  (with_reducible refine (HC.out).mono ?_); rintro e w2 ⟨rfl, hb2⟩
  have H2 := Lib.hid hb2
  clear hb2
  go_wp2_with fail
  go_ret2
  exact ⟨rfl, H2.out⟩
theorem tkF_acts (l : List Ev) (i : Nat) (hi : i < l.length) : tkF (l.take (i + 1)) = if acB l (evA l i).t 0 i = true then tkF (l.take i) else tkF (l.take i) ++ [(evA l i).t] := by
  rw [take_snoc l i hi, tkF_snoc, evA_eq l i hi]
  have hm : acB l (l[i]).t 0 i = true ↔ (l[i]).t ∈ tkF (l.take i) := by
    rw [acB_iff, tkF_mem]
    constructor
    · rintro ⟨q, _, hq, he⟩
      rw [evA_eq l q (by omega)] at he
      exact ⟨l[q], by rw [List.mem_iff_getElem]; exact ⟨q, by simp; omega, by simp⟩, he⟩
    · rintro ⟨e, he, ht⟩
      obtain ⟨q, hq, rfl⟩ := List.mem_iff_getElem.1 he
      simp at hq ht
      exact ⟨q, Nat.zero_le _, by omega, by rw [evA_eq l q (by omega)]; exact ht⟩
  unfold tkS
  by_cases h : (l[i]).t ∈ tkF (l.take i)
  · rw [if_pos h, if_pos (hm.2 h)]
  · rw [if_neg h, if_neg (fun x => h (hm.1 x))]
/-! ### the row of counts as it fills -/
def rwC (l : List Ev) (j i k : Nat) : List Int := (List.range (tkF l).length).map fun x => (rk l j (if x < k then i + 1 else i) ((tkF l).getD x 0) : Int)
theorem rwC_len (l : List Ev) (j i k : Nat) : (rwC l j i k).length = (tkF l).length := by simp [rwC]
theorem rwC_at (l : List Ev) (j i k x : Nat) (h : x < (rwC l j i k).length) : (rwC l j i k)[x] = (rk l j (if x < k then i + 1 else i) ((tkF l).getD x 0) : Int) := by simp [rwC]
theorem rwC_zero (l : List Ev) (j : Nat) : rwC l j 0 0 = List.replicate (tkF l).length 0 := by
  apply List.ext_getElem
  · simp [rwC]
  · intro x h1 h2; rw [rwC_at]; simp [rk]
theorem rwC_next (l : List Ev) (j i : Nat) : rwC l j i (tkF l).length = rwC l j (i + 1) 0 := by
  apply List.ext_getElem
  · simp [rwC]
  · intro x h1 h2
    rw [rwC_len] at h1
    rw [rwC_at, rwC_at, if_pos h1, if_neg (by omega)]
theorem rwC_skip (l : List Ev) (j i : Nat) (h : (decide (i = j) || bfB l i j) = false) : rwC l j i 0 = rwC l j (i + 1) 0 := by
  apply List.ext_getElem
  · simp [rwC]
  · intro x h1 h2
    rw [rwC_at, rwC_at, if_neg (by omega), if_neg (by omega), rk_succ]
    have : rankB l j ((tkF l).getD x 0) i = false := by unfold rankB; rw [h]; rfl
    rw [this]; simp
theorem rwC_set (l : List Ev) (j i k : Nat) (hk : k < (tkF l).length) (h : (decide (i = j) || bfB l i j) = true) (ht : (tkF l).getD k 0 = (evA l i).t) : (rwC l j i k).set k ((rk l j i ((tkF l).getD k 0) : Int) + 1) = rwC l j i (k + 1) := by
  apply List.ext_getElem
  · simp [rwC]
  · intro x h1 h2
    rw [List.getElem_set, rwC_at, rwC_at]
    by_cases e : k = x
    · subst e
      rw [if_pos rfl, if_pos (by omega), rk_succ]
      have : rankB l j ((tkF l).getD k 0) i = true := by unfold rankB; rw [h, ht]; simp
      rw [this]; simp
    · rw [if_neg e]
      by_cases e2 : x < k
      · rw [if_pos e2, if_pos (by omega)]
      · rw [if_neg e2, if_neg (by omega)]
theorem rwC_keep (l : List Ev) (j i k : Nat) (hk : k < (tkF l).length) (ht : (tkF l).getD k 0 ≠ (evA l i).t) : rwC l j i k = rwC l j i (k + 1) := by
  apply List.ext_getElem
  · simp [rwC]
  · intro x h1 h2
    rw [rwC_at, rwC_at]
    by_cases e : k = x
    · subst e
      rw [if_neg (by omega), if_pos (by omega), rk_succ]
      have : rankB l j ((tkF l).getD k 0) i = false := by unfold rankB; rw [decide_eq_false (Ne.symm ht), Bool.and_false]
      rw [this]; simp
    · by_cases e2 : x < k
      · rw [if_pos e2, if_pos (by omega)]
      · rw [if_neg e2, if_neg (by omega)]
/-- full, it is the row of the clock -/
theorem rwC_clk (l : List Ev) (hr : rtB l = true) (j : Nat) (hj : j < l.length) (x : Nat) (hx : x < (tkF l).length) : (rwC l j (j + 1) 0)[x]'(by rw [rwC_len]; exact hx) = clkN l j x := by
  rw [rwC_at, if_neg (by omega)]
  have h1 : (tkF l).getD x 0 = (tkF l)[x] := by rw [List.getD_eq_getElem?_getD, List.getElem?_eq_getElem hx]; rfl
  rw [h1, rk_clk l hr j hj _ (List.getElem_mem hx), (tkF_nodup l).idxOf_getElem x hx]
/-- row q of the reference's clocks -/
def RowC (w : World) (B : Nat) (l : List Ev) (q : Nat) (r : Nat × Nat) : Prop := r.1 < B ∧ (∃ cur, w.heap[r.1]? = some (.cells cur 3 (0, 0))) ∧ ∀ x, x < (tkF l).length → w.cell? ⟨r.1, x, none⟩ = some (.int .i64 (clkN l q x))
theorem RowC.below {w w' : World} {B : Nat} {l : List Ev} {q : Nat} {v : Nat × Nat} (h : RowC w B l q v) (hb : Below B w w') : RowC w' B l q v := by
  obtain ⟨h2, h3, h4⟩ := h
  exact ⟨h2, by rw [hb.block _ h2]; exact h3, fun x hx => (hb.cell (p := ⟨v.1, x, none⟩) h2).trans (h4 x hx)⟩
theorem RowC.mono {w : World} {B B' : Nat} {l : List Ev} {q : Nat} {v : Nat × Nat} (h : RowC w B l q v) (hB : B ≤ B') : RowC w B' l q v := by
  obtain ⟨h2, h3, h4⟩ := h
  exact ⟨by omega, h3, h4⟩
theorem RowC.beside {w w' : World} {B base n : Nat} {l : List Ev} {q : Nat} {v : Nat × Nat} {u : Value} {vs : List (Nat × Nat)} (h : RowC w B l q v) (hB : B ≤ w.heap.size) (ho : Own (encS n) 1 33 w base u vs) (hg : w.grownBy w' u.ownBlock) : RowC w' B l q v := by
  obtain ⟨h2, ⟨cur, h3⟩, h4⟩ := h
  have hne := own_apart ho h3 (by decide)
  have hb := hg.block v.1 (Nat.lt_of_lt_of_le h2 hB) hne
  exact ⟨h2, ⟨cur, hb.trans h3⟩, fun x hx => (World.cell?_of_block (a := ⟨v.1, x, none⟩) hb).trans (h4 x hx)⟩
theorem clocksR_calls (l : List Ev) (hk0 : chkF l = 0) (A : Option Addr) (c : Nat) (w : World) (hA : Rd encE 11 w A l) :
    Calls Try.prog 17 #[.slice A l.length c] w fun e w' => ∃ S cS, e = .returned (.tuple #[.slice S (ckL l).length cS, .int .i64 0]) ∧ RwN w' S (ckL l) ∧ Below w.heap.size w w' := by
  have hsm := hA.small
  have hz := chk_zero l hk0
  have hck := checkR_calls l A c w hA
  rw [hk0] at hck
  have HC := Lib.hid hck
  have HR := Lib.hid (And.intro hA hz)
  clear hA hz hk0 hck
  go_enter Try.func17, Try.ntmps17
  go_upto_region 1 with fail
  go_wp2_with fail
  (with_reducible refine (HC.out).mono ?_); rintro e w2 ⟨rfl, hb2⟩
  obtain ⟨W3, hW3⟩ : ∃ W3, w2.alloc (.cells #[] 3) = W3 := ⟨_, rfl⟩
  have hb3 : Below w2.heap.size w2 W3 := by rw [← hW3]; exact (Below.refl _ _).alloc (Nat.le_refl _) _
  have ho3 := Own.empty encI 1 3 w2 w2.heap.size (Nat.le_refl _)
  rw [hW3] at ho3
  have HW3 := Lib.hid hW3
  have H3 := Lib.hid (And.intro hb2 (And.intro hb3 ho3))
  clear hb2 hb3 ho3 hW3
  go_upto_region 5 with fail
  rw [HW3.out]
  go_upto_region 6 with fail
  go_loopg [5, 6, 19, 20, 21, 22, 23, 24, 25, 26, 27, 28, 29, 30, 31, 32, 33, 34, 35, 36, 37, 38, 39, 40, 41, 42, 43] l.length (fun gk v5 v6 v19 v20 v21 v22 v23 v24 v25 v26 v27 v28 v29 v30 v31 v32 v33 v34 v35 v36 v37 v38 v39 v40 v41 v42 v43 wr => ∃ (i : Nat) (S1 : Option Addr) (c1 : Nat), i + gk = l.length ∧ v6 = .int .i64 (i : Int) ∧ v5 = .slice S1 (tkF (l.take i)).length c1 ∧ Own encI 1 3 wr w2.heap.size (.slice S1 (tkF (l.take i)).length c1) (tkF (l.take i)) ∧ Below w2.heap.size w2 wr)
  case atStart => exact ⟨0, some ⟨w2.heap.size, 0, none⟩, 0, by omega, rfl, rfl, H3.out.2.2, H3.out.2.1⟩
  case round =>
    obtain ⟨i, S1, c1, hi, rfl, rfl, hown, hbl⟩ := hrel
    obtain ⟨wq, hwq⟩ : ∃ wq, wq = wr := ⟨_, rfl⟩
    subst hwq
    have hlw : Below w.heap.size w wq := H3.out.1.trans (hbl.mono H3.out.1.size)
    by_cases hil : i < l.length
    · have hd : decide (i < l.length) = true := decide_eq_true hil
      cases A with
      | none =>
        exfalso
        obtain ⟨a, ha, _⟩ := HR.out.1.cell i hil
        cases ha
      | some a =>
      have hAq := HR.out.1.below hlw
      obtain ⟨p0, p1, p2, p3, p4, p5, p6, p7, p8, p9, p10⟩ := ev_eleven (ev_cells hAq i hil)
      rw [← evA_eq l i hil] at p1
      clear p0 p2 p3 p4 p5 p6 p7 p8 p9 p10
      have hii : (i : Int) < (l.length : Int) := by omega
      have htk := tkF_acts l i hil
      have hac := acts_calls l (evA l i).t 0 i (Nat.zero_le _) (by omega) (some a) c wq hAq
      rw [show ((0 : Nat) : Int) = 0 from rfl] at hac
      have htl := tkF_len (l.take i)
      rw [List.length_take] at htl
      generalize (evA l i).t = t at *
      have HX := Lib.hid (And.intro hac (And.intro hown (And.intro hbl (And.intro htk htl))))
      clear hac hown hbl htk hlw htl hAq
      cases hb : acB l t 0 i with
      | true =>
        have HB := Lib.hid hb
        clear hb
        go_wp2_with ((with_reducible refine (HX.out.1).mono ?_); rintro e w5 ⟨rfl, rfl⟩; rw [HB.out])
        go_roundg (gk - 1)
        case measure => omega
        case rel =>
          have h9 := HX.out.2.2.2.1
          rw [HB.out, if_pos rfl] at h9
          refine ⟨i + 1, S1, c1, by omega, by go_num, by rw [h9], ?_, HX.out.2.2.1⟩
          rw [h9]; exact HX.out.2.1
      | false =>
        have HB := Lib.hid hb
        have hb10 : Below wq.heap.size wq (wq.alloc (.cells #[.int .i64 t] 3)) := (Below.refl _ _).alloc (Nat.le_refl _) _
        have hszq : w2.heap.size ≤ wq.heap.size := HX.out.2.2.1.size
        have hbd := HR.out.2.1
        have HY := Lib.hid (And.intro (HX.out.2.1.rest hb10) (And.intro (HX.out.2.2.1.trans (hb10.mono hszq)) (And.intro (show ((tkF (l.take i)).length + 1) * 8 ≤ 140737488355328 by have := HX.out.2.2.2.2; omega) (Nat.le_trans hszq hb10.size))))
        clear hb hb10 hszq hbd
        go_wp2_with (first | ((with_reducible refine (HX.out.1).mono ?_); rintro e w5 ⟨rfl, rfl⟩; rw [HB.out]) | (at_builtin; go_must (refine wpList_append_told lenI oneI _ rfl (.tmp 35) (.tmp 42) 33 rfl w2.heap.size 3 _ 8 Try.underlying33 info3 rfl (by decide) (by decide) (.slice S1 (tkF (l.take i)).length c1) (tkF (l.take i)) (tkF (l.take i)).length rfl rfl HY.out.1 ⟨w5.heap.size, 0, none⟩ 1 1 [t] rfl rfl (by decide) (rd_one encI 1 _ t 3 _ rfl _ rfl) HY.out.2.2.1 HY.out.2.2.2 ?_); intro g1 cap1 w10 hown10 hgr10 hl10; have HG := Lib.hid (And.intro hown10 hgr10); clear hown10 hgr10 hl10))
        go_roundg (gk - 1)
        case measure => omega
        case rel =>
          have h9 := HX.out.2.2.2.1
          rw [HB.out, if_neg (by simp)] at h9
          refine ⟨i + 1, some ⟨g1, 0, none⟩, cap1, by omega, by go_num, by rw [h9]; simp, ?_, HY.out.2.1.grown HG.out.2 HY.out.2.2.2 (fun b hb => (HY.out.1.blk b hb).1)⟩
          rw [h9]
          have := HG.out.1
          simpa using this
    · have hd : decide (i < l.length) = false := decide_eq_false hil
      obtain rfl : i = l.length := by omega
      rw [List.take_length] at hown
      have hah := ahead_calls l HR.out.2.2 HR.out.2.1 A c wq (HR.out.1.below hlw)
      obtain ⟨S', c', hv, _, hrT, _⟩ := hown.form lenI
      obtain ⟨e0, _, _⟩ := Value.slice.inj hv
      rw [← e0] at hrT
      have HAH := Lib.hid (And.intro hah (And.intro hrT hlw))
      have htl := tkF_len l
      clear hah hown hbl hlw hv e0 hrT
      simp only [List.take_length] at *
      go_upto_region 10 with fail
      go_wp2_with fail
      (with_reducible refine (HAH.out.1).mono ?_); rintro e w4 ⟨ST, cT, rfl, htab, hb4⟩
      obtain ⟨W5, hW5⟩ : ∃ W5, w4.alloc (.cells #[] 33) = W5 := ⟨_, rfl⟩
      have hb5 : Below w4.heap.size w4 W5 := by rw [← hW5]; exact (Below.refl _ _).alloc (Nat.le_refl _) _
      have ho5 : Own (encS (tkF l).length) 1 33 W5 w4.heap.size (.slice (some ⟨w4.heap.size, 0, none⟩) 0 0) [] := by rw [← hW5]; exact Own.empty (encS (tkF l).length) 1 33 w4 w4.heap.size (Nat.le_refl _)
      obtain ⟨B, hB⟩ : ∃ B, w4.heap.size = B := ⟨_, rfl⟩
      have hlo4 := HAH.out.2.2.trans (hb4.mono HAH.out.2.2.size)
      rw [hB] at hb5 ho5
      have HW5 := Lib.hid (And.intro hW5 hB)
      have H4 := Lib.hid (And.intro htab (And.intro (HAH.out.2.1.below hb4) (And.intro hlo4 (And.intro hb5 ho5))))
      clear htab hb4 hW5 hb5 ho5 hlo4 hB
      go_upto_region 12 with fail
      rw [HW5.out.1]
      try rw [HW5.out.2]
      go_upto_region 13 with fail
      go_loopg [8, 9, 10, 11, 12, 47, 48, 49, 50, 51, 52, 53, 54, 55, 56, 57, 58, 59, 60, 61, 62, 63, 64, 65, 66, 67, 68, 69, 70, 71, 72, 73, 74, 75, 76, 77, 78, 79, 80, 81, 82, 83, 84, 85, 86, 87, 88, 89, 90, 91, 92, 93, 94, 95, 96, 97, 98, 99, 100] l.length (fun gk v8 v9 v10 v11 v12 v47 v48 v49 v50 v51 v52 v53 v54 v55 v56 v57 v58 v59 v60 v61 v62 v63 v64 v65 v66 v67 v68 v69 v70 v71 v72 v73 v74 v75 v76 v77 v78 v79 v80 v81 v82 v83 v84 v85 v86 v87 v88 v89 v90 v91 v92 v93 v94 v95 v96 v97 v98 v99 v100 wr => ∃ (j : Nat) (S : Option Addr) (cS : Nat) (gs : List (Nat × Nat)), j + gk = l.length ∧ v9 = .int .i64 (j : Int) ∧ v8 = .slice S j cS ∧ gs.length = j ∧ Own (encS (tkF l).length) 1 33 wr B (.slice S j cS) gs ∧ (∀ q (h : q < gs.length), RowC wr wr.heap.size l q gs[q]) ∧ Below B w4 wr)
      case atStart => exact ⟨0, _, _, [], by omega, rfl, rfl, rfl, H4.out.2.2.2.2, fun q h => by simp at h, H4.out.2.2.2.1⟩
      case round =>
        obtain ⟨j, S, cS, gs, hj, rfl, rfl, hgl, hown, hrows, hbl⟩ := hrel
        obtain ⟨g1, hg1⟩ : ∃ g1, g1 = gk := ⟨_, rfl⟩
        subst hg1
        obtain ⟨wj, hwj⟩ : ∃ wj, wj = wr := ⟨_, rfl⟩
        subst hwj
        by_cases hjl : j < l.length
        · have hd : decide (j < l.length) = true := decide_eq_true hjl
          have hszj : B ≤ wj.heap.size := by have := hbl.size; have := HW5.out.2; omega
          obtain ⟨i1, hi1, hz1, hs1, hbb1⟩ := info_parts info3
          have hbd := HR.out.2.1
          obtain ⟨W1, hmk, hown1, hg1'⟩ := run_makeSlice_full (P := Try.prog) (w := wj) wj.heap.size 33 3 i1 _ 1 Try.underlying33 hi1 hz1 hs1 .i64 .i64 (tkF l).length (by omega) (by rw [hbb1]; omega) (by simp [maxLen]; omega) (Nat.le_refl _)
          rw [made_int] at hown1
          have hR1 : Own encI 1 3 W1 wj.heap.size (.slice (some ⟨wj.heap.size, 0, none⟩) (tkF l).length (tkF l).length) (rwC l j 0 0) := by rw [rwC_zero]; unfold Own; rw [List.length_replicate]; exact hown1
          have b1 : Below wj.heap.size wj W1 := (Below.refl _ wj).grown hg1' (Nat.le_refl _) (fun b hb => by cases hb)
          have hmk' : (Instr.makeSlice 33 (.int .i64 ((tkF l).length : Int)) (.int .i64 ((tkF l).length : Int))).run Try.prog wj = .ok (.slice (some ⟨wj.heap.size, 0, none⟩) (tkF l).length (tkF l).length) W1 := hmk
          obtain ⟨rb, hrb⟩ : ∃ rb, wj.heap.size = rb := ⟨_, rfl⟩
          rw [hrb] at hmk' hR1 b1 hrows hszj
          have HJ := Lib.hid (And.intro hown (And.intro hrows (And.intro hbl (And.intro hszj (And.intro hgl hrb)))))
          have H1 := Lib.hid (And.intro hR1 b1)
          clear hown hrows hbl hszj hrb hR1 b1 hmk hown1 hg1' hi1 hz1 hs1 hbb1 i1 hbd
          go_upto_region 16 with fail
          clear hmk'
          go_upto_region 17 with fail
          go_loopg [11, 12, 56, 57, 58, 59, 60, 61, 62, 63, 64, 65, 66, 67, 68, 69, 70, 71, 72, 73, 74, 75, 76, 77, 78, 79, 80, 81, 82, 83, 84, 85, 86, 87, 88, 89, 90, 91, 92, 93, 94, 95, 96] (j + 1) (fun gk v11 v12 v56 v57 v58 v59 v60 v61 v62 v63 v64 v65 v66 v67 v68 v69 v70 v71 v72 v73 v74 v75 v76 v77 v78 v79 v80 v81 v82 v83 v84 v85 v86 v87 v88 v89 v90 v91 v92 v93 v94 v95 v96 wr => ∃ (i : Nat), i + gk = j + 1 ∧ v11 = .int .i64 (i : Int) ∧ Own encI 1 3 wr rb (.slice (some ⟨rb, 0, none⟩) (tkF l).length (tkF l).length) (rwC l j i 0) ∧ Below rb wj wr)
          case atStart => exact ⟨0, by omega, rfl, H1.out.1, H1.out.2⟩
          case round =>
            obtain ⟨i, hi, rfl, hR, hbi⟩ := hrel
            obtain ⟨g2, hg2⟩ : ∃ g2, g2 = gk := ⟨_, rfl⟩
            subst hg2
            obtain ⟨wi, hwi⟩ : ∃ wi, wi = wr := ⟨_, rfl⟩
            subst hwi
            by_cases hij : i ≤ j
            · have hd : decide (i ≤ j) = true := decide_eq_true hij
              have hil : i < l.length := by omega
              have hii : (i : Int) < (l.length : Int) := by omega
              have hjj : (j : Int) < (l.length : Int) := by omega
              have hb4 : Below w4.heap.size w4 wi := by rw [HW5.out.2]; exact HJ.out.2.2.1.trans (hbi.mono HJ.out.2.2.2.1)
              obtain ⟨aT, g, cc, rfl, t1, t2⟩ := (H4.out.1.below hb4) j hjl
              have s1 := t2 i hil
              clear t2 hb4
              by_cases hne : i = j
              · have g3 : (i != j) = false := by simp [hne]
                have g4 : ((i : Int) != (j : Int)) = false := by simp [hne]
                have hcc : (decide (i = j) || bfB l i j) = true := by simp [hne]
                have HK := Lib.hid (And.intro hcc (And.intro hR hbi))
                clear hcc hR hbi s1
                go_upto_region 21 with fail
                clear hne g3 g4
                go_loopg [12, 74, 75, 76, 77, 78, 79, 80, 81, 82, 83, 84, 85, 86, 87, 88, 89, 90, 91, 92, 93, 94, 95, 96] (tkF l).length (fun gk v12 v74 v75 v76 v77 v78 v79 v80 v81 v82 v83 v84 v85 v86 v87 v88 v89 v90 v91 v92 v93 v94 v95 v96 wr => ∃ (k : Nat), k + gk = (tkF l).length ∧ v12 = .int .i64 (k : Int) ∧ Own encI 1 3 wr rb (.slice (some ⟨rb, 0, none⟩) (tkF l).length (tkF l).length) (rwC l j i k) ∧ Below rb wj wr)
                case atStart => exact ⟨0, by omega, rfl, HK.out.2.1, HK.out.2.2⟩
                case round =>
                  obtain ⟨k, hk, rfl, hRk, hbk⟩ := hrel
                  obtain ⟨wk, hwk⟩ : ∃ wk, wk = wr := ⟨_, rfl⟩
                  subst hwk
                  by_cases hkl : k < (tkF l).length
                  · have hd2 : decide (k < (tkF l).length) = true := decide_eq_true hkl
                    have hkk : (k : Int) < ((tkF l).length : Int) := by omega
                    have hb4 : Below w4.heap.size w4 wk := by rw [HW5.out.2]; exact HJ.out.2.2.1.trans (hbk.mono HJ.out.2.2.2.1)
                    have hlk : Below w.heap.size w wk := H4.out.2.2.1.trans (hb4.mono H4.out.2.2.1.size)
                    obtain ⟨sa, rfl, hsc⟩ := (H4.out.2.1.below hb4).cell k hkl
                    have hsv := hsc 0 _ rfl
                    rw [Nat.mul_one, Nat.add_zero] at hsv
                    obtain ⟨a, rfl, _⟩ := (HR.out.1.below hlk).cell i hil
                    obtain ⟨p0, p1, p2, p3, p4, p5, p6, p7, p8, p9, p10⟩ := ev_eleven (ev_cells (HR.out.1.below hlk) i hil)
                    rw [← evA_eq l i hil] at p1
                    clear p0 p2 p3 p4 p5 p6 p7 p8 p9 p10
                    have hgd : (tkF l).getD k 0 = (tkF l)[k] := by rw [List.getD_eq_getElem?_getD, List.getElem?_eq_getElem hkl]; rfl
                    have HKK := Lib.hid (And.intro hRk hbk)
                    clear hRk hbk hb4 hlk hsc
                    by_cases ht : (tkF l)[k] = (evA l i).t
                    · have g5 : ((tkF l)[k] == (evA l i).t) = true := by simpa using ht
                      have hset := rwC_set l j i k hkl HK.out.1 (by rw [hgd]; exact ht)
                      rw [hgd] at hset
                      have HT := Lib.hid (And.intro hset hgd)
                      have hrk : rk l j i (tkF l)[k] ≤ i := by unfold rk; exact Nat.le_trans List.countP_le_length (by simp)
                      have hw1 : wrap64 ((rk l j i (tkF l)[k] : Int) + 1) = (rk l j i (tkF l)[k] : Int) + 1 := wrap64_fit _ (by omega)
                      clear ht hgd hset hrk
                      go_upto_region 23 with fail
                      go_quiet (fail)
                      obtain ⟨W7, hW7⟩ : ∃ W7, wk.drewN nq = W7 := ⟨_, rfl⟩
                      have hb7 : Below wk.heap.size wk W7 := by rw [← hW7]; exact drewN_below (Below.refl _ _) nq
                      rw [hW7]
                      have hR7 := HKK.out.1.rest hb7
                      obtain ⟨tc, tf⟩ := hR7.cell lenI (rwC_len _ _ _ _) k (by rw [rwC_len]; exact hkl) 0 _ rfl
                      have hst := hR7.set lenI (rwC_len _ _ _ _) k (by rw [rwC_len]; exact hkl) 0 (by decide) (.int .i64 ((rk l j i (tkF l)[k] : Int) + 1)) ((rk l j i (tkF l)[k] : Int) + 1) rfl
                      rw [rwC_at, if_neg (Nat.lt_irrefl k), HT.out.2] at tc
                      simp only [Nat.mul_one, Nat.add_zero] at tc tf hst
                      rw [HT.out.1] at hst
                      have HST := Lib.hid (And.intro hst.1 ((HKK.out.2.trans (hb7.mono (by have h1 := HKK.out.2.size; have h2 := HJ.out.2.2.2.2.2; omega))).setCell (p := ⟨rb, k, none⟩) (Nat.le_refl _) (.int .i64 ((rk l j i (tkF l)[k] : Int) + 1))))
                      clear hR7 hst hb7 hW7 hsv p1
                      go_wp2_with fail
                      go_roundg (gk - 1)
                      case measure => omega
                      case rel => exact ⟨k + 1, by omega, by go_num, HST.out.1, HST.out.2⟩
                    · have g5 : ((tkF l)[k] == (evA l i).t) = false := by simpa using ht
                      have HT := Lib.hid (rwC_keep l j i k hkl (by rw [hgd]; exact ht))
                      clear ht hgd
                      go_upto_region 23 with fail
                      go_quiet (fail)
                      go_wp2_with fail
                      go_roundg (gk - 1)
                      case measure => omega
                      case rel => exact ⟨k + 1, by omega, by go_num, by rw [← HT.out]; exact HKK.out.1.rest (drewN_below (Below.refl _ _) _), drewN_below HKK.out.2 _⟩
                  · have hd2 : decide (k < (tkF l).length) = false := decide_eq_false hkl
                    obtain rfl : k = (tkF l).length := by omega
                    rw [rwC_next] at hRk
                    have HE := Lib.hid (And.intro hRk hbk)
                    clear hRk hbk
                    go_wp2_with fail
                    go_roundg (g2 - 1)
                    case measure => omega
                    case rel => exact ⟨i + 1, by omega, by go_num, HE.out.1, HE.out.2⟩
              · have g3 : (i != j) = true := by simpa using hne
                have g4 : ((i : Int) != (j : Int)) = true := by rw [bne_iff_ne]; omega
                obtain ⟨b, hb⟩ : ∃ b, bfB l i j = b := ⟨_, rfl⟩
                rw [hb] at s1
                cases b with
                | false =>
                  have HK := Lib.hid (And.intro (rwC_skip l j i (by rw [hb, decide_eq_false hne]; rfl)) (And.intro hR hbi))
                  clear hb hR hbi
                  go_wp2_with fail
                  go_roundg (g2 - 1)
                  case measure => omega
                  case rel => exact ⟨i + 1, by omega, by go_num, by rw [← HK.out.1]; exact HK.out.2.1, HK.out.2.2⟩
                | true =>
                  have hcc : (decide (i = j) || bfB l i j) = true := by rw [hb]; simp
                  have HK := Lib.hid (And.intro hcc (And.intro hR hbi))
                  clear hcc hR hbi hb
                  go_upto_region 21 with fail
                  go_loopg [12, 74, 75, 76, 77, 78, 79, 80, 81, 82, 83, 84, 85, 86, 87, 88, 89, 90, 91, 92, 93, 94, 95, 96] (tkF l).length (fun gk v12 v74 v75 v76 v77 v78 v79 v80 v81 v82 v83 v84 v85 v86 v87 v88 v89 v90 v91 v92 v93 v94 v95 v96 wr => ∃ (k : Nat), k + gk = (tkF l).length ∧ v12 = .int .i64 (k : Int) ∧ Own encI 1 3 wr rb (.slice (some ⟨rb, 0, none⟩) (tkF l).length (tkF l).length) (rwC l j i k) ∧ Below rb wj wr)
                  case atStart => exact ⟨0, by omega, rfl, HK.out.2.1, HK.out.2.2⟩
                  case round =>
                    obtain ⟨k, hk, rfl, hRk, hbk⟩ := hrel
                    obtain ⟨wk, hwk⟩ : ∃ wk, wk = wr := ⟨_, rfl⟩
                    subst hwk
                    by_cases hkl : k < (tkF l).length
                    · have hd2 : decide (k < (tkF l).length) = true := decide_eq_true hkl
                      have hkk : (k : Int) < ((tkF l).length : Int) := by omega
                      have hb4 : Below w4.heap.size w4 wk := by rw [HW5.out.2]; exact HJ.out.2.2.1.trans (hbk.mono HJ.out.2.2.2.1)
                      have hlk : Below w.heap.size w wk := H4.out.2.2.1.trans (hb4.mono H4.out.2.2.1.size)
                      obtain ⟨sa, rfl, hsc⟩ := (H4.out.2.1.below hb4).cell k hkl
                      have hsv := hsc 0 _ rfl
                      rw [Nat.mul_one, Nat.add_zero] at hsv
                      obtain ⟨a, rfl, _⟩ := (HR.out.1.below hlk).cell i hil
                      obtain ⟨p0, p1, p2, p3, p4, p5, p6, p7, p8, p9, p10⟩ := ev_eleven (ev_cells (HR.out.1.below hlk) i hil)
                      rw [← evA_eq l i hil] at p1
                      clear p0 p2 p3 p4 p5 p6 p7 p8 p9 p10
                      have hgd : (tkF l).getD k 0 = (tkF l)[k] := by rw [List.getD_eq_getElem?_getD, List.getElem?_eq_getElem hkl]; rfl
                      have HKK := Lib.hid (And.intro hRk hbk)
                      clear hRk hbk hb4 hlk hsc
                      by_cases ht : (tkF l)[k] = (evA l i).t
                      · have g5 : ((tkF l)[k] == (evA l i).t) = true := by simpa using ht
                        have hset := rwC_set l j i k hkl HK.out.1 (by rw [hgd]; exact ht)
                        rw [hgd] at hset
                        have HT := Lib.hid (And.intro hset hgd)
                        have hrk : rk l j i (tkF l)[k] ≤ i := by unfold rk; exact Nat.le_trans List.countP_le_length (by simp)
                        have hw1 : wrap64 ((rk l j i (tkF l)[k] : Int) + 1) = (rk l j i (tkF l)[k] : Int) + 1 := wrap64_fit _ (by omega)
                        clear ht hgd hset hrk
                        go_upto_region 23 with fail
                        go_quiet (fail)
                        obtain ⟨W7, hW7⟩ : ∃ W7, wk.drewN nq = W7 := ⟨_, rfl⟩
                        have hb7 : Below wk.heap.size wk W7 := by rw [← hW7]; exact drewN_below (Below.refl _ _) nq
                        rw [hW7]
                        have hR7 := HKK.out.1.rest hb7
                        obtain ⟨tc, tf⟩ := hR7.cell lenI (rwC_len _ _ _ _) k (by rw [rwC_len]; exact hkl) 0 _ rfl
                        have hst := hR7.set lenI (rwC_len _ _ _ _) k (by rw [rwC_len]; exact hkl) 0 (by decide) (.int .i64 ((rk l j i (tkF l)[k] : Int) + 1)) ((rk l j i (tkF l)[k] : Int) + 1) rfl
                        rw [rwC_at, if_neg (Nat.lt_irrefl k), HT.out.2] at tc
                        simp only [Nat.mul_one, Nat.add_zero] at tc tf hst
                        rw [HT.out.1] at hst
                        have HST := Lib.hid (And.intro hst.1 ((HKK.out.2.trans (hb7.mono (by have h1 := HKK.out.2.size; have h2 := HJ.out.2.2.2.2.2; omega))).setCell (p := ⟨rb, k, none⟩) (Nat.le_refl _) (.int .i64 ((rk l j i (tkF l)[k] : Int) + 1))))
                        clear hR7 hst hb7 hW7 hsv p1
                        go_wp2_with fail
                        go_roundg (gk - 1)
                        case measure => omega
                        case rel => exact ⟨k + 1, by omega, by go_num, HST.out.1, HST.out.2⟩
                      · have g5 : ((tkF l)[k] == (evA l i).t) = false := by simpa using ht
                        have HT := Lib.hid (rwC_keep l j i k hkl (by rw [hgd]; exact ht))
                        clear ht hgd
                        go_upto_region 23 with fail
                        go_quiet (fail)
                        go_wp2_with fail
                        go_roundg (gk - 1)
                        case measure => omega
                        case rel => exact ⟨k + 1, by omega, by go_num, by rw [← HT.out]; exact HKK.out.1.rest (drewN_below (Below.refl _ _) _), drewN_below HKK.out.2 _⟩
                    · have hd2 : decide (k < (tkF l).length) = false := decide_eq_false hkl
                      obtain rfl : k = (tkF l).length := by omega
                      rw [rwC_next] at hRk
                      have HE := Lib.hid (And.intro hRk hbk)
                      clear hRk hbk
                      go_wp2_with fail
                      go_roundg (g2 - 1)
                      case measure => omega
                      case rel => exact ⟨i + 1, by omega, by go_num, HE.out.1, HE.out.2⟩
            · have hd : decide (i ≤ j) = false := decide_eq_false hij
              obtain rfl : i = j + 1 := by omega
              have hszi : rb ≤ wi.heap.size := by have := hbi.size; have := HJ.out.2.2.2.2.2; omega
              have hbw : Below wj.heap.size wj wi := by rw [HJ.out.2.2.2.2.2]; exact hbi
              have hbl8 : Below wi.heap.size wi (wi.alloc (.cells #[.slice (some ⟨rb, 0, none⟩) (tkF l).length (tkF l).length] 33)) := (Below.refl _ _).alloc (Nat.le_refl _) _
              have hO := (HJ.out.1.rest hbw).rest hbl8
              have hrow : RowC (wi.alloc (.cells #[.slice (some ⟨rb, 0, none⟩) (tkF l).length (tkF l).length] 33)) wi.heap.size l j (rb, (tkF l).length) := by
                obtain ⟨_, hlt, hcur⟩ := hR.blk rb rfl
                refine RowC.below (w := wi) ⟨hlt, hcur, fun x hx => ?_⟩ hbl8
                obtain ⟨tc, _⟩ := hR.cell lenI (rwC_len _ _ _ _) x (by rw [rwC_len]; exact hx) 0 _ rfl
                rw [rwC_clk l HR.out.2.2 j hjl x hx] at tc
                simpa only [Nat.mul_one, Nat.add_zero] using tc
              have hold : ∀ q (h : q < gs.length), RowC (wi.alloc (.cells #[.slice (some ⟨rb, 0, none⟩) (tkF l).length (tkF l).length] 33)) wi.heap.size l q gs[q] := fun q h => (((HJ.out.2.1 q h).below hbi).mono hszi).below hbl8
              have hlow : Below B w4 (wi.alloc (.cells #[.slice (some ⟨rb, 0, none⟩) (tkF l).length (tkF l).length] 33)) := (HJ.out.2.2.1.trans (hbi.mono HJ.out.2.2.2.1)).trans (hbl8.mono (Nat.le_trans HJ.out.2.2.2.1 hszi))
              have hbd := HR.out.2.1
              have HY := Lib.hid (And.intro hO (And.intro hrow (And.intro hold (And.intro hlow (And.intro (Nat.le_trans (Nat.le_trans HJ.out.2.2.2.1 hszi) hbl8.size) (And.intro hbl8.size (show (j + 1) * 24 ≤ 140737488355328 by omega)))))))
              clear hszi hbw hbl8 hO hrow hold hlow hR hbi hbd
              go_wp2_with (at_builtin; go_must (refine wpList_append_told (lenS (tkF l).length) (oneS (tkF l).length) _ rfl (.tmp 97) (.tmp 99) 45 rfl B 33 _ 24 Try.underlying45 info33 rfl (by decide) (by decide) (.slice S j cS) gs j HJ.out.2.2.2.2.1 rfl HY.out.1 ⟨wi.heap.size, 0, none⟩ 1 1 [(rb, (tkF l).length)] rfl rfl (by decide) (rd_one (encS (tkF l).length) 1 _ (rb, (tkF l).length) 33 _ rfl _ rfl) HY.out.2.2.2.2.2.2 HY.out.2.2.2.2.1 ?_); intro g3 cap3 w9 hown9 hgr9 hl9; have HGG := Lib.hid (And.intro hown9 (And.intro hgr9 hl9)); clear hown9 hgr9 hl9)
              go_roundg (g1 - 1)
              case measure => omega
              case rel =>
                refine ⟨j + 1, _, _, gs ++ [(rb, (tkF l).length)], by omega, by go_num, rfl, by rw [List.length_append, HJ.out.2.2.2.2.1]; rfl, HGG.out.1, fun q hq => ?_, HY.out.2.2.2.1.grown HGG.out.2.1 HY.out.2.2.2.2.1 (fun b hb => (HY.out.1.blk b hb).1)⟩
                have hsz := Nat.le_trans HY.out.2.2.2.2.2.1 HGG.out.2.1.size
                by_cases e : q < gs.length
                · rw [List.getElem_append_left e]
                  exact ((HY.out.2.2.1 q e).beside HY.out.2.2.2.2.2.1 HY.out.1 HGG.out.2.1).mono hsz
                · have hq' : q = gs.length := by simp at hq; omega
                  subst hq'
                  rw [List.getElem_append_right (by omega)]
                  simp only [Nat.sub_self, List.getElem_cons_zero]
                  rw [HJ.out.2.2.2.2.1]
                  exact (HY.out.2.1.beside HY.out.2.2.2.2.2.1 HY.out.1 HGG.out.2.1).mono hsz
        · have hd : decide (j < l.length) = false := decide_eq_false hjl
          obtain rfl : j = l.length := by omega
          have hck : ClkR wj S l := fun q hq => by
            obtain ⟨S', c', hv, _, hrd, _⟩ := hown.form (lenS (tkF l).length)
            obtain ⟨rfl, _, _⟩ := Value.slice.inj hv
            obtain ⟨a, rfl, hc⟩ := hrd.cell q (by rw [hgl]; exact hq)
            have h0 := hc 0 _ rfl
            rw [Nat.mul_one, Nat.add_zero] at h0
            exact ⟨a, _, _, rfl, h0, (hrows q (by rw [hgl]; exact hq)).2.2⟩
          have hb4 : Below w4.heap.size w4 wj := by rw [HW5.out.2]; exact hbl
          have HE := Lib.hid (And.intro (hck.rows HR.out.2.1) (H4.out.2.2.1.trans (hb4.mono H4.out.2.2.1.size)))
          clear hck hb4 hown hrows hbl hgl
          go_wp2_with fail
          go_ret2
          exact ⟨S, cS, by rw [ckL_len]; rfl, HE.out.1, HE.out.2⟩
end Go.Proofs.Ythebembnlmddoaa
