import Derived.Test.YthccnaemocdcbaaF
namespace Go.Proofs.Ythccnaemocdcbaa
open Go.RowKit Ieee
set_option maxHeartbeats 4000000
set_option maxRecDepth 100000
set_option linter.unusedSimpArgs false
set_option linter.unusedVariables false

/-- the turns as they stand in memory -/
def tv (k : FloatKind) (back : Bool) (d : Nat) : Value := .complex k (can k (tw back d).1) (can k (tw back d).2)
theorem tv_cx (k : FloatKind) (back : Bool) (d : Nat) : Cx k (tv k back d) (tw back d) := Cx.can k _

theorem size_setCell' (w : World) (a : Addr) (v : Value) : (w.setCell a v).heap.size = w.heap.size := by simp [World.setCell]
theorem wrap64_in' (n : Int) (h : -9223372036854775808 ≤ n ∧ n ≤ 9223372036854775807) : wrap64 n = n := by unfold wrap64; omega
theorem zero_cx (k : FloatKind) : Cx k (.complex k 0 0) (0, 0) := by cases k <;> exact ⟨0, 0, rfl, ⟨false, fun h => absurd rfl h, by decide⟩, ⟨false, fun h => absurd rfl h, by decide⟩⟩
theorem can64 : can .f64 1 = 4607182418800017408 ∧ can .f64 0 = 0 ∧ can .f64 (-1) = 13830554455654793216 := by decide +kernel
theorem can32 : can .f32 1 = 1065353216 ∧ can .f32 0 = 0 ∧ can .f32 (-1) = 3212836864 := by decide +kernel
theorem four_cells {W : World} {b : Nat} {t : TypeId} {v0 v1 v2 v3 : Value} (h : W.heap[b]? = some (.cells #[v0, v1, v2, v3] t (0, 0))) : W.cell? ⟨b, 0, none⟩ = some v0 ∧ W.cell? ⟨b, 1, none⟩ = some v1 ∧ W.cell? ⟨b, 2, none⟩ = some v2 ∧ W.cell? ⟨b, 3, none⟩ = some v3 ∧ W.frozen? ⟨b, 0, none⟩ = false ∧ W.frozen? ⟨b, 1, none⟩ = false ∧ W.frozen? ⟨b, 2, none⟩ = false ∧ W.frozen? ⟨b, 3, none⟩ = false := by
  have hz := fun j => cell_of_row _ b j _ _ _ h
  have z0 := hz 0
  have z1 := hz 1
  have z2 := hz 2
  have z3 := hz 3
  simp at z0 z1 z2 z3
  exact ⟨z0, z1, z2, z3, frozen_of_row _ b 0 _ _ h, frozen_of_row _ b 1 _ _ h, frozen_of_row _ b 2 _ _ h, frozen_of_row _ b 3 _ _ h⟩
theorem four_fill {w : World} {b : Nat} {t : TypeId} {v0 v1 v2 v3 : Value} (a0 a1 a2 a3 : Value) (h : w.heap[b]? = some (.cells #[v0, v1, v2, v3] t (0, 0))) : ((((w.setCell ⟨b, 0, none⟩ a0).setCell ⟨b, 1, none⟩ a1).setCell ⟨b, 2, none⟩ a2).setCell ⟨b, 3, none⟩ a3).heap[b]? = some (.cells #[a0, a1, a2, a3] t (0, 0)) := by
  have h0 := heap_setCell_same _ b 0 _ _ a0 h
  have h1 := heap_setCell_same _ b 1 _ _ a1 h0
  have h2 := heap_setCell_same _ b 2 _ _ a2 h1
  have h3 := heap_setCell_same _ b 3 _ _ a3 h2
  simpa using h3
theorem four_tur {W : World} {b : Nat} {t : TypeId} {k : FloatKind} {back : Bool} (h : W.heap[b]? = some (.cells #[tv k back 0, tv k back 1, tv k back 2, tv k back 3] t (0, 0))) (d : Nat) (hd : d < 4) : W.cell? ⟨b, d, none⟩ = some (tv k back d) := by
  obtain ⟨z0, z1, z2, z3, _⟩ := four_cells h
  have : d = 0 ∨ d = 1 ∨ d = 2 ∨ d = 3 := by omega
  rcases this with rfl | rfl | rfl | rfl
  · exact z0
  · exact z1
  · exact z2
  · exact z3
theorem tv64 : tv .f64 false 0 = .complex .f64 4607182418800017408 0 ∧ tv .f64 false 1 = .complex .f64 0 13830554455654793216 ∧ tv .f64 false 2 = .complex .f64 13830554455654793216 0 ∧ tv .f64 false 3 = .complex .f64 0 4607182418800017408 ∧ tv .f64 true 0 = .complex .f64 4607182418800017408 0 ∧ tv .f64 true 1 = .complex .f64 0 4607182418800017408 ∧ tv .f64 true 2 = .complex .f64 13830554455654793216 0 ∧ tv .f64 true 3 = .complex .f64 0 13830554455654793216 := by
  obtain ⟨c1, c0, cm⟩ := can64
  simp [tv, tw, c1, c0, cm]
theorem tv32 : tv .f32 false 0 = .complex .f32 1065353216 0 ∧ tv .f32 false 1 = .complex .f32 0 3212836864 ∧ tv .f32 false 2 = .complex .f32 3212836864 0 ∧ tv .f32 false 3 = .complex .f32 0 1065353216 ∧ tv .f32 true 0 = .complex .f32 1065353216 0 ∧ tv .f32 true 1 = .complex .f32 0 1065353216 ∧ tv .f32 true 2 = .complex .f32 3212836864 0 ∧ tv .f32 true 3 = .complex .f32 0 3212836864 := by
  obtain ⟨c1, c0, cm⟩ := can32
  simp [tv, tw, c1, c0, cm]
theorem Own.vals {k : FloatKind} {e : TypeId} {w : World} {base : Nat} {v : Value} {zs : List G} (h : Own (encG k) 1 e w base v zs) : Own encO 1 e w base v (zs.map (fun z => Value.complex k (can k z.1) (can k z.2))) := by
  unfold Own at h ⊢
  rw [List.length_map, List.flatMap_map]
  exact h
theorem Own.base {α : Type} {enc : α → List Value} {sz : Nat} {e : TypeId} {w : World} {b b' : Nat} {v : Value} {xs : List α} (h : Own enc sz e w b v xs) (hb : b' ≤ b) : Own enc sz e w b' v xs := by
  unfold Own at h ⊢
  obtain ⟨h1, h2⟩ := h
  refine ⟨h1, ?_⟩
  rcases h2 with h2 | ⟨g, cap, cur, q1, q2, q3⟩
  · exact Or.inl h2
  · exact Or.inr ⟨g, cap, cur, q1, Nat.le_trans hb q2, q3⟩

structure TI (k : FloatKind) (e : TypeId) (w : World) (n g cap : Nat) (back : Bool) (us : List Value) (F : Nat → G) (wr : World) : Prop where
  len : us.length = n
  own : Own encO 1 e wr (w.heap.size + 1) (.slice (some ⟨g, 0, none⟩) n cap) us
  low : Below w.heap.size w wr
  tur : ∀ d, d < 4 → wr.cell? ⟨w.heap.size, d, none⟩ = some (tv k back d)
  val : ∀ j (h : j < us.length), Cx k us[j] (F j)
theorem TI.block {k : FloatKind} {e : TypeId} {w : World} {n g cap : Nat} {back : Bool} {us : List Value} {F : Nat → G} {wr : World} (h : TI k e w n g cap back us F wr) : w.heap.size + 1 ≤ g ∧ g < wr.heap.size := by
  have := h.own.blk g rfl; omega
theorem TI.cell {k : FloatKind} {e : TypeId} {w : World} {n g cap : Nat} {back : Bool} {us : List Value} {F : Nat → G} {wr : World} (h : TI k e w n g cap back us F wr) (i : Nat) (hi : i < us.length) : wr.cell? ⟨g, i, none⟩ = some us[i] ∧ wr.frozen? ⟨g, i, none⟩ = false := by
  have := h.own.cell lenO h.len i hi 0 us[i] rfl
  simpa using this
theorem TI.congr {k : FloatKind} {e : TypeId} {w : World} {n g cap : Nat} {back : Bool} {us : List Value} {F F' : Nat → G} {wr : World} (h : TI k e w n g cap back us F wr) (hF : ∀ j, j < n → F' j = F j) : TI k e w n g cap back us F' wr :=
  ⟨h.len, h.own, h.low, h.tur, fun j hj => by rw [hF j (by rw [← h.len]; exact hj)]; exact h.val j hj⟩
/-- another block is written, or made -/
theorem TI.other {k : FloatKind} {e : TypeId} {w : World} {n g cap : Nat} {back : Bool} {us : List Value} {F : Nat → G} {wr wx : World} {row : Option Nat} (h : TI k e w n g cap back us F wr) (hg : wr.grownBy wx row) (hr : ∀ b, row = some b → w.heap.size + 1 ≤ b ∧ b ≠ g) : TI k e w n g cap back us F wx := by
  have hb := h.block
  refine ⟨h.len, h.own.grown hg ?_, h.low.grown hg h.low.size (fun b hb => by have := hr b hb; omega), fun d hd => hg.cell (h.tur d hd) (fun e' => by have h9 := (hr _ e'.symm).1; dsimp only at h9; omega), h.val⟩
  right
  intro e'
  exact (hr g e'.symm).2 rfl
/-- a place is written -/
theorem TI.set {k : FloatKind} {e : TypeId} {w : World} {n g cap : Nat} {back : Bool} {us : List Value} {F F' : Nat → G} {wr : World} (h : TI k e w n g cap back us F wr) (i : Nat) (hi : i < us.length) (v : Value) (hF : ∀ j, j < us.length → i ≠ j → F' j = F j) (hv : Cx k v (F' i)) : TI k e w n g cap back (us.set i v) F' (wr.setCell ⟨g, i, none⟩ v) := by
  have hb := h.block
  have hs := h.own.set lenO h.len i hi 0 (by decide) v v rfl
  simp only [Nat.mul_one, Nat.add_zero] at hs
  refine ⟨by rw [List.length_set]; exact h.len, hs.1, h.low.grown hs.2 h.low.size (fun b hb' => by cases hb'; omega), fun d hd => hs.2.cell (h.tur d hd) (fun e' => by simp at e'; omega), fun j hj => ?_⟩
  rw [List.length_set] at hj
  rw [List.getElem_set]
  split
  · rename_i e'; subst e'; exact hv
  · rename_i e'; rw [hF j hj e']; exact h.val j hj
theorem pow4 (m : Nat) (hm : m ≤ 3) (t : Nat) (ht : t ≤ m) : 4 ^ m ≤ 64 ∧ 0 < 4 ^ t ∧ 4 ^ t ≤ 64 ∧ (4 ^ t < 4 ^ m ↔ t < m) := by
  have h1 : m = 0 ∨ m = 1 ∨ m = 2 ∨ m = 3 := by omega
  have h2 : t = 0 ∨ t = 1 ∨ t = 2 ∨ t = 3 := by omega
  rcases h1 with rfl | rfl | rfl | rfl <;> rcases h2 with rfl | rfl | rfl | rfl <;> simp at ht ⊢ <;> omega
theorem pow4_dvd (m t : Nat) (h : t < m) : ∃ p, 4 ^ m = 4 * 4 ^ t * p := ⟨4 ^ (m - (t + 1)), by rw [← Nat.pow_succ', ← Nat.pow_add]; congr 1; omega⟩
def zfun (zs : List G) (j : Nat) : G := zs.getD j (0, 0)
/-- what a transform gives -/
def tr (back : Bool) (m : Nat) (zs : List G) : List G := (List.range (4 ^ m)).map (levs back (zfun zs) m)

theorem idx101 (x0 x1 x2 x3 : Value) (w : World) : (Instr.index 101 (.agg #[x0, x1, x2, x3]) (.int .i64 0)).run Try.prog w = .ok x0 w ∧ (Instr.index 101 (.agg #[x0, x1, x2, x3]) (.int .i64 1)).run Try.prog w = .ok x1 w ∧ (Instr.index 101 (.agg #[x0, x1, x2, x3]) (.int .i64 2)).run Try.prog w = .ok x2 w ∧ (Instr.index 101 (.agg #[x0, x1, x2, x3]) (.int .i64 3)).run Try.prog w = .ok x3 w := by
  refine ⟨?_, ?_, ?_, ?_⟩ <;> (simp [Instr.index, run_underlying Try.underlying101, asIntOf, go_sem]; try rfl)
theorem tr28_calls (back : Bool) (zs : List G) (m : Nat) (hm : m ≤ 3) (hlen : zs.length = 4 ^ m) (M : Nat) (hM : 2 * (4 ^ m * M) < 2 ^ 24) (hz : ∀ z ∈ zs, gb M z) (A : Option Addr) (c : Nat) (w : World) (hx : Rd (encG .f64) 1 w A zs) :
    Calls Try.prog 28 #[.slice A (4 ^ m : Nat) c, .bool back] w (ClonePost (encG .f64) 1 27 (tr back m zs) w) := by
  have hgb : ∀ j, gb M (zfun zs j) := fun j => by
    unfold zfun
    rw [List.getD_eq_getElem?_getD]
    cases h : zs[j]? with
    | none => simp [gb]
    | some z => exact hz z (List.mem_of_getElem? h)
  obtain ⟨n, hn⟩ : ∃ n, 4 ^ m = n := ⟨_, rfl⟩
  have h64 := (pow4 m hm 0 (by omega)).1
  have HX := Lib.hid (And.intro hx (And.intro hlen (And.intro hz (And.intro hM hgb))))
  have HM := Lib.hid hm
  have HN := Lib.hid hn
  have hn64 : n ≤ 64 := by omega
  rw [hn]
  clear hx hz hgb hM hm hn h64 hlen
  go_enter Try.func28, Try.ntmps28
  go_upto_region 2 with fail
  obtain ⟨W, hW⟩ : ∃ W, w.alloc (.cells #[.complex .f64 4607182418800017408 0, .complex .f64 0 13830554455654793216, .complex .f64 13830554455654793216 0, .complex .f64 0 4607182418800017408] 101) = W := ⟨_, rfl⟩
  have hb : Below w.heap.size w W := by rw [← hW]; exact (Below.refl _ _).alloc (Nat.le_refl _) _
  have hr : W.heap[w.heap.size]? = some (.cells #[.complex .f64 4607182418800017408 0, .complex .f64 0 13830554455654793216, .complex .f64 13830554455654793216 0, .complex .f64 0 4607182418800017408] 101 (0, 0)) := by rw [← hW]; exact heap_alloc_new w _
  have hsz : W.heap.size = w.heap.size + 1 := by rw [← hW]; simp
  rw [hW]
  go_upto_if 16 with fail
  go_cut [17] (fun s17 wx => Below w.heap.size w wx ∧ wx.heap.size = w.heap.size + 1 ∧ ∀ d, d < 4 → wx.cell? ⟨w.heap.size, d, none⟩ = some (tv .f64 back d))
  case first =>
    cases back with
    | false =>
      go_wp2_with fail
      all_goals go_meet
      all_goals exact ⟨hb, hsz, four_tur (by rw [tv64.1, tv64.2.1, tv64.2.2.1, tv64.2.2.2.1]; exact hr)⟩
    | true =>
      obtain ⟨z0, z1, z2, z3, y0, y1, y2, y3⟩ := four_cells hr
      have HR := Lib.hid hr
      clear hr
      go_wp2_with fail
      all_goals go_meet
      all_goals exact ⟨(((hb.setCell (p := ⟨w.heap.size, 0, none⟩) (Nat.le_refl _) _).setCell (p := ⟨w.heap.size, 1, none⟩) (Nat.le_refl _) _).setCell (p := ⟨w.heap.size, 2, none⟩) (Nat.le_refl _) _).setCell (p := ⟨w.heap.size, 3, none⟩) (Nat.le_refl _) _, by simp only [size_setCell']; exact hsz, four_tur (by rw [tv64.2.2.2.2.1, tv64.2.2.2.2.2.1, tv64.2.2.2.2.2.2.1, tv64.2.2.2.2.2.2.2]; exact four_fill _ _ _ _ HR.out)⟩
  case rest =>
    obtain ⟨hb1, hs1, htur⟩ := hcut
    have hzn : zs.length = n := HX.out.2.1.trans HN.out
    have hcl := clone54_calls A zs c wc (HX.out.1.below hb1) (by omega)
    rw [hzn] at hcl
    have HCL := Lib.hid hcl
    have HT := Lib.hid (And.intro hb1 (And.intro hs1 (And.intro htur hzn)))
    clear hb1 hs1 htur hzn hcl hr hW hb hsz
    go_upto_region 4 with fail
    go_wp2_with fail
    (with_reducible refine (HCL.out).mono ?_); rintro e w2 ⟨v, rfl, hown, hb2⟩
    obtain ⟨g, cap, rfl, hti⟩ : ∃ g cap, v = .slice (some ⟨g, 0, none⟩) n cap ∧ TI .f64 27 w n g cap back (zs.map (fun z => Value.complex .f64 (can .f64 z.1) (can .f64 z.2))) (levs back (zfun zs) 0) w2 := by
      have h0 := hown
      rcases h0.2 with ⟨_, hn0⟩ | ⟨g, cap, cur, rfl, _⟩
      · have := (pow4 m HM.out 0 (by omega)).2.1
        have h1 := HT.out.2.2.2
        have h2 := HN.out
        have := Nat.two_pow_pos 1
        have h3 : 0 < 4 ^ m := Nat.pow_pos (by decide)
        omega
      · refine ⟨g, cap, by rw [HT.out.2.2.2], ?_⟩
        have ho := hown.vals.base (b' := w.heap.size + 1) (by have := HT.out.2.1; omega)
        rw [HT.out.2.2.2] at ho
        refine ⟨by rw [List.length_map]; exact HT.out.2.2.2, ho, HT.out.1.trans (hb2.mono HT.out.1.size), fun d hd => (hb2.cell (by have := HT.out.2.1; show w.heap.size < _; omega)).trans (HT.out.2.2.1 d hd), fun j hj => ?_⟩
        rw [List.length_map] at hj
        have e : levs back (zfun zs) 0 j = zs[j] := by simp [levs, zfun, hj]
        rw [e, List.getElem_map]
        exact Cx.can _ _
    have HTI := Lib.hid hti
    clear hown hb2 hti
    go_wp2_with fail
    go_loopg [7, 8, 9, 10, 11, 12, 13, 14, 20, 21, 22, 23, 24, 25, 26, 27, 28, 29, 30, 31, 32, 33, 34, 35, 36, 37, 38, 39, 40, 41, 42, 43, 44, 45, 46, 47, 48, 49, 50, 51, 52, 53, 54, 55, 56, 57, 58, 59, 60, 61, 62, 63, 64, 65, 66, 67, 68, 69, 70, 71, 72, 73, 74, 75, 76, 77, 78] m (fun gk v7 v8 v9 v10 v11 v12 v13 v14 v20 v21 v22 v23 v24 v25 v26 v27 v28 v29 v30 v31 v32 v33 v34 v35 v36 v37 v38 v39 v40 v41 v42 v43 v44 v45 v46 v47 v48 v49 v50 v51 v52 v53 v54 v55 v56 v57 v58 v59 v60 v61 v62 v63 v64 v65 v66 v67 v68 v69 v70 v71 v72 v73 v74 v75 v76 v77 v78 wr => ∃ (t : Nat) (us : List Value), t + gk = m ∧ v7 = .int .i64 ((4 ^ t : Nat) : Int) ∧ TI .f64 27 w n g cap back us (levs back (zfun zs) t) wr)
    case atStart => exact ⟨0, _, by omega, by simp, HTI.out⟩
    case round =>
      obtain ⟨t, us, ht, rfl, hti⟩ := hrel
      have hp := pow4 m HM.out t (by omega)
      rw [HN.out] at hp
      obtain ⟨_, hp0, hp64, hpl, _⟩ : 4 ^ m ≤ 64 ∧ 0 < 4 ^ t ∧ 4 ^ t ≤ 64 ∧ (4 ^ t < n ↔ t < m) ∧ True := ⟨(pow4 m HM.out t (by omega)).1, hp.2.1, hp.2.2.1, hp.2.2.2, trivial⟩
      obtain ⟨s, hs⟩ : ∃ s, 4 ^ t = s := ⟨_, rfl⟩
      have hdv := pow4_dvd m t
      rw [hs] at hp0 hp64 hpl hdv ⊢
      rw [HN.out] at hdv
      clear hp
      by_cases hlt : s < n
      · have hb1 : decide (s < n) = true := decide_eq_true hlt
        have HS := Lib.hid (And.intro hs (And.intro hdv (And.intro hpl (And.intro ht hp0))))
        have HTI2 := Lib.hid hti
        clear hs hdv hpl hti ht
        go_wp2_with fail
        go_loopg [8, 9, 10, 11, 12, 13, 14, 28, 29, 30, 31, 32, 33, 34, 35, 36, 37, 38, 39, 40, 41, 42, 43, 44, 45, 46, 47, 48, 49, 50, 51, 52, 53, 54, 55, 56, 57, 58, 59, 60, 61, 62, 63, 64, 65, 66, 67, 68, 69, 70, 71, 72, 73, 74, 75, 76, 77, 78] n (fun gk v8 v9 v10 v11 v12 v13 v14 v28 v29 v30 v31 v32 v33 v34 v35 v36 v37 v38 v39 v40 v41 v42 v43 v44 v45 v46 v47 v48 v49 v50 v51 v52 v53 v54 v55 v56 v57 v58 v59 v60 v61 v62 v63 v64 v65 v66 v67 v68 v69 v70 v71 v72 v73 v74 v75 v76 v77 v78 wr => ∃ (i : Nat) (us : List Value), i + gk = n ∧ v28 = .int .i64 (i : Int) ∧ TI .f64 27 w n g cap back us (part back s (levs back (zfun zs) t) i) wr)
        case atStart => exact ⟨0, _, by omega, rfl, by rw [part_none]; exact HTI2.out⟩
        case round =>
          obtain ⟨i, us, hi, rfl, hti⟩ := hrel
          by_cases hil : i < n
          · have hb2 : decide (i < n) = true := decide_eq_true hil
            have HTI3 := Lib.hid hti
            clear hti
            obtain ⟨Q, hQ⟩ : ∃ Q, i / s = Q := ⟨_, rfl⟩
            have ed : ((i / s : Nat) : Int) = (i : Int) / (s : Int) := Int.natCast_ediv i s
            have hdl := Nat.div_le_self i s
            rw [hQ] at ed hdl
            have hq : wrap64 ((i : Int) / (s : Int)) = (i : Int) / (s : Int) := by
              rw [← ed]; exact wrap64_in' _ (by omega)
            have hd : ((i : Int) / (s : Int)).tmod 4 = ((dig s i : Nat) : Int) := by
              rw [← ed, Int.tmod_eq_emod_of_nonneg (by omega)]
              unfold dig; rw [hQ]; omega
            clear ed hdl hQ
            by_cases hD : dig s i = 0
            · have hD1 : (((i : Int) / (s : Int)).tmod 4 != 0) = false := by rw [hd, hD]; rfl
              have HD := Lib.hid hD
              clear hD hd
              obtain ⟨W3, hW3⟩ : ∃ W3, wr.alloc (.cells #[.complex .f64 0 0, .complex .f64 0 0, .complex .f64 0 0, .complex .f64 0 0] 101) = W3 := ⟨_, rfl⟩
              obtain ⟨p, hp⟩ : ∃ p, wr.heap.size = p := ⟨_, rfl⟩
              have hti3 : TI .f64 27 w n g cap back us (part back s (levs back (zfun zs) t) i) W3 := by
                rw [← hW3]
                exact HTI3.out.other (World.grownBy_alloc wr _ none) (fun b hb => by cases hb)
              have hin : Own encO 1 101 W3 (w.heap.size + 1) (.slice (some ⟨p, 0, none⟩) 4 4) [.complex .f64 0 0, .complex .f64 0 0, .complex .f64 0 0, .complex .f64 0 0] := by
                rw [← hW3, ← hp]
                have := HTI3.out.block
                have h := World.ownsRow_lit (e := 101) (size := 1) wr #[.complex .f64 0 0, .complex .f64 0 0, .complex .f64 0 0, .complex .f64 0 0] 4 (base := w.heap.size + 1) (by omega) (by decide) (by decide)
                exact h
              have hgp : g < p := by have := HTI3.out.block; omega
              have HW3 := Lib.hid (And.intro hW3 (And.intro hp (And.intro hti3 (And.intro hin hgp))))
              clear hW3 hp hti3 hin hgp
              go_upto_region 13 with fail
              rw [HW3.out.1, HW3.out.2.1]
              go_wp2_with fail
              go_loopg [10, 36, 37, 38, 39, 40, 41, 42, 43, 44, 45, 46, 47, 48, 49] 4 (fun gk v10 v36 v37 v38 v39 v40 v41 v42 v43 v44 v45 v46 v47 v48 v49 wr => ∃ (a : Nat) (ins : List Value), a + gk = 4 ∧ v36 = .int .i64 (a : Int) ∧ ins.length = 4 ∧ Own encO 1 101 wr (w.heap.size + 1) (.slice (some ⟨p, 0, none⟩) 4 4) ins ∧ TI .f64 27 w n g cap back us (part back s (levs back (zfun zs) t) i) wr ∧ ∀ d, d < a → ins[d]? = us[i + d * s]?)
              case atStart => exact ⟨0, _, rfl, rfl, rfl, HW3.out.2.2.2.1, HW3.out.2.2.1, fun d hd => by omega⟩
              case round =>
                obtain ⟨a, ins, ha, rfl, hil4, hin, hti4, hins⟩ := hrel
                by_cases ha4 : a < 4
                · have hb3 : decide ((a : Int) < 4) = true := decide_eq_true (by omega)
                  have hwl := wing_lt HS.out.2.2.2.2 (HS.out.2.1 (HS.out.2.2.1.1 hlt)) HD.out hil a ha4
                  obtain ⟨P, hP⟩ : ∃ P, a * s = P := ⟨_, rfl⟩
                  have hPi : (a : Int) * (s : Int) = (P : Int) := by rw [← hP]; exact (Int.natCast_mul a s).symm
                  rw [hP] at hwl
                  have hus : i + P < us.length := by rw [hti4.len]; exact hwl
                  obtain ⟨c1, c2⟩ := hti4.cell (i + P) hus
                  have hia : a < ins.length := by omega
                  obtain ⟨c3, c4⟩ := hin.cell lenO hil4 a hia 0 ins[a] rfl
                  simp only [Nat.mul_one, Nat.add_zero] at c3 c4
                  obtain ⟨r, im, hru, hfr, hfi⟩ := hti4.val (i + P) hus
                  rw [hru] at c1
                  have hset := hin.set lenO hil4 a hia 0 (by decide) (.complex .f64 r im) (.complex .f64 r im) rfl
                  simp only [Nat.mul_one, Nat.add_zero] at hset
                  have hti5 := hti4.other hset.2 (fun b hb => by cases hb; have := HW3.out.2.2.2.2; have := hti4.block; omega)
                  have H5 := Lib.hid (And.intro hset (And.intro hti5 (And.intro hins (And.intro hru (And.intro hil4 hP)))))
                  clear hset hti5 hins hru hin hti4 hil4 hP
                  go_wp2_with fail
                  go_roundg (4 - (a + 1))
                  case measure => omega
                  case rel =>
                    refine ⟨a + 1, ins.set a (.complex .f64 r im), by omega, by go_num, by rw [List.length_set]; exact H5.out.2.2.2.2.1, H5.out.1.1, H5.out.2.1, fun d hd => ?_⟩
                    rw [List.getElem?_set]
                    by_cases e : a = d
                    · subst e
                      rw [if_pos rfl, if_pos hia, H5.out.2.2.2.2.2, List.getElem?_eq_getElem hus, H5.out.2.2.2.1]
                    · rw [if_neg e]; exact H5.out.2.2.1 d (by omega)
                · have hb3 : decide ((a : Int) < 4) = false := decide_eq_false (by omega)
                  obtain rfl : a = 4 := by omega
                  have hbl := fun d (hd : d < 4) => wing_lt HS.out.2.2.2.2 (HS.out.2.1 (HS.out.2.2.1.1 hlt)) HD.out hil d hd
                  have hpa := fun d (hd : d < 4) => part_at back HS.out.2.2.2.2 (levs back (zfun zs) t) HD.out d hd
                  obtain ⟨x0, x1, x2, x3, rfl, hx⟩ : ∃ x0 x1 x2 x3, ins = [x0, x1, x2, x3] ∧ ∀ d (hd : d < 4), Cx .f64 ([x0, x1, x2, x3][d]'hd) (levs back (zfun zs) t (i + d * s)) := by
                    match ins, hil4 with
                    | [x0, x1, x2, x3], _ =>
                      refine ⟨x0, x1, x2, x3, rfl, fun d hd => ?_⟩
                      have h1 := hins d hd
                      have h2 : i + d * s < us.length := by rw [hti4.len]; exact hbl d hd
                      rw [List.getElem?_eq_getElem h2, List.getElem?_eq_getElem (by exact hd)] at h1
                      have h3 := hti4.val _ h2
                      rw [hpa d hd] at h3
                      rw [Option.some.inj h1]; exact h3
                  have HL := Lib.hid (And.intro hin (And.intro hti4 (And.intro hx (And.intro hbl hpa))))
                  clear hin hti4 hx hins hbl hpa hil4
                  go_wp2_with fail
                  go_loopg [11, 12, 13, 14, 50, 51, 52, 53, 54, 55, 56, 57, 58, 59, 60, 61, 62, 63, 64, 65, 66, 67, 68, 69, 70, 71, 72, 73, 74, 75, 76, 77] 4 (fun gk v11 v12 v13 v14 v50 v51 v52 v53 v54 v55 v56 v57 v58 v59 v60 v61 v62 v63 v64 v65 v66 v67 v68 v69 v70 v71 v72 v73 v74 v75 v76 v77 wr => ∃ (b : Nat) (us : List Value), b + gk = 4 ∧ v50 = .int .i64 (b : Int) ∧ Own encO 1 101 wr (w.heap.size + 1) (.slice (some ⟨p, 0, none⟩) 4 4) [x0, x1, x2, x3] ∧ TI .f64 27 w n g cap back us (part4 back s (levs back (zfun zs) t) i b) wr)
                  case atStart => exact ⟨0, _, rfl, rfl, HL.out.1, by rw [part4_zero]; exact HL.out.2.1⟩
                  case round =>
                    obtain ⟨b, us, hb, rfl, hin, hti⟩ := hrel
                    by_cases hb4 : b < 4
                    · have hb5 : decide ((b : Int) < 4) = true := decide_eq_true (by omega)
                      obtain ⟨B, hB⟩ : ∃ B, 4 ^ t * M = B := ⟨_, rfl⟩
                      have hB8 : 8 * B < 2 ^ 24 := by
                        have h1 := HX.out.2.2.2.1
                        have h2 : 4 ^ (t + 1) * M ≤ 4 ^ m * M := Nat.mul_le_mul_right _ (Nat.pow_le_pow_right (by decide) (by have := HS.out.2.2.1.1 hlt; omega))
                        rw [Nat.pow_succ', Nat.mul_assoc, hB] at h2
                        omega
                      have hgz := fun j => gb_levs HX.out.2.2.2.2 back t j
                      rw [hB] at hgz
                      have hcell := fun (d : Nat) (hd : d < 4) => (hin.cell lenO rfl d hd 0 ([x0, x1, x2, x3][d]'hd) rfl).1
                      have q0 := hcell 0 (by decide)
                      have q1 := hcell 1 (by decide)
                      have q2 := hcell 2 (by decide)
                      have q3 := hcell 3 (by decide)
                      simp at q0 q1 q2 q3
                      have t0 := hti.tur 0 (by decide)
                      have t1 := hti.tur 1 (by decide)
                      have t2 := hti.tur 2 (by decide)
                      have t3 := hti.tur 3 (by decide)
                      have HT4 := Lib.hid (And.intro hin (And.intro hti (And.intro hB (And.intro hB8 hgz))))
                      clear hin hti hB hB8 hgz hcell
                      go_wp2_with fail
                      go_loopg [12, 13, 14, 54, 55, 56, 57, 58, 59, 60, 61, 62, 63, 64, 65, 66, 67, 68] 4 (fun gk v12 v13 v14 v54 v55 v56 v57 v58 v59 v60 v61 v62 v63 v64 v65 v66 v67 v68 wx => ∃ a : Nat, a + gk = 4 ∧ v54 = .int .i64 (a : Int) ∧ Cx .f64 v12 (gsum (fun a => gmul (levs back (zfun zs) t (i + a * s)) (tw back (a * b % 4))) a) ∧ wr = wx)
                      case atStart => exact ⟨0, rfl, rfl, zero_cx _, rfl⟩
                      case round =>
                        obtain ⟨a, ha, rfl, hsum, rfl⟩ := hrel
                        by_cases ha4 : a < 4
                        · have hx := HL.out.2.2.1 a ha4
                          obtain ⟨v1, hv1, hm1⟩ := run_cmul (M := B) (N := 1) hx (tv_cx .f64 back (a * b % 4)) (HT4.out.2.2.2.2 _) (gb_tw back _) (by have := HT4.out.2.2.2.1; omega) (by decide) (by have := HT4.out.2.2.2.1; omega) 27
                          have hgs := gb_gsum (f := fun a => gmul (levs back (zfun zs) t (i + a * s)) (tw back (a * b % 4))) a (fun a' _ => gb_mul_tw (HT4.out.2.2.2.2 _) back _)
                          obtain ⟨v2, hv2, hm2⟩ := run_cadd hsum hv1 hgs (gb_mul_tw (HT4.out.2.2.2.2 _) back _) (by have := HT4.out.2.2.2.1; have h9 : a * B ≤ 3 * B := Nat.mul_le_mul_right _ (by omega); omega) 27
                          have HV2 := Lib.hid hv2
                          have hix := fun (w : World) => idx101 x0 x1 x2 x3 w
                          have hi0 := fun w => (hix w).1
                          have hi1 := fun w => (hix w).2.1
                          have hi2 := fun w => (hix w).2.2.1
                          have hi3 := fun w => (hix w).2.2.2
                          clear hix
                          clear hx hv1 hgs hv2 hsum
                          have hca : a = 0 ∨ a = 1 ∨ a = 2 ∨ a = 3 := by omega
                          have hcb : b = 0 ∨ b = 1 ∨ b = 2 ∨ b = 3 := by omega
                          rcases hca with rfl | rfl | rfl | rfl
                          · rcases hcb with rfl | rfl | rfl | rfl
                            all_goals (
                              simp only [Nat.reduceMul, Nat.reduceMod, List.getElem_cons_zero, List.getElem_cons_succ] at hm1
                              go_wp2_with fail
                              go_roundg (gk - 1)
                              case measure => omega
                              case rel => exact ⟨1, by omega, rfl, HV2.out, rfl⟩)
                          · rcases hcb with rfl | rfl | rfl | rfl
                            all_goals (
                              simp only [Nat.reduceMul, Nat.reduceMod, List.getElem_cons_zero, List.getElem_cons_succ] at hm1
                              go_wp2_with fail
                              go_roundg (gk - 1)
                              case measure => omega
                              case rel => exact ⟨2, by omega, rfl, HV2.out, rfl⟩)
                          · rcases hcb with rfl | rfl | rfl | rfl
                            all_goals (
                              simp only [Nat.reduceMul, Nat.reduceMod, List.getElem_cons_zero, List.getElem_cons_succ] at hm1
                              go_wp2_with fail
                              go_roundg (gk - 1)
                              case measure => omega
                              case rel => exact ⟨3, by omega, rfl, HV2.out, rfl⟩)
                          · rcases hcb with rfl | rfl | rfl | rfl
                            all_goals (
                              simp only [Nat.reduceMul, Nat.reduceMod, List.getElem_cons_zero, List.getElem_cons_succ] at hm1
                              go_wp2_with fail
                              go_roundg (gk - 1)
                              case measure => omega
                              case rel => exact ⟨4, by omega, rfl, HV2.out, rfl⟩)
                        · have hb6 : decide ((a : Int) < 4) = false := decide_eq_false (by omega)
                          obtain rfl : a = 4 := by omega
                          have hwl := HL.out.2.2.2.1 b hb4
                          obtain ⟨P, hP⟩ : ∃ P, b * s = P := ⟨_, rfl⟩
                          have hPi : (b : Int) * (s : Int) = (P : Int) := by rw [← hP]; exact (Int.natCast_mul b s).symm
                          rw [hP] at hwl
                          obtain ⟨r, im, rfl, hfr, hfi⟩ := hsum
                          have hus : i + P < us.length := by rw [HT4.out.2.1.len]; exact hwl
                          obtain ⟨c1, c2⟩ := HT4.out.2.1.cell (i + P) hus
                          have hti6 := HT4.out.2.1.set (i + P) hus (.complex .f64 r im) (F' := part4 back s (levs back (zfun zs) t) i (b + 1)) (fun j _ hne => by rw [part4_set back HS.out.2.2.2.2 _ HD.out b hb4, hP, if_neg hne]) (by rw [part4_set back HS.out.2.2.2.2 _ HD.out b hb4, hP, if_pos rfl]; exact ⟨r, im, rfl, hfr, hfi⟩)
                          have hin6 := HT4.out.1.grown (HT4.out.2.1.own.set lenO HT4.out.2.1.len (i + P) hus 0 (by decide) (.complex .f64 r im) (.complex .f64 r im) rfl).2 (Or.inr (fun e => by have h1 := HW3.out.2.2.2.2; have h2 : p = g := Option.some.inj (show some p = some g from e); omega))
                          simp only [Nat.mul_one, Nat.add_zero] at hin6
                          have H6 := Lib.hid (And.intro hti6 hin6)
                          clear hti6 hin6 hfr hfi hP q0 q1 q2 q3 t0 t1 t2 t3
                          go_wp2_with fail
                          go_roundg (4 - (b + 1))
                          case measure => omega
                          case rel => exact ⟨b + 1, _, by omega, by go_num, H6.out.2, H6.out.1⟩
                    · have hb5 : decide ((b : Int) < 4) = false := decide_eq_false (by omega)
                      obtain rfl : b = 4 := by omega
                      have H7 := Lib.hid hti
                      clear hti hin
                      go_wp2_with fail
                      go_roundg (n - (i + 1))
                      case measure => omega
                      case rel => exact ⟨i + 1, us, by omega, by go_num, by rw [← part4_four]; exact H7.out⟩
            · have hD1 : (((i : Int) / (s : Int)).tmod 4 != 0) = true := by rw [hd, bne_iff_ne]; omega
              have HD := Lib.hid hD
              clear hD hd
              go_wp2_with fail
              go_roundg (n - (i + 1))
              case measure => omega
              case rel => exact ⟨i + 1, us, by omega, by go_num, by rw [part_skip back HS.out.2.2.2.2 _ i HD.out]; exact HTI3.out⟩
          · have hb2 : decide (i < n) = false := decide_eq_false hil
            obtain rfl : i = n := by omega
            have HTI3 := Lib.hid hti
            clear hti
            have hw4 : IntKind.i64.wrap ((s : Int) * 4) = ((4 * s : Nat) : Int) := by rw [IntKind.wrap_i64]; omega
            go_wp2_with fail
            go_roundg (m - (t + 1))
            case measure => have := HS.out.2.2.2.1; have := HS.out.2.2.1.1 hlt; omega
            case rel =>
              refine ⟨t + 1, us, by have := HS.out.2.2.2.1; have := HS.out.2.2.1.1 hlt; omega, ?_, ?_⟩
              · rw [Nat.pow_succ', HS.out.1]; exact congrArg (Value.int .i64) (by omega)
              · refine HTI3.out.congr fun j hj => ?_
                rw [part_all back s _ _ j hj]
                show lev back (4 ^ t) _ j = _
                rw [HS.out.1]
      · have hb1 : decide (s < n) = false := decide_eq_false hlt
        obtain rfl : t = m := by
          by_cases h9 : t < m
          · exact absurd (hpl.2 h9) hlt
          · omega
        have hps := positive33_calls us n hti.len (levs back (zfun zs) t) (4 ^ t * M) (by have := HX.out.2.2.2.1; omega) (fun j hj => ⟨hti.val j hj, gb_levs HX.out.2.2.2.2 back t j⟩) (w.heap.size + 1) g cap wr hti.own (by omega)
        have HPS := Lib.hid hps
        have HTI3 := Lib.hid hti
        clear hps hti hpl hdv
        go_wp2_with fail
        (with_reducible refine (HPS.out).mono ?_); rintro e w5 ⟨rfl, hown, hg⟩
        have HO := Lib.hid (And.intro hown hg)
        clear hown hg
        go_wp2_with fail
        go_ret
        have hbk := HTI3.out.block
        refine ⟨_, rfl, ?_, HTI3.out.low.grown HO.out.2 HTI3.out.low.size (fun b hb => by cases hb; omega)⟩
        have ho := HO.out.1.base (b' := w.heap.size) (by omega)
        unfold tr
        rw [HN.out]; exact ho

theorem idx104 (x0 x1 x2 x3 : Value) (w : World) : (Instr.index 104 (.agg #[x0, x1, x2, x3]) (.int .i64 0)).run Try.prog w = .ok x0 w ∧ (Instr.index 104 (.agg #[x0, x1, x2, x3]) (.int .i64 1)).run Try.prog w = .ok x1 w ∧ (Instr.index 104 (.agg #[x0, x1, x2, x3]) (.int .i64 2)).run Try.prog w = .ok x2 w ∧ (Instr.index 104 (.agg #[x0, x1, x2, x3]) (.int .i64 3)).run Try.prog w = .ok x3 w := by
  refine ⟨?_, ?_, ?_, ?_⟩ <;> (simp [Instr.index, run_underlying Try.underlying104, asIntOf, go_sem]; try rfl)
theorem tr32_calls (back : Bool) (zs : List G) (m : Nat) (hm : m ≤ 3) (hlen : zs.length = 4 ^ m) (M : Nat) (hM : 2 * (4 ^ m * M) < 2 ^ 24) (hz : ∀ z ∈ zs, gb M z) (A : Option Addr) (c : Nat) (w : World) (hx : Rd (encG .f32) 1 w A zs) :
    Calls Try.prog 32 #[.slice A (4 ^ m : Nat) c, .bool back] w (ClonePost (encG .f32) 1 29 (tr back m zs) w) := by
  have hgb : ∀ j, gb M (zfun zs j) := fun j => by
    unfold zfun
    rw [List.getD_eq_getElem?_getD]
    cases h : zs[j]? with
    | none => simp [gb]
    | some z => exact hz z (List.mem_of_getElem? h)
  obtain ⟨n, hn⟩ : ∃ n, 4 ^ m = n := ⟨_, rfl⟩
  have h64 := (pow4 m hm 0 (by omega)).1
  have HX := Lib.hid (And.intro hx (And.intro hlen (And.intro hz (And.intro hM hgb))))
  have HM := Lib.hid hm
  have HN := Lib.hid hn
  have hn64 : n ≤ 64 := by omega
  rw [hn]
  clear hx hz hgb hM hm hn h64 hlen
  go_enter Try.func32, Try.ntmps32
  go_upto_region 2 with fail
  obtain ⟨W, hW⟩ : ∃ W, w.alloc (.cells #[.complex .f32 1065353216 0, .complex .f32 0 3212836864, .complex .f32 3212836864 0, .complex .f32 0 1065353216] 104) = W := ⟨_, rfl⟩
  have hb : Below w.heap.size w W := by rw [← hW]; exact (Below.refl _ _).alloc (Nat.le_refl _) _
  have hr : W.heap[w.heap.size]? = some (.cells #[.complex .f32 1065353216 0, .complex .f32 0 3212836864, .complex .f32 3212836864 0, .complex .f32 0 1065353216] 104 (0, 0)) := by rw [← hW]; exact heap_alloc_new w _
  have hsz : W.heap.size = w.heap.size + 1 := by rw [← hW]; simp
  rw [hW]
  go_upto_if 16 with fail
  go_cut [17] (fun s17 wx => Below w.heap.size w wx ∧ wx.heap.size = w.heap.size + 1 ∧ ∀ d, d < 4 → wx.cell? ⟨w.heap.size, d, none⟩ = some (tv .f32 back d))
  case first =>
    cases back with
    | false =>
      go_wp2_with fail
      all_goals go_meet
      all_goals exact ⟨hb, hsz, four_tur (by rw [tv32.1, tv32.2.1, tv32.2.2.1, tv32.2.2.2.1]; exact hr)⟩
    | true =>
      obtain ⟨z0, z1, z2, z3, y0, y1, y2, y3⟩ := four_cells hr
      have HR := Lib.hid hr
      clear hr
      go_wp2_with fail
      all_goals go_meet
      all_goals exact ⟨(((hb.setCell (p := ⟨w.heap.size, 0, none⟩) (Nat.le_refl _) _).setCell (p := ⟨w.heap.size, 1, none⟩) (Nat.le_refl _) _).setCell (p := ⟨w.heap.size, 2, none⟩) (Nat.le_refl _) _).setCell (p := ⟨w.heap.size, 3, none⟩) (Nat.le_refl _) _, by simp only [size_setCell']; exact hsz, four_tur (by rw [tv32.2.2.2.2.1, tv32.2.2.2.2.2.1, tv32.2.2.2.2.2.2.1, tv32.2.2.2.2.2.2.2]; exact four_fill _ _ _ _ HR.out)⟩
  case rest =>
    obtain ⟨hb1, hs1, htur⟩ := hcut
    have hzn : zs.length = n := HX.out.2.1.trans HN.out
    have hcl := clone57_calls A zs c wc (HX.out.1.below hb1) (by omega)
    rw [hzn] at hcl
    have HCL := Lib.hid hcl
    have HT := Lib.hid (And.intro hb1 (And.intro hs1 (And.intro htur hzn)))
    clear hb1 hs1 htur hzn hcl hr hW hb hsz
    go_upto_region 4 with fail
    go_wp2_with fail
    (with_reducible refine (HCL.out).mono ?_); rintro e w2 ⟨v, rfl, hown, hb2⟩
    obtain ⟨g, cap, rfl, hti⟩ : ∃ g cap, v = .slice (some ⟨g, 0, none⟩) n cap ∧ TI .f32 29 w n g cap back (zs.map (fun z => Value.complex .f32 (can .f32 z.1) (can .f32 z.2))) (levs back (zfun zs) 0) w2 := by
      have h0 := hown
      rcases h0.2 with ⟨_, hn0⟩ | ⟨g, cap, cur, rfl, _⟩
      · have := (pow4 m HM.out 0 (by omega)).2.1
        have h1 := HT.out.2.2.2
        have h2 := HN.out
        have := Nat.two_pow_pos 1
        have h3 : 0 < 4 ^ m := Nat.pow_pos (by decide)
        omega
      · refine ⟨g, cap, by rw [HT.out.2.2.2], ?_⟩
        have ho := hown.vals.base (b' := w.heap.size + 1) (by have := HT.out.2.1; omega)
        rw [HT.out.2.2.2] at ho
        refine ⟨by rw [List.length_map]; exact HT.out.2.2.2, ho, HT.out.1.trans (hb2.mono HT.out.1.size), fun d hd => (hb2.cell (by have := HT.out.2.1; show w.heap.size < _; omega)).trans (HT.out.2.2.1 d hd), fun j hj => ?_⟩
        rw [List.length_map] at hj
        have e : levs back (zfun zs) 0 j = zs[j] := by simp [levs, zfun, hj]
        rw [e, List.getElem_map]
        exact Cx.can _ _
    have HTI := Lib.hid hti
    clear hown hb2 hti
    go_wp2_with fail
    go_loopg [7, 8, 9, 10, 11, 12, 13, 14, 20, 21, 22, 23, 24, 25, 26, 27, 28, 29, 30, 31, 32, 33, 34, 35, 36, 37, 38, 39, 40, 41, 42, 43, 44, 45, 46, 47, 48, 49, 50, 51, 52, 53, 54, 55, 56, 57, 58, 59, 60, 61, 62, 63, 64, 65, 66, 67, 68, 69, 70, 71, 72, 73, 74, 75, 76, 77, 78] m (fun gk v7 v8 v9 v10 v11 v12 v13 v14 v20 v21 v22 v23 v24 v25 v26 v27 v28 v29 v30 v31 v32 v33 v34 v35 v36 v37 v38 v39 v40 v41 v42 v43 v44 v45 v46 v47 v48 v49 v50 v51 v52 v53 v54 v55 v56 v57 v58 v59 v60 v61 v62 v63 v64 v65 v66 v67 v68 v69 v70 v71 v72 v73 v74 v75 v76 v77 v78 wr => ∃ (t : Nat) (us : List Value), t + gk = m ∧ v7 = .int .i64 ((4 ^ t : Nat) : Int) ∧ TI .f32 29 w n g cap back us (levs back (zfun zs) t) wr)
    case atStart => exact ⟨0, _, by omega, by simp, HTI.out⟩
    case round =>
      obtain ⟨t, us, ht, rfl, hti⟩ := hrel
      have hp := pow4 m HM.out t (by omega)
      rw [HN.out] at hp
      obtain ⟨_, hp0, hp64, hpl, _⟩ : 4 ^ m ≤ 64 ∧ 0 < 4 ^ t ∧ 4 ^ t ≤ 64 ∧ (4 ^ t < n ↔ t < m) ∧ True := ⟨(pow4 m HM.out t (by omega)).1, hp.2.1, hp.2.2.1, hp.2.2.2, trivial⟩
      obtain ⟨s, hs⟩ : ∃ s, 4 ^ t = s := ⟨_, rfl⟩
      have hdv := pow4_dvd m t
      rw [hs] at hp0 hp64 hpl hdv ⊢
      rw [HN.out] at hdv
      clear hp
      by_cases hlt : s < n
      · have hb1 : decide (s < n) = true := decide_eq_true hlt
        have HS := Lib.hid (And.intro hs (And.intro hdv (And.intro hpl (And.intro ht hp0))))
        have HTI2 := Lib.hid hti
        clear hs hdv hpl hti ht
        go_wp2_with fail
        go_loopg [8, 9, 10, 11, 12, 13, 14, 28, 29, 30, 31, 32, 33, 34, 35, 36, 37, 38, 39, 40, 41, 42, 43, 44, 45, 46, 47, 48, 49, 50, 51, 52, 53, 54, 55, 56, 57, 58, 59, 60, 61, 62, 63, 64, 65, 66, 67, 68, 69, 70, 71, 72, 73, 74, 75, 76, 77, 78] n (fun gk v8 v9 v10 v11 v12 v13 v14 v28 v29 v30 v31 v32 v33 v34 v35 v36 v37 v38 v39 v40 v41 v42 v43 v44 v45 v46 v47 v48 v49 v50 v51 v52 v53 v54 v55 v56 v57 v58 v59 v60 v61 v62 v63 v64 v65 v66 v67 v68 v69 v70 v71 v72 v73 v74 v75 v76 v77 v78 wr => ∃ (i : Nat) (us : List Value), i + gk = n ∧ v28 = .int .i64 (i : Int) ∧ TI .f32 29 w n g cap back us (part back s (levs back (zfun zs) t) i) wr)
        case atStart => exact ⟨0, _, by omega, rfl, by rw [part_none]; exact HTI2.out⟩
        case round =>
          obtain ⟨i, us, hi, rfl, hti⟩ := hrel
          by_cases hil : i < n
          · have hb2 : decide (i < n) = true := decide_eq_true hil
            have HTI3 := Lib.hid hti
            clear hti
            obtain ⟨Q, hQ⟩ : ∃ Q, i / s = Q := ⟨_, rfl⟩
            have ed : ((i / s : Nat) : Int) = (i : Int) / (s : Int) := Int.natCast_ediv i s
            have hdl := Nat.div_le_self i s
            rw [hQ] at ed hdl
            have hq : wrap64 ((i : Int) / (s : Int)) = (i : Int) / (s : Int) := by
              rw [← ed]; exact wrap64_in' _ (by omega)
            have hd : ((i : Int) / (s : Int)).tmod 4 = ((dig s i : Nat) : Int) := by
              rw [← ed, Int.tmod_eq_emod_of_nonneg (by omega)]
              unfold dig; rw [hQ]; omega
            clear ed hdl hQ
            by_cases hD : dig s i = 0
            · have hD1 : (((i : Int) / (s : Int)).tmod 4 != 0) = false := by rw [hd, hD]; rfl
              have HD := Lib.hid hD
              clear hD hd
              obtain ⟨W3, hW3⟩ : ∃ W3, wr.alloc (.cells #[.complex .f32 0 0, .complex .f32 0 0, .complex .f32 0 0, .complex .f32 0 0] 104) = W3 := ⟨_, rfl⟩
              obtain ⟨p, hp⟩ : ∃ p, wr.heap.size = p := ⟨_, rfl⟩
              have hti3 : TI .f32 29 w n g cap back us (part back s (levs back (zfun zs) t) i) W3 := by
                rw [← hW3]
                exact HTI3.out.other (World.grownBy_alloc wr _ none) (fun b hb => by cases hb)
              have hin : Own encO 1 104 W3 (w.heap.size + 1) (.slice (some ⟨p, 0, none⟩) 4 4) [.complex .f32 0 0, .complex .f32 0 0, .complex .f32 0 0, .complex .f32 0 0] := by
                rw [← hW3, ← hp]
                have := HTI3.out.block
                have h := World.ownsRow_lit (e := 104) (size := 1) wr #[.complex .f32 0 0, .complex .f32 0 0, .complex .f32 0 0, .complex .f32 0 0] 4 (base := w.heap.size + 1) (by omega) (by decide) (by decide)
                exact h
              have hgp : g < p := by have := HTI3.out.block; omega
              have HW3 := Lib.hid (And.intro hW3 (And.intro hp (And.intro hti3 (And.intro hin hgp))))
              clear hW3 hp hti3 hin hgp
              go_upto_region 13 with fail
              rw [HW3.out.1, HW3.out.2.1]
              go_wp2_with fail
              go_loopg [10, 36, 37, 38, 39, 40, 41, 42, 43, 44, 45, 46, 47, 48, 49] 4 (fun gk v10 v36 v37 v38 v39 v40 v41 v42 v43 v44 v45 v46 v47 v48 v49 wr => ∃ (a : Nat) (ins : List Value), a + gk = 4 ∧ v36 = .int .i64 (a : Int) ∧ ins.length = 4 ∧ Own encO 1 104 wr (w.heap.size + 1) (.slice (some ⟨p, 0, none⟩) 4 4) ins ∧ TI .f32 29 w n g cap back us (part back s (levs back (zfun zs) t) i) wr ∧ ∀ d, d < a → ins[d]? = us[i + d * s]?)
              case atStart => exact ⟨0, _, rfl, rfl, rfl, HW3.out.2.2.2.1, HW3.out.2.2.1, fun d hd => by omega⟩
              case round =>
                obtain ⟨a, ins, ha, rfl, hil4, hin, hti4, hins⟩ := hrel
                by_cases ha4 : a < 4
                · have hb3 : decide ((a : Int) < 4) = true := decide_eq_true (by omega)
                  have hwl := wing_lt HS.out.2.2.2.2 (HS.out.2.1 (HS.out.2.2.1.1 hlt)) HD.out hil a ha4
                  obtain ⟨P, hP⟩ : ∃ P, a * s = P := ⟨_, rfl⟩
                  have hPi : (a : Int) * (s : Int) = (P : Int) := by rw [← hP]; exact (Int.natCast_mul a s).symm
                  rw [hP] at hwl
                  have hus : i + P < us.length := by rw [hti4.len]; exact hwl
                  obtain ⟨c1, c2⟩ := hti4.cell (i + P) hus
                  have hia : a < ins.length := by omega
                  obtain ⟨c3, c4⟩ := hin.cell lenO hil4 a hia 0 ins[a] rfl
                  simp only [Nat.mul_one, Nat.add_zero] at c3 c4
                  obtain ⟨r, im, hru, hfr, hfi⟩ := hti4.val (i + P) hus
                  rw [hru] at c1
                  have hset := hin.set lenO hil4 a hia 0 (by decide) (.complex .f32 r im) (.complex .f32 r im) rfl
                  simp only [Nat.mul_one, Nat.add_zero] at hset
                  have hti5 := hti4.other hset.2 (fun b hb => by cases hb; have := HW3.out.2.2.2.2; have := hti4.block; omega)
                  have H5 := Lib.hid (And.intro hset (And.intro hti5 (And.intro hins (And.intro hru (And.intro hil4 hP)))))
                  clear hset hti5 hins hru hin hti4 hil4 hP
                  go_wp2_with fail
                  go_roundg (4 - (a + 1))
                  case measure => omega
                  case rel =>
                    refine ⟨a + 1, ins.set a (.complex .f32 r im), by omega, by go_num, by rw [List.length_set]; exact H5.out.2.2.2.2.1, H5.out.1.1, H5.out.2.1, fun d hd => ?_⟩
                    rw [List.getElem?_set]
                    by_cases e : a = d
                    · subst e
                      rw [if_pos rfl, if_pos hia, H5.out.2.2.2.2.2, List.getElem?_eq_getElem hus, H5.out.2.2.2.1]
                    · rw [if_neg e]; exact H5.out.2.2.1 d (by omega)
                · have hb3 : decide ((a : Int) < 4) = false := decide_eq_false (by omega)
                  obtain rfl : a = 4 := by omega
                  have hbl := fun d (hd : d < 4) => wing_lt HS.out.2.2.2.2 (HS.out.2.1 (HS.out.2.2.1.1 hlt)) HD.out hil d hd
                  have hpa := fun d (hd : d < 4) => part_at back HS.out.2.2.2.2 (levs back (zfun zs) t) HD.out d hd
                  obtain ⟨x0, x1, x2, x3, rfl, hx⟩ : ∃ x0 x1 x2 x3, ins = [x0, x1, x2, x3] ∧ ∀ d (hd : d < 4), Cx .f32 ([x0, x1, x2, x3][d]'hd) (levs back (zfun zs) t (i + d * s)) := by
                    match ins, hil4 with
                    | [x0, x1, x2, x3], _ =>
                      refine ⟨x0, x1, x2, x3, rfl, fun d hd => ?_⟩
                      have h1 := hins d hd
                      have h2 : i + d * s < us.length := by rw [hti4.len]; exact hbl d hd
                      rw [List.getElem?_eq_getElem h2, List.getElem?_eq_getElem (by exact hd)] at h1
                      have h3 := hti4.val _ h2
                      rw [hpa d hd] at h3
                      rw [Option.some.inj h1]; exact h3
                  have HL := Lib.hid (And.intro hin (And.intro hti4 (And.intro hx (And.intro hbl hpa))))
                  clear hin hti4 hx hins hbl hpa hil4
                  go_wp2_with fail
                  go_loopg [11, 12, 13, 14, 50, 51, 52, 53, 54, 55, 56, 57, 58, 59, 60, 61, 62, 63, 64, 65, 66, 67, 68, 69, 70, 71, 72, 73, 74, 75, 76, 77] 4 (fun gk v11 v12 v13 v14 v50 v51 v52 v53 v54 v55 v56 v57 v58 v59 v60 v61 v62 v63 v64 v65 v66 v67 v68 v69 v70 v71 v72 v73 v74 v75 v76 v77 wr => ∃ (b : Nat) (us : List Value), b + gk = 4 ∧ v50 = .int .i64 (b : Int) ∧ Own encO 1 104 wr (w.heap.size + 1) (.slice (some ⟨p, 0, none⟩) 4 4) [x0, x1, x2, x3] ∧ TI .f32 29 w n g cap back us (part4 back s (levs back (zfun zs) t) i b) wr)
                  case atStart => exact ⟨0, _, rfl, rfl, HL.out.1, by rw [part4_zero]; exact HL.out.2.1⟩
                  case round =>
                    obtain ⟨b, us, hb, rfl, hin, hti⟩ := hrel
                    by_cases hb4 : b < 4
                    · have hb5 : decide ((b : Int) < 4) = true := decide_eq_true (by omega)
                      obtain ⟨B, hB⟩ : ∃ B, 4 ^ t * M = B := ⟨_, rfl⟩
                      have hB8 : 8 * B < 2 ^ 24 := by
                        have h1 := HX.out.2.2.2.1
                        have h2 : 4 ^ (t + 1) * M ≤ 4 ^ m * M := Nat.mul_le_mul_right _ (Nat.pow_le_pow_right (by decide) (by have := HS.out.2.2.1.1 hlt; omega))
                        rw [Nat.pow_succ', Nat.mul_assoc, hB] at h2
                        omega
                      have hgz := fun j => gb_levs HX.out.2.2.2.2 back t j
                      rw [hB] at hgz
                      have hcell := fun (d : Nat) (hd : d < 4) => (hin.cell lenO rfl d hd 0 ([x0, x1, x2, x3][d]'hd) rfl).1
                      have q0 := hcell 0 (by decide)
                      have q1 := hcell 1 (by decide)
                      have q2 := hcell 2 (by decide)
                      have q3 := hcell 3 (by decide)
                      simp at q0 q1 q2 q3
                      have t0 := hti.tur 0 (by decide)
                      have t1 := hti.tur 1 (by decide)
                      have t2 := hti.tur 2 (by decide)
                      have t3 := hti.tur 3 (by decide)
                      have HT4 := Lib.hid (And.intro hin (And.intro hti (And.intro hB (And.intro hB8 hgz))))
                      clear hin hti hB hB8 hgz hcell
                      go_wp2_with fail
                      go_loopg [12, 13, 14, 54, 55, 56, 57, 58, 59, 60, 61, 62, 63, 64, 65, 66, 67, 68] 4 (fun gk v12 v13 v14 v54 v55 v56 v57 v58 v59 v60 v61 v62 v63 v64 v65 v66 v67 v68 wx => ∃ a : Nat, a + gk = 4 ∧ v54 = .int .i64 (a : Int) ∧ Cx .f32 v12 (gsum (fun a => gmul (levs back (zfun zs) t (i + a * s)) (tw back (a * b % 4))) a) ∧ wr = wx)
                      case atStart => exact ⟨0, rfl, rfl, zero_cx _, rfl⟩
                      case round =>
                        obtain ⟨a, ha, rfl, hsum, rfl⟩ := hrel
                        by_cases ha4 : a < 4
                        · have hx := HL.out.2.2.1 a ha4
                          obtain ⟨v1, hv1, hm1⟩ := run_cmul (M := B) (N := 1) hx (tv_cx .f32 back (a * b % 4)) (HT4.out.2.2.2.2 _) (gb_tw back _) (by have := HT4.out.2.2.2.1; omega) (by decide) (by have := HT4.out.2.2.2.1; omega) 29
                          have hgs := gb_gsum (f := fun a => gmul (levs back (zfun zs) t (i + a * s)) (tw back (a * b % 4))) a (fun a' _ => gb_mul_tw (HT4.out.2.2.2.2 _) back _)
                          obtain ⟨v2, hv2, hm2⟩ := run_cadd hsum hv1 hgs (gb_mul_tw (HT4.out.2.2.2.2 _) back _) (by have := HT4.out.2.2.2.1; have h9 : a * B ≤ 3 * B := Nat.mul_le_mul_right _ (by omega); omega) 29
                          have HV2 := Lib.hid hv2
                          have hix := fun (w : World) => idx104 x0 x1 x2 x3 w
                          have hi0 := fun w => (hix w).1
                          have hi1 := fun w => (hix w).2.1
                          have hi2 := fun w => (hix w).2.2.1
                          have hi3 := fun w => (hix w).2.2.2
                          clear hix
                          clear hx hv1 hgs hv2 hsum
                          have hca : a = 0 ∨ a = 1 ∨ a = 2 ∨ a = 3 := by omega
                          have hcb : b = 0 ∨ b = 1 ∨ b = 2 ∨ b = 3 := by omega
                          rcases hca with rfl | rfl | rfl | rfl
                          · rcases hcb with rfl | rfl | rfl | rfl
                            all_goals (
                              simp only [Nat.reduceMul, Nat.reduceMod, List.getElem_cons_zero, List.getElem_cons_succ] at hm1
                              go_wp2_with fail
                              go_roundg (gk - 1)
                              case measure => omega
                              case rel => exact ⟨1, by omega, rfl, HV2.out, rfl⟩)
                          · rcases hcb with rfl | rfl | rfl | rfl
                            all_goals (
                              simp only [Nat.reduceMul, Nat.reduceMod, List.getElem_cons_zero, List.getElem_cons_succ] at hm1
                              go_wp2_with fail
                              go_roundg (gk - 1)
                              case measure => omega
                              case rel => exact ⟨2, by omega, rfl, HV2.out, rfl⟩)
                          · rcases hcb with rfl | rfl | rfl | rfl
                            all_goals (
                              simp only [Nat.reduceMul, Nat.reduceMod, List.getElem_cons_zero, List.getElem_cons_succ] at hm1
                              go_wp2_with fail
                              go_roundg (gk - 1)
                              case measure => omega
                              case rel => exact ⟨3, by omega, rfl, HV2.out, rfl⟩)
                          · rcases hcb with rfl | rfl | rfl | rfl
                            all_goals (
                              simp only [Nat.reduceMul, Nat.reduceMod, List.getElem_cons_zero, List.getElem_cons_succ] at hm1
                              go_wp2_with fail
                              go_roundg (gk - 1)
                              case measure => omega
                              case rel => exact ⟨4, by omega, rfl, HV2.out, rfl⟩)
                        · have hb6 : decide ((a : Int) < 4) = false := decide_eq_false (by omega)
                          obtain rfl : a = 4 := by omega
                          have hwl := HL.out.2.2.2.1 b hb4
                          obtain ⟨P, hP⟩ : ∃ P, b * s = P := ⟨_, rfl⟩
                          have hPi : (b : Int) * (s : Int) = (P : Int) := by rw [← hP]; exact (Int.natCast_mul b s).symm
                          rw [hP] at hwl
                          obtain ⟨r, im, rfl, hfr, hfi⟩ := hsum
                          have hus : i + P < us.length := by rw [HT4.out.2.1.len]; exact hwl
                          obtain ⟨c1, c2⟩ := HT4.out.2.1.cell (i + P) hus
                          have hti6 := HT4.out.2.1.set (i + P) hus (.complex .f32 r im) (F' := part4 back s (levs back (zfun zs) t) i (b + 1)) (fun j _ hne => by rw [part4_set back HS.out.2.2.2.2 _ HD.out b hb4, hP, if_neg hne]) (by rw [part4_set back HS.out.2.2.2.2 _ HD.out b hb4, hP, if_pos rfl]; exact ⟨r, im, rfl, hfr, hfi⟩)
                          have hin6 := HT4.out.1.grown (HT4.out.2.1.own.set lenO HT4.out.2.1.len (i + P) hus 0 (by decide) (.complex .f32 r im) (.complex .f32 r im) rfl).2 (Or.inr (fun e => by have h1 := HW3.out.2.2.2.2; have h2 : p = g := Option.some.inj (show some p = some g from e); omega))
                          simp only [Nat.mul_one, Nat.add_zero] at hin6
                          have H6 := Lib.hid (And.intro hti6 hin6)
                          clear hti6 hin6 hfr hfi hP q0 q1 q2 q3 t0 t1 t2 t3
                          go_wp2_with fail
                          go_roundg (4 - (b + 1))
                          case measure => omega
                          case rel => exact ⟨b + 1, _, by omega, by go_num, H6.out.2, H6.out.1⟩
                    · have hb5 : decide ((b : Int) < 4) = false := decide_eq_false (by omega)
                      obtain rfl : b = 4 := by omega
                      have H7 := Lib.hid hti
                      clear hti hin
                      go_wp2_with fail
                      go_roundg (n - (i + 1))
                      case measure => omega
                      case rel => exact ⟨i + 1, us, by omega, by go_num, by rw [← part4_four]; exact H7.out⟩
            · have hD1 : (((i : Int) / (s : Int)).tmod 4 != 0) = true := by rw [hd, bne_iff_ne]; omega
              have HD := Lib.hid hD
              clear hD hd
              go_wp2_with fail
              go_roundg (n - (i + 1))
              case measure => omega
              case rel => exact ⟨i + 1, us, by omega, by go_num, by rw [part_skip back HS.out.2.2.2.2 _ i HD.out]; exact HTI3.out⟩
          · have hb2 : decide (i < n) = false := decide_eq_false hil
            obtain rfl : i = n := by omega
            have HTI3 := Lib.hid hti
            clear hti
            have hw4 : IntKind.i64.wrap ((s : Int) * 4) = ((4 * s : Nat) : Int) := by rw [IntKind.wrap_i64]; omega
            go_wp2_with fail
            go_roundg (m - (t + 1))
            case measure => have := HS.out.2.2.2.1; have := HS.out.2.2.1.1 hlt; omega
            case rel =>
              refine ⟨t + 1, us, by have := HS.out.2.2.2.1; have := HS.out.2.2.1.1 hlt; omega, ?_, ?_⟩
              · rw [Nat.pow_succ', HS.out.1]; exact congrArg (Value.int .i64) (by omega)
              · refine HTI3.out.congr fun j hj => ?_
                rw [part_all back s _ _ j hj]
                show lev back (4 ^ t) _ j = _
                rw [HS.out.1]
      · have hb1 : decide (s < n) = false := decide_eq_false hlt
        obtain rfl : t = m := by
          by_cases h9 : t < m
          · exact absurd (hpl.2 h9) hlt
          · omega
        have hps := positive58_calls us n hti.len (levs back (zfun zs) t) (4 ^ t * M) (by have := HX.out.2.2.2.1; omega) (fun j hj => ⟨hti.val j hj, gb_levs HX.out.2.2.2.2 back t j⟩) (w.heap.size + 1) g cap wr hti.own (by omega)
        have HPS := Lib.hid hps
        have HTI3 := Lib.hid hti
        clear hps hti hpl hdv
        go_wp2_with fail
        (with_reducible refine (HPS.out).mono ?_); rintro e w5 ⟨rfl, hown, hg⟩
        have HO := Lib.hid (And.intro hown hg)
        clear hown hg
        go_wp2_with fail
        go_ret
        have hbk := HTI3.out.block
        refine ⟨_, rfl, ?_, HTI3.out.low.grown HO.out.2 HTI3.out.low.size (fun b hb => by cases hb; omega)⟩
        have ho := HO.out.1.base (b' := w.heap.size) (by omega)
        unfold tr
        rw [HN.out]; exact ho
end Go.Proofs.Ythccnaemocdcbaa
