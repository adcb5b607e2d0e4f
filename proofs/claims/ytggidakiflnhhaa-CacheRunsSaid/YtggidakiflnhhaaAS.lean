import Derived.Test.YtggidakiflnhhaaAR
namespace Go.Proofs.Ytggidakiflnhhaa
open Go.RowKit
set_option maxHeartbeats 16000000
set_option maxRecDepth 100000
set_option linter.unusedSimpArgs false
set_option linter.unusedVariables false

theorem wb_with (A : AS) (cs : List (List En)) (e : En) : wb { A with cs := cs } e = { wb A e with cs := cs } := by unfold wb; split <;> rfl
/-- the first entries of a row are written -/
theorem rel_take {A : AS} {k : Nat} {es : List En} (hk : A.cs[k]? = some es) : ∀ j, j ≤ es.length → (List.range j).foldl (rlS k) A = { (es.take j).foldl wb A with cs := A.cs.set k ((es.take j).map clE ++ es.drop j) }
  | 0, _ => by simp [set_same hk]
  | j + 1, hj => by
    have ih := rel_take hk j (by omega)
    have hkl := (List.getElem?_eq_some_iff.1 hk).1
    rw [range_succ_foldl, ih, rlS_eq (es := (es.take j).map clE ++ es.drop j) (e := es[j]'(by omega)) (by unfold rowA; simp [hkl]) (by rw [List.getElem?_append_right (by simp; omega)]; simp; rw [Nat.min_eq_left (by omega)]; simp)]
    simp only [wb_with, List.set_set]
    have h1 : ((es.take j).map clE ++ es.drop j).set j (clE (es[j]'(by omega))) = (es.take (j + 1)).map clE ++ es.drop (j + 1) := by
      rw [List.set_append_right _ _ (by simp; omega)]
      simp only [List.length_map, List.length_take, Nat.min_eq_left (show j ≤ es.length by omega), Nat.sub_self]
      rw [List.drop_eq_getElem_cons (show j < es.length by omega), List.set_cons_zero, List.take_succ_eq_append_getElem (show j < es.length by omega), List.map_append, List.append_assoc]
      rfl
    have h2 : (es.take (j + 1)).foldl wb A = wb ((es.take j).foldl wb A) (es[j]'(by omega)) := by
      rw [List.take_succ_eq_append_getElem (show j < es.length by omega), List.foldl_append]
      rfl
    rw [h1, h2]
theorem rel_all {A : AS} {k : Nat} {es : List En} (hk : A.cs[k]? = some es) : relA A k = { es.foldl wb A with cs := A.cs.set k (es.map clE) } := by
  unfold relA
  rw [rowA_some hk, rel_take hk es.length (Nat.le_refl _)]
  simp
theorem wbs_cs (A : AS) (l : List En) : (l.foldl wb A).cs = A.cs := by
  induction l generalizing A with
  | nil => rfl
  | cons e l ih => rw [List.foldl_cons, ih, wb_cs]
theorem wbs_m (A : AS) (l : List En) : (l.foldl wb A).m.length = A.m.length := by
  induction l generalizing A with
  | nil => rfl
  | cons e l ih => rw [List.foldl_cons, ih, wb_len]
theorem wbs_wr (A : AS) (l : List En) : (l.foldl wb A).wr ≤ A.wr + l.length := by
  induction l generalizing A with
  | nil => simp
  | cons e l ih =>
    rw [List.foldl_cons]
    have h1 := ih (wb A e)
    have h2 : (wb A e).wr ≤ A.wr + 1 := by unfold wb; split <;> simp
    simp only [List.length_cons]; omega
theorem own_at {α : Type} {enc : α → List Value} {sz : Nat} {t : TypeId} {w w' : World} {base : Nat} {v : Value} {xs : List α} (h : Own enc sz t w base v xs) (hk : ∀ g, v.ownBlock = some g → w'.heap[g]? = w.heap[g]?) : Own enc sz t w' base v xs := by
  obtain ⟨h1, h2⟩ := h
  refine ⟨h1, ?_⟩
  rcases h2 with ⟨e1, e2⟩ | ⟨g, cap, cur, e1, hb, hg, rest⟩
  · exact Or.inl ⟨e1, e2⟩
  · exact Or.inr ⟨g, cap, cur, e1, hb, (hk g (by rw [e1]; rfl)).trans hg, rest⟩
theorem rg_of {bm bc : Nat} {X : Nat → Prop} {W : World} {g n cp : Nat} {es : List En} (h : RowR bm bc X W (.slice (some ⟨g, 0, none⟩) n cp) es) {j : Nat} {e : En} (he : ∃ hj : j < es.length, es[j] = e) : W.rangeAt g (j * 13) (encN e) := by
  obtain ⟨hj, he⟩ := he
  have := rd_range h.rd j hj
  rw [he] at this
  exact this
theorem releaseR_calls {c : Cf} {bm bc : Nat} {X : Nat → Prop} {A : AS} {w : World} (h : RS c bm bc X A w) (hA : Ok c A) (hX : ∀ k, X k → k < w.heap.size) (hn : cnt A ≤ 900000000) (k : Nat) (hk : (k : Int) < c.L) :
    Calls Try.prog 38 #[.agg (stC c bm bc A), .int .i64 (k : Int)] w (StPost c bm bc X (relA A k) w) := by
  obtain ⟨W1, n0, n1, X1, hW1, hn0, hn1, hF, hX1, hS⟩ := bx_open h hX
  obtain ⟨es, hes⟩ : ∃ es, A.cs[k]? = some es := ⟨_, List.getElem?_eq_getElem (by have := hA.cl; omega)⟩
  have hml := hA.ml
  obtain ⟨o1, o2, o3, o4, o5, o6, o7, o8, o9⟩ := hA.cf
  have hkl : k < A.cs.length := (List.getElem?_eq_some_iff.1 hes).1
  have hklI : (k : Int) < (A.cs.length : Int) := by omega
  have hlen := hA.len k es hes
  have hcw : A.wr ≤ cnt A := by unfold cnt; omega
  have HB := Lib.hid (show A.m.length ≤ 256 ∧ es.length ≤ 16 ∧ A.wr ≤ 900000000 by omega)
  clear hlen hcw
  obtain ⟨nU, hnU⟩ : ∃ n, W1.heap.size = n := ⟨_, rfl⟩
  obtain ⟨XL, hXL⟩ : ∃ XL : Nat → Prop, XL = fun k => X1 k ∨ nU ≤ k := ⟨_, rfl⟩
  have hXL2 : (∀ k, nU ≤ k → XL k) ∧ (∀ k, X1 k → XL k) := by subst hXL; exact ⟨fun k hk => Or.inr hk, fun k hk => Or.inl hk⟩
  have hRL : RS c bm bc XL A W1 := hS.rs.ext (fun k hk => by subst hXL; rw [hnU]; exact hk)
  have HXL := Lib.hid (And.intro hXL2 hRL)
  clear hXL hXL2 hRL
  have hle16 : es.length ≤ 16 := HB.out.2.1
  have HW := Lib.hid (And.intro hW1 (And.intro hn0 hn1))
  have HF := Lib.hid hF
  have HX := Lib.hid (And.intro hS (And.intro hX1 (And.intro hnU (And.intro hes (And.intro (hA.lin k es) (rel_all hes))))))
  clear hW1 hn0 hn1 hF hX1 hS hes hml o1 o2 o3 o4 o5 o6 o7 o8 o9 hX h hA hn hk hnU hkl
  go_enter Try.func38, Try.ntmps38
  go_upto_block 0 with fail
  rw [HW.out.1]
  rw [HW.out.2.1, HW.out.2.2]
  go_wp2_with fail
  go_loopg [5, 6, 7, 8, 9, 10, 11, 12, 13, 14, 15, 16, 17, 18, 19, 20, 21, 22, 23, 24, 25, 26, 27, 28, 29, 30, 31, 32, 33, 34] es.length (fun gk v5 v6 v7 v8 v9 v10 v11 v12 v13 v14 v15 v16 v17 v18 v19 v20 v21 v22 v23 v24 v25 v26 v27 v28 v29 v30 v31 v32 v33 v34 wr => ∃ j : Nat, j + gk = es.length ∧ v6 = .int .i64 (j : Int) ∧ BxS c bm bc n0 n1 X1 ((es.take j).foldl wb A) w wr ∧ Own encN 13 107 wr nU v5 ((es.take j).map clE) ∧ nU ≤ wr.heap.size ∧ RS c bm bc XL ((es.take j).foldl wb A) wr)
  case atStart => exact ⟨0, by omega, rfl, HX.out.1, ⟨by simp, Or.inl ⟨rfl, rfl⟩⟩, Nat.le_of_eq HX.out.2.2.1.symm, HXL.out.2⟩
  case round =>
    obtain ⟨j, hj, rfl, hbs, ho, hsz, hrl⟩ := hrel
    obtain ⟨B, hB⟩ : ∃ B, (es.take j).foldl wb A = B := ⟨_, rfl⟩
    obtain ⟨zs, hzs⟩ : ∃ zs, (es.take j).map clE = zs := ⟨_, rfl⟩
    rw [hB] at hbs hrl
    rw [hzs] at ho
    have hzl : zs.length ≤ es.length := by rw [← hzs]; simp; omega
    have hBc : B.cs = A.cs := by rw [← hB, wbs_cs]
    have hBm : B.m.length = A.m.length := by rw [← hB, wbs_m]
    have hBw : B.wr ≤ A.wr + 16 := by rw [← hB]; have := wbs_wr A (es.take j); simp at this; omega
    obtain ⟨V, cV, rfl, hleV, hrV, hbV⟩ := ho.form lenN
    have hkB : B.cs[k]? = some es := by rw [hBc]; exact HX.out.2.2.2.1
    obtain ⟨P, cp, hcell, _, hle, hrd, hP, hro⟩ := hbs.row hkB
    have y5 := hbs.cell.2.2.2.2.2.1
    rw [hBc] at y5
    by_cases hlt : j < es.length
    · have hd : decide (j < es.length) = true := decide_eq_true hlt
      have hlt' : (j : Int) < (es.length : Int) := by omega
      obtain ⟨a, rfl, hca⟩ := hrd.cell j hlt
      clear hca
      obtain ⟨hP1, hP2⟩ := hP a rfl
      obtain ⟨g, go, gs⟩ := a
      simp only at hP1 hP2
      subst hP1
      subst hP2
      obtain ⟨e, he⟩ : ∃ e, es[j] = e := ⟨_, rfl⟩
      have hmem : e ∈ es := by rw [← he]; exact List.getElem_mem _
      have h2 : (es.take (j + 1)).foldl wb A = wb B e := by
        rw [List.take_succ_eq_append_getElem hlt, List.foldl_append, hB, he]
        rfl
      have h3 : (es.take (j + 1)).map clE = zs ++ [clE e] := by
        rw [List.take_succ_eq_append_getElem hlt, List.map_append, hzs, he]
        rfl
      obtain ⟨n2, hn2⟩ : ∃ n, wr.heap.size = n := ⟨_, rfl⟩
      have HVN := Lib.hid (show (∀ q, (Value.slice V zs.length cV).ownBlock = some q → q < n2) ∧ g < n2 from ⟨fun q hq => by rw [← hn2]; exact (ho.blk q hq).2.1, by rw [← hn2]; exact hro.lt rfl (by omega)⟩)
      obtain ⟨W5, hW5⟩ : ∃ W, wr.alloc (.cells enZ 107) = W := ⟨_, rfl⟩
      have hb5 : Below wr.heap.size wr W5 := by rw [← hW5]; exact (Below.refl _ _).alloc (Nat.le_refl _) _
      have hx5 : W5.heap[n2]? = some (.cells enZ 107 (0, 0)) := by rw [← hW5, ← hn2]; exact Go.heap_alloc_new _ _
      have hs5 := hbs.rest hb5
      have ho5 := ho.rest hb5
      have hro5 := hro.call (Kq.of hb5 (bm := bm) (bc := bc)) (Nat.le_refl _)
      have hcell5 := (hb5.cell (p := ⟨bc, k, none⟩) (blk_of_cell hcell)).trans hcell
      have y55 := (hb5.cell (p := ⟨n0, 5, none⟩) (blk_of_cell y5)).trans y5
      have hrg5 : W5.rangeAt g (j * 13) (encN e) := by
        have := rd_range hro5.rd j hlt
        rw [he] at this
        exact this
      have hwc := written_calls ((hrl.rest hb5).rest (bb_drew (Below.refl _ _))) e (by rw [hBm]; exact HX.out.2.2.2.2.1 e HX.out.2.2.2.1 hmem) (by rw [hBm]; exact HB.out.1) (by have := HB.out.2.2; omega)
      have H5 := Lib.hid (And.intro hs5 (And.intro ho5 (And.intro hro5 (And.intro hcell5 (And.intro y55 (And.intro hrg5 hx5))))))
      have HWC := Lib.hid hwc
      have HZ := Lib.hid (And.intro h2 (And.intro h3 (And.intro hBc (And.intro (show ∃ hj : j < es.length, es[j] = e from ⟨hlt, he⟩) (And.intro hlt (And.intro hkB (And.intro hb5.size (And.intro hsz (And.intro hn2 (blk_lt hx5))))))))))
      have HW5 := Lib.hid hW5
      have hb48 : (zs.length + 1) * 48 ≤ 140737488355328 := by omega
      have HB48 := Lib.hid hb48
      clear hbs hrl ho hsz hB hzs hBc hBm hBw hleV hrV hbV hkB hle hrd hP hro hmem h2 h3 hb5 hx5 hs5 ho5 hro5 hcell5 y55 hrg5 hwc hb48 hzl he
      go_upto_region 6 with fail
      clear hcell y5 hW5 hn2
      go_cut [7] (fun v7 wx => v7 = .pointer (some ⟨n2, 0, none⟩) ∧ BxS c bm bc n0 n1 X1 (wb B e) w wx ∧ Own encN 13 107 wx nU (.slice V zs.length cV) zs ∧ wx.heap[n2]? = some (.cells (clE e).cells 107 (0, 0)) ∧ nU ≤ wx.heap.size ∧ RS c bm bc XL (wb B e) wx)
      case first =>
        refine wp_region_held_drew (S := (fun w' => w'.cell? ⟨n0, 5, none⟩ = some (.slice (some ⟨bc, 0, none⟩) A.cs.length A.cs.length) ∧ w'.rangeAt g (j * 13) (encN e))) (by kernel_rfl) ?_ (fun hHelda => ?_)
        · (try dsimp only); exact ⟨H5.out.2.2.2.2.1, H5.out.2.2.2.2.2.1⟩
        refine wpAnyH_take (i := 1) (oi := _) (v := ?va1) rfl (by kernel_rfl) (by kernel_rfl) (by kernel_rfl) (fun _ _ _ h => h) (Or.inl ⟨by rfl, ?hya1⟩) (by assumption) ?resta1
        case hya1 => (intro w hSw; (try dsimp only at hSw); go_simp; all_goals with_reducible rfl)
        try simp only [Act.put, List.getElem_toArray, List.getElem_cons_zero, List.getElem_cons_succ, List.setIfInBounds_toArray, List.set_cons_zero, List.set_cons_succ]
        refine wpAnyH_take (i := 2) (oi := _) (v := ?va2) rfl (by kernel_rfl) (by kernel_rfl) (by kernel_rfl) (fun _ _ _ h => h) (Or.inl ⟨by rfl, ?hya2⟩) (by assumption) ?resta2
        case hya2 => (intro w hSw; (try dsimp only at hSw); go_simp; all_goals with_reducible rfl)
        try simp only [Act.put, List.getElem_toArray, List.getElem_cons_zero, List.getElem_cons_succ, List.setIfInBounds_toArray, List.set_cons_zero, List.set_cons_succ]
        refine wpAnyH_take (i := 3) (oi := _) (v := ?va3) rfl (by kernel_rfl) (by kernel_rfl) (by kernel_rfl) (fun _ _ _ h => h) (Or.inl ⟨by rfl, ?hya3⟩) (by assumption) ?resta3
        case hya3 => (intro w hSw; (try dsimp only at hSw); go_simp; all_goals with_reducible rfl)
        try simp only [Act.put, List.getElem_toArray, List.getElem_cons_zero, List.getElem_cons_succ, List.setIfInBounds_toArray, List.set_cons_zero, List.set_cons_succ]
        refine wpAnyH_take (i := 4) (oi := _) (v := ?va4) rfl (by kernel_rfl) (by kernel_rfl) (by kernel_rfl) (fun _ _ _ h => h) (Or.inl ⟨by rfl, ?hya4⟩) (by assumption) ?resta4
        case hya4 => (intro w hSw; (try dsimp only at hSw); go_simp; all_goals with_reducible rfl)
        try simp only [Act.put, List.getElem_toArray, List.getElem_cons_zero, List.getElem_cons_succ, List.setIfInBounds_toArray, List.set_cons_zero, List.set_cons_succ]
        refine wpAnyH_take (i := 6) (oi := _) (v := ?va5) rfl (by kernel_rfl) (by kernel_rfl) (by kernel_rfl) (fun _ _ _ h => h) (Or.inl ⟨by rfl, ?hya5⟩) (by assumption) ?resta5
        case hya5 => (intro w hSw; (try dsimp only at hSw); go_simp; all_goals with_reducible rfl)
        try simp only [Act.put, List.getElem_toArray, List.getElem_cons_zero, List.getElem_cons_succ, List.setIfInBounds_toArray, List.set_cons_zero, List.set_cons_succ]
        refine wpAnyH_ready (rs := [0, 5]) (by kernel_rfl) (by simp) ?_
        refine AllReadyH.cons (o := _) rfl (fun K hK => ?_) ?_
        · refine wp_load_row 81 (.tmp 2) rfl n0 rfl 81 (stC c bm bc B) (0, 0) _ H5.out.1.st Try.underlying81 rfl info81s ?_
          refine hK.out _ _ ?_ (fun hHelda6 => ?_)
          · (try dsimp only); exact ⟨H5.out.2.2.2.2.1, H5.out.2.2.2.2.2.1⟩
          clear hK K hHelda
          try simp only [Act.put, List.getElem_toArray, List.getElem_cons_zero, List.getElem_cons_succ, List.setIfInBounds_toArray, List.set_cons_zero, List.set_cons_succ]
          refine wpAnyH_ready (rs := [5]) (by kernel_rfl) (by simp) ?_
          refine AllReadyH.cons (o := _) rfl (fun K hK => ?_) AllReadyH.nil
          have hcell := H5.out.2.2.2.1
          go_simp
          clear hcell
          refine hK.out _ _ ?_ (fun hHelda7 => ?_)
          · (try dsimp only); exact ⟨H5.out.2.2.2.2.1, H5.out.2.2.2.2.2.1⟩
          clear hK K hHelda6
          try simp only [Act.put, List.getElem_toArray, List.getElem_cons_zero, List.getElem_cons_succ, List.setIfInBounds_toArray, List.set_cons_zero, List.set_cons_succ]
          refine wpAnyH_take (i := 7) (oi := _) (v := ?va8) rfl (by kernel_rfl) (by kernel_rfl) (by kernel_rfl) (fun _ _ _ h => h) (Or.inl ⟨by rfl, ?hya8⟩) (by assumption) ?resta8
          case hya8 => (intro w hSw; (try dsimp only at hSw); go_simp; all_goals with_reducible rfl)
          try simp only [Act.put, List.getElem_toArray, List.getElem_cons_zero, List.getElem_cons_succ, List.setIfInBounds_toArray, List.set_cons_zero, List.set_cons_succ]
          refine wpAnyH_take (i := 8) (oi := _) (v := ?va9) rfl (by kernel_rfl) (by kernel_rfl) (by kernel_rfl) (fun _ _ _ h => h) (Or.inl ⟨by rfl, ?hya9⟩) (by assumption) ?resta9
          case hya9 => (intro w hSw; (try dsimp only at hSw); (refine exec_load_mid 107 (.tmp 26) ?_ g (j * 13) ?_ (encN e) _ hSw.2 Try.underlying107 rfl info107s) <;> rfl)
          try simp only [Act.put, List.getElem_toArray, List.getElem_cons_zero, List.getElem_cons_succ, List.setIfInBounds_toArray, List.set_cons_zero, List.set_cons_succ]
          refine wpAnyH_ready (rs := [9]) (by kernel_rfl) (by simp) ?_
          refine AllReadyH.cons (o := _) rfl (fun K hK => ?_) AllReadyH.nil
          go_simp
          try go_wp2_with fail
          (with_reducible refine (HWC.out).mono ?_); rintro y w7 ⟨rfl, hr7, hk7⟩
          have hn2 : n0 + 2 ≤ n2 ∧ n2 < W5.heap.size := by have := HZ.out.2.2.2.2.2.2.2.1; have := HX.out.1.sz; have := HX.out.2.2.1; have := HZ.out.2.2.2.2.2.2.2.2.1; have := HZ.out.2.2.2.2.2.2.2.2.2; omega
          have hsn := H5.out.1.drew.seen HF.out hk7
          have y57 := (st9 hsn.1).2.2.2.2.2.1
          rw [HZ.out.2.2.1] at y57
          have hro7 := (H5.out.2.2.1.call (Kq.drew (Kq.refl W5)) (Nat.le_refl _)).call hk7 (Nat.le_refl _)
          have hx7 : w7.heap[n2]? = some (.cells enZ 107 (0, 0)) := (hk7.block n2 hn2.2 (by have := HF.out.o3; omega) (by have := HF.out.o4; omega)).trans H5.out.2.2.2.2.2.2
          have hs13 := H5.out.1.drew.store HF.out (hr7.weak HXL.out.1.2) hk7
          have y513 := hs13.cell.2.2.2.2.2.1
          rw [wb_cs, HZ.out.2.2.1] at y513
          have hro13 := hro7.box HF.out.x0 (grownBy_setRow w7 n0 (stC c bm bc (wb B e)))
          have hx13 : (w7.setRow n0 (stC c bm bc (wb B e))).heap[n2]? = some (.cells enZ 107 (0, 0)) := by rw [setRow_other _ _ _ _ (by omega)]; exact hx7
          have hrl13 := hr7.turn (HXL.out.1.2 _ HF.out.x0) (by have := HF.out.o3; omega) (by have := HF.out.o4; omega) (grownBy_setRow w7 n0 (stC c bm bc (wb B e)))
          have ho7 : Own encN 13 107 w7 nU (.slice V zs.length cV) zs := own_at (H5.out.2.1.rest (bb_drew (Below.refl _ _))) (fun q hq => hk7.block q (by have := (H5.out.2.1.blk q hq).2.1; exact this) (by have := (H5.out.2.1.blk q hq).1; have := HF.out.o3; have := HX.out.1.sz; have := HX.out.2.2.1; omega) (by have := (H5.out.2.1.blk q hq).1; have := HF.out.o4; have := HX.out.1.sz; have := HX.out.2.2.1; omega))
          have ho13 : Own encN 13 107 (w7.setRow n0 (stC c bm bc (wb B e))) nU (.slice V zs.length cV) zs := ho7.grown (grownBy_setRow _ _ _) (Or.inr (fun h => by have := (H5.out.2.1.blk _ h).1; have := HX.out.1.sz; have := HX.out.2.2.1; omega))
          have hvn : ∀ q, (Value.slice V zs.length cV).ownBlock = some q → q < n2 := HVN.out.1
          have HG7 := Lib.hid (rg_of hro7 HZ.out.2.2.2.1)
          have HG13 := Lib.hid (rg_of hro13 HZ.out.2.2.2.1)
          have HG14 := Lib.hid (show ((w7.setRow n0 (stC c bm bc (wb B e))).setRow n2 (clE e).cells).rangeAt g (j * 13) (encN e) from fun q v hv => (cell_setRow_other _ _ _ _ (by have := HVN.out.2; simp; omega)).trans (HG13.out q v hv))
          have H7 := Lib.hid (And.intro hsn.1 (And.intro y57 hn2))
          have H13 := Lib.hid (And.intro hs13 (And.intro y513 (And.intro hx13 (And.intro hrl13 (And.intro ho13 hvn)))))
          clear hr7 hk7 hn2 hsn y57 hro7 hx7 hs13 y513 hro13 hx13 hrl13 ho7 ho13 hvn
          refine hK.out _ _ ?_ (fun hHelda10 => ?_)
          · (try dsimp only); exact ⟨H7.out.2.1, HG7.out⟩
          clear hK K hHelda7
          try simp only [Act.put, List.getElem_toArray, List.getElem_cons_zero, List.getElem_cons_succ, List.setIfInBounds_toArray, List.set_cons_zero, List.set_cons_succ]
          refine wpAnyH_take (i := 10) (oi := _) (v := ?va11) rfl (by kernel_rfl) (by kernel_rfl) (by kernel_rfl) (fun _ _ _ h => h) (Or.inl ⟨by rfl, ?hya11⟩) (by assumption) ?resta11
          case hya11 => (intro w hSw; (try dsimp only at hSw); go_simp; all_goals with_reducible rfl)
          try simp only [Act.put, List.getElem_toArray, List.getElem_cons_zero, List.getElem_cons_succ, List.setIfInBounds_toArray, List.set_cons_zero, List.set_cons_succ]
          refine wpAnyH_take (i := 11) (oi := _) (v := ?va12) rfl (by kernel_rfl) (by kernel_rfl) (by kernel_rfl) (fun _ _ _ h => h) (Or.inl ⟨by rfl, ?hya12⟩) (by assumption) ?resta12
          case hya12 => (intro w hSw; (try dsimp only at hSw); go_simp; all_goals with_reducible rfl)
          try simp only [Act.put, List.getElem_toArray, List.getElem_cons_zero, List.getElem_cons_succ, List.setIfInBounds_toArray, List.set_cons_zero, List.set_cons_succ]
          refine wpAnyH_take (i := 12) (oi := _) (v := ?va13) rfl (by kernel_rfl) (by kernel_rfl) (by kernel_rfl) (fun _ _ _ h => h) (Or.inl ⟨by rfl, ?hya13⟩) (by assumption) ?resta13
          case hya13 => (intro w hSw; (try dsimp only at hSw); go_simp; all_goals with_reducible rfl)
          try simp only [Act.put, List.getElem_toArray, List.getElem_cons_zero, List.getElem_cons_succ, List.setIfInBounds_toArray, List.set_cons_zero, List.set_cons_succ]
          refine wpAnyH_ready (rs := [13]) (by kernel_rfl) (by simp) ?_
          refine AllReadyH.cons (o := _) rfl (fun K hK => ?_) AllReadyH.nil
          refine wp_store_row 81 (.tmp 2) (.tmp 29) rfl n0 (stC c bm bc (wb B e)) rfl rfl 81 (stC c bm bc B) H7.out.1 info81s rfl (stC_one _ _ _ _) ?_
          refine hK.out _ _ ?_ (fun hHelda14 => ?_)
          · (try dsimp only); exact ⟨H13.out.2.1, HG13.out⟩
          clear hK K hHelda10
          try simp only [Act.put, List.getElem_toArray, List.getElem_cons_zero, List.getElem_cons_succ, List.setIfInBounds_toArray, List.set_cons_zero, List.set_cons_succ]
          refine wpAnyH_ready (rs := [14]) (by kernel_rfl) (by simp) ?_
          refine AllReadyH.cons (o := _) rfl (fun K hK => ?_) AllReadyH.nil
          refine wp_store_row 107 (.tmp 7) (.tmp 30) rfl n2 (clE e).cells rfl rfl 107 enZ H13.out.2.2.1 info107s rfl (enC_one _) ?_
          refine hK.out _ _ ?_ (fun hHelda15 => ?_)
          · (try dsimp only); exact ⟨by rw [cell_setRow_other _ _ _ _ (by have := H7.out.2.2.1; simp; omega)]; exact H13.out.2.1, HG14.out⟩
          clear hK K hHelda14
          try simp only [Act.put, List.getElem_toArray, List.getElem_cons_zero, List.getElem_cons_succ, List.setIfInBounds_toArray, List.set_cons_zero, List.set_cons_succ]
          refine wpAnyH_done (by kernel_rfl) ?_ _
          go_wp2_with fail
          go_meet
          have hg14 := grownBy_setRow (w7.setRow n0 (stC c bm bc (wb B e))) n2 (clE e).cells
          have hrl14 := H13.out.2.2.2.1.turn (HXL.out.1.1 n2 (by have := HZ.out.2.2.2.2.2.2.2.1; have := HZ.out.2.2.2.2.2.2.2.2.1; omega)) (by have := HF.out.o3; have := H7.out.2.2.1; omega) (by have := HF.out.o4; have := H7.out.2.2.1; omega) hg14
          refine ⟨rfl, ⟨?_, ?_, hrl14.weak HXL.out.1.2, H13.out.1.kq.grown hg14 (by have := H13.out.1.sz; omega) (fun q hq => by obtain rfl := Option.some.inj hq; have := H7.out.2.2.1; omega), Nat.le_trans H13.out.1.sz hg14.size⟩, H13.out.2.2.2.2.1.grown hg14 (Or.inr (fun h => by have := H13.out.2.2.2.2.2 _ h; omega)), setRow_heap _ _ _ _ _ _ H13.out.2.2.1, ?_, hrl14⟩
          · rw [setRow_other _ _ _ _ (by have := H7.out.2.2.1; omega)]; exact H13.out.1.st
          · rw [setRow_other _ _ _ _ (by have := H7.out.2.2.1; have := HF.out.o2; omega)]; exact H13.out.1.zr
          · have := blk_lt H13.out.2.2.1; have := hg14.size; have := HZ.out.2.2.2.2.2.2.2.1; have := HZ.out.2.2.2.2.2.2.2.2.1; omega
        refine AllReadyH.cons (o := _) rfl (fun K hK => ?_) AllReadyH.nil
        have hcell := H5.out.2.2.2.1
        go_simp
        clear hcell
        refine hK.out _ _ ?_ (fun hHelda16 => ?_)
        · (try dsimp only); exact ⟨H5.out.2.2.2.2.1, H5.out.2.2.2.2.2.1⟩
        clear hK K hHelda
        try simp only [Act.put, List.getElem_toArray, List.getElem_cons_zero, List.getElem_cons_succ, List.setIfInBounds_toArray, List.set_cons_zero, List.set_cons_succ]
        refine wpAnyH_take (i := 7) (oi := _) (v := ?va17) rfl (by kernel_rfl) (by kernel_rfl) (by kernel_rfl) (fun _ _ _ h => h) (Or.inl ⟨by rfl, ?hya17⟩) (by assumption) ?resta17
        case hya17 => (intro w hSw; (try dsimp only at hSw); go_simp; all_goals with_reducible rfl)
        try simp only [Act.put, List.getElem_toArray, List.getElem_cons_zero, List.getElem_cons_succ, List.setIfInBounds_toArray, List.set_cons_zero, List.set_cons_succ]
        refine wpAnyH_take (i := 8) (oi := _) (v := ?va18) rfl (by kernel_rfl) (by kernel_rfl) (by kernel_rfl) (fun _ _ _ h => h) (Or.inl ⟨by rfl, ?hya18⟩) (by assumption) ?resta18
        case hya18 => (intro w hSw; (try dsimp only at hSw); (refine exec_load_mid 107 (.tmp 26) ?_ g (j * 13) ?_ (encN e) _ hSw.2 Try.underlying107 rfl info107s) <;> rfl)
        try simp only [Act.put, List.getElem_toArray, List.getElem_cons_zero, List.getElem_cons_succ, List.setIfInBounds_toArray, List.set_cons_zero, List.set_cons_succ]
        refine wpAnyH_ready (rs := [0]) (by kernel_rfl) (by simp) ?_
        refine AllReadyH.cons (o := _) rfl (fun K hK => ?_) AllReadyH.nil
        refine wp_load_row 81 (.tmp 2) rfl n0 rfl 81 (stC c bm bc B) (0, 0) _ H5.out.1.st Try.underlying81 rfl info81s ?_
        refine hK.out _ _ ?_ (fun hHelda19 => ?_)
        · (try dsimp only); exact ⟨H5.out.2.2.2.2.1, H5.out.2.2.2.2.2.1⟩
        clear hK K hHelda16
        try simp only [Act.put, List.getElem_toArray, List.getElem_cons_zero, List.getElem_cons_succ, List.setIfInBounds_toArray, List.set_cons_zero, List.set_cons_succ]
        refine wpAnyH_ready (rs := [9]) (by kernel_rfl) (by simp) ?_
        refine AllReadyH.cons (o := _) rfl (fun K hK => ?_) AllReadyH.nil
        go_simp
        try go_wp2_with fail
        (with_reducible refine (HWC.out).mono ?_); rintro y w7 ⟨rfl, hr7, hk7⟩
        have hn2 : n0 + 2 ≤ n2 ∧ n2 < W5.heap.size := by have := HZ.out.2.2.2.2.2.2.2.1; have := HX.out.1.sz; have := HX.out.2.2.1; have := HZ.out.2.2.2.2.2.2.2.2.1; have := HZ.out.2.2.2.2.2.2.2.2.2; omega
        have hsn := H5.out.1.drew.seen HF.out hk7
        have y57 := (st9 hsn.1).2.2.2.2.2.1
        rw [HZ.out.2.2.1] at y57
        have hro7 := (H5.out.2.2.1.call (Kq.drew (Kq.refl W5)) (Nat.le_refl _)).call hk7 (Nat.le_refl _)
        have hx7 : w7.heap[n2]? = some (.cells enZ 107 (0, 0)) := (hk7.block n2 hn2.2 (by have := HF.out.o3; omega) (by have := HF.out.o4; omega)).trans H5.out.2.2.2.2.2.2
        have hs13 := H5.out.1.drew.store HF.out (hr7.weak HXL.out.1.2) hk7
        have y513 := hs13.cell.2.2.2.2.2.1
        rw [wb_cs, HZ.out.2.2.1] at y513
        have hro13 := hro7.box HF.out.x0 (grownBy_setRow w7 n0 (stC c bm bc (wb B e)))
        have hx13 : (w7.setRow n0 (stC c bm bc (wb B e))).heap[n2]? = some (.cells enZ 107 (0, 0)) := by rw [setRow_other _ _ _ _ (by omega)]; exact hx7
        have hrl13 := hr7.turn (HXL.out.1.2 _ HF.out.x0) (by have := HF.out.o3; omega) (by have := HF.out.o4; omega) (grownBy_setRow w7 n0 (stC c bm bc (wb B e)))
        have ho7 : Own encN 13 107 w7 nU (.slice V zs.length cV) zs := own_at (H5.out.2.1.rest (bb_drew (Below.refl _ _))) (fun q hq => hk7.block q (by have := (H5.out.2.1.blk q hq).2.1; exact this) (by have := (H5.out.2.1.blk q hq).1; have := HF.out.o3; have := HX.out.1.sz; have := HX.out.2.2.1; omega) (by have := (H5.out.2.1.blk q hq).1; have := HF.out.o4; have := HX.out.1.sz; have := HX.out.2.2.1; omega))
        have ho13 : Own encN 13 107 (w7.setRow n0 (stC c bm bc (wb B e))) nU (.slice V zs.length cV) zs := ho7.grown (grownBy_setRow _ _ _) (Or.inr (fun h => by have := (H5.out.2.1.blk _ h).1; have := HX.out.1.sz; have := HX.out.2.2.1; omega))
        have hvn : ∀ q, (Value.slice V zs.length cV).ownBlock = some q → q < n2 := HVN.out.1
        have HG7 := Lib.hid (rg_of hro7 HZ.out.2.2.2.1)
        have HG13 := Lib.hid (rg_of hro13 HZ.out.2.2.2.1)
        have HG14 := Lib.hid (show ((w7.setRow n0 (stC c bm bc (wb B e))).setRow n2 (clE e).cells).rangeAt g (j * 13) (encN e) from fun q v hv => (cell_setRow_other _ _ _ _ (by have := HVN.out.2; simp; omega)).trans (HG13.out q v hv))
        have H7 := Lib.hid (And.intro hsn.1 (And.intro y57 hn2))
        have H13 := Lib.hid (And.intro hs13 (And.intro y513 (And.intro hx13 (And.intro hrl13 (And.intro ho13 hvn)))))
        clear hr7 hk7 hn2 hsn y57 hro7 hx7 hs13 y513 hro13 hx13 hrl13 ho7 ho13 hvn
        refine hK.out _ _ ?_ (fun hHelda20 => ?_)
        · (try dsimp only); exact ⟨H7.out.2.1, HG7.out⟩
        clear hK K hHelda19
        try simp only [Act.put, List.getElem_toArray, List.getElem_cons_zero, List.getElem_cons_succ, List.setIfInBounds_toArray, List.set_cons_zero, List.set_cons_succ]
        refine wpAnyH_take (i := 10) (oi := _) (v := ?va21) rfl (by kernel_rfl) (by kernel_rfl) (by kernel_rfl) (fun _ _ _ h => h) (Or.inl ⟨by rfl, ?hya21⟩) (by assumption) ?resta21
        case hya21 => (intro w hSw; (try dsimp only at hSw); go_simp; all_goals with_reducible rfl)
        try simp only [Act.put, List.getElem_toArray, List.getElem_cons_zero, List.getElem_cons_succ, List.setIfInBounds_toArray, List.set_cons_zero, List.set_cons_succ]
        refine wpAnyH_take (i := 11) (oi := _) (v := ?va22) rfl (by kernel_rfl) (by kernel_rfl) (by kernel_rfl) (fun _ _ _ h => h) (Or.inl ⟨by rfl, ?hya22⟩) (by assumption) ?resta22
        case hya22 => (intro w hSw; (try dsimp only at hSw); go_simp; all_goals with_reducible rfl)
        try simp only [Act.put, List.getElem_toArray, List.getElem_cons_zero, List.getElem_cons_succ, List.setIfInBounds_toArray, List.set_cons_zero, List.set_cons_succ]
        refine wpAnyH_take (i := 12) (oi := _) (v := ?va23) rfl (by kernel_rfl) (by kernel_rfl) (by kernel_rfl) (fun _ _ _ h => h) (Or.inl ⟨by rfl, ?hya23⟩) (by assumption) ?resta23
        case hya23 => (intro w hSw; (try dsimp only at hSw); go_simp; all_goals with_reducible rfl)
        try simp only [Act.put, List.getElem_toArray, List.getElem_cons_zero, List.getElem_cons_succ, List.setIfInBounds_toArray, List.set_cons_zero, List.set_cons_succ]
        refine wpAnyH_ready (rs := [13]) (by kernel_rfl) (by simp) ?_
        refine AllReadyH.cons (o := _) rfl (fun K hK => ?_) AllReadyH.nil
        refine wp_store_row 81 (.tmp 2) (.tmp 29) rfl n0 (stC c bm bc (wb B e)) rfl rfl 81 (stC c bm bc B) H7.out.1 info81s rfl (stC_one _ _ _ _) ?_
        refine hK.out _ _ ?_ (fun hHelda24 => ?_)
        · (try dsimp only); exact ⟨H13.out.2.1, HG13.out⟩
        clear hK K hHelda20
        try simp only [Act.put, List.getElem_toArray, List.getElem_cons_zero, List.getElem_cons_succ, List.setIfInBounds_toArray, List.set_cons_zero, List.set_cons_succ]
        refine wpAnyH_ready (rs := [14]) (by kernel_rfl) (by simp) ?_
        refine AllReadyH.cons (o := _) rfl (fun K hK => ?_) AllReadyH.nil
        refine wp_store_row 107 (.tmp 7) (.tmp 30) rfl n2 (clE e).cells rfl rfl 107 enZ H13.out.2.2.1 info107s rfl (enC_one _) ?_
        refine hK.out _ _ ?_ (fun hHelda25 => ?_)
        · (try dsimp only); exact ⟨by rw [cell_setRow_other _ _ _ _ (by have := H7.out.2.2.1; simp; omega)]; exact H13.out.2.1, HG14.out⟩
        clear hK K hHelda24
        try simp only [Act.put, List.getElem_toArray, List.getElem_cons_zero, List.getElem_cons_succ, List.setIfInBounds_toArray, List.set_cons_zero, List.set_cons_succ]
        refine wpAnyH_done (by kernel_rfl) ?_ _
        go_wp2_with fail
        go_meet
        have hg14 := grownBy_setRow (w7.setRow n0 (stC c bm bc (wb B e))) n2 (clE e).cells
        have hrl14 := H13.out.2.2.2.1.turn (HXL.out.1.1 n2 (by have := HZ.out.2.2.2.2.2.2.2.1; have := HZ.out.2.2.2.2.2.2.2.2.1; omega)) (by have := HF.out.o3; have := H7.out.2.2.1; omega) (by have := HF.out.o4; have := H7.out.2.2.1; omega) hg14
        refine ⟨rfl, ⟨?_, ?_, hrl14.weak HXL.out.1.2, H13.out.1.kq.grown hg14 (by have := H13.out.1.sz; omega) (fun q hq => by obtain rfl := Option.some.inj hq; have := H7.out.2.2.1; omega), Nat.le_trans H13.out.1.sz hg14.size⟩, H13.out.2.2.2.2.1.grown hg14 (Or.inr (fun h => by have := H13.out.2.2.2.2.2 _ h; omega)), setRow_heap _ _ _ _ _ _ H13.out.2.2.1, ?_, hrl14⟩
        · rw [setRow_other _ _ _ _ (by have := H7.out.2.2.1; omega)]; exact H13.out.1.st
        · rw [setRow_other _ _ _ _ (by have := H7.out.2.2.1; have := HF.out.o2; omega)]; exact H13.out.1.zr
        · have := blk_lt H13.out.2.2.1; have := hg14.size; have := HZ.out.2.2.2.2.2.2.2.1; have := HZ.out.2.2.2.2.2.2.2.2.1; omega
      case rest =>
        obtain ⟨rfl, hs8, ho8, hx8, hz8, hrl8⟩ := hcut
        obtain ⟨W9, hW9⟩ : ∃ W, wc.alloc (.cells (clE e).cells 107) = W := ⟨_, rfl⟩
        have hb9 : Below wc.heap.size wc W9 := by rw [← hW9]; exact (Below.refl _ _).alloc (Nat.le_refl _) _
        have hr9 : Rd encN 13 W9 (some ⟨wc.heap.size, 0, none⟩) [clE e] := by rw [← hW9]; exact rd_one encN 13 wc (clE e) 107 _ rfl _ rfl
        have H9 := Lib.hid (And.intro (ho8.rest hb9) (And.intro hr9 (And.intro (hs8.rest hb9) (And.intro (show nU ≤ W9.heap.size from Nat.le_trans hz8 hb9.size) (And.intro hW9 (hrl8.rest hb9))))))
        have HX8 := Lib.hid hx8
        clear hs8 hrl8 ho8 hx8 hz8 hb9 hr9 hW9
        go_wp2_with (first | (refine wpList_load_row rfl 107 (.tmp 7) rfl n2 rfl 107 _ (0, 0) _ HX8.out Try.underlying107 rfl info107s ?_) | (at_builtin; rw [H9.out.2.2.2.2.1]; go_must (refine wpList_append_rowN lenN oneN W9 rfl (.tmp 31) (.tmp 33) 85 rfl nU 107 _ 48 Try.underlying85 info107 rfl (by decide) (by decide) _ zs zs.length rfl rfl H9.out.1 _ 1 _ [clE e] rfl rfl H9.out.2.1 HB48.out H9.out.2.2.2.1 (zs.length + 1) rfl (zs ++ [clE e]) rfl ?_); intro B1 c1 Wa hoa hga hla; have HA := Lib.hid (And.intro hoa (And.intro hga hla)); clear hoa hga hla))
        go_roundg (gk - 1)
        case measure => omega
        case rel =>
          have hbl := H9.out.1.blk
          have hra : RS c bm bc XL (wb B e) Wa := H9.out.2.2.2.2.2.kept (fun q hq hx => HA.out.2.1.block q hq (fun h => by
            have h1 := (hbl q h.symm).1
            rcases hx with hx | hx | hx
            · exact hx (HXL.out.1.1 q h1)
            · have := HF.out.o3; have := HX.out.1.sz; have := HX.out.2.2.1; omega
            · have := HF.out.o4; have := HX.out.1.sz; have := HX.out.2.2.1; omega))
          refine ⟨j + 1, by omega, by go_num, ?_, ?_, Nat.le_trans H9.out.2.2.2.1 HA.out.2.1.size, by rw [HZ.out.1]; exact hra⟩
          · rw [HZ.out.1]
            refine ⟨?_, ?_, ?_, ?_, Nat.le_trans H9.out.2.2.1.sz HA.out.2.1.size⟩
            · exact (HA.out.2.1.block _ (blk_lt H9.out.2.2.1.st) (fun e => by have := (hbl _ e.symm).1; have := HX.out.1.sz; have := HX.out.2.2.1; omega)).trans H9.out.2.2.1.st
            · exact (HA.out.2.1.block _ (blk_lt H9.out.2.2.1.zr) (fun e => by have := (hbl _ e.symm).1; have := HX.out.1.sz; have := HX.out.2.2.1; have := HF.out.o2; omega)).trans H9.out.2.2.1.zr
            · exact hra.weak HXL.out.1.2
            · exact H9.out.2.2.1.kq.grown HA.out.2.1 (by have := H9.out.2.2.1.sz; omega) (fun k hk => by have := (hbl _ hk).1; have := HX.out.1.sz; have := HX.out.2.2.1; omega)
          · rw [HZ.out.2.1]; exact HA.out.1
    · have hd : decide (j < es.length) = false := decide_eq_false hlt
      obtain rfl : j = es.length := by omega
      have hfz := (frz (hbs.rs.tab.choose_spec.1) k)
      have hrow9 : RowR bm bc X1 wr (.slice V zs.length cV) zs := own_RowR ho (by have := HF.out.o3; have := HX.out.1.sz; have := HX.out.2.2.1; omega) (by have := HF.out.o4; have := HX.out.1.sz; have := HX.out.2.2.1; omega) (fun q hq => by have := HF.out.xl q hq; have := HX.out.1.sz; have := HX.out.2.2.1; omega)
      have hset := hbs.setRow HF.out k hrow9
      have hfin : ({ B with cs := B.cs.set k zs } : AS) = relA A k := by
        rw [HX.out.2.2.2.2.2, ← hB, ← hzs, wbs_cs, List.take_of_length_le (Nat.le_refl _)]
      rw [hfin] at hset
      have HSET := Lib.hid hset
      clear hbs hrl ho hsz hB hzs hBm hBw hleV hrV hbV hkB hle hrd hP hro hrow9 hset hfin hBc hzl
      go_upto_region 9 with fail
      obtain ⟨Y, hY⟩ : ∃ Y, wr.setCell ⟨bc, k, none⟩ (.slice V zs.length cV) = Y := ⟨_, rfl⟩
      have hSz := HSET.out
      rw [hY] at hSz ⊢
      have HSY := Lib.hid hSz
      have HD := Lib.hid (hSz.done HF.out HX.out.2.1)
      clear hSz hY
      go_wp2_with (first | (refine wpList_load_row rfl 81 (.tmp 2) rfl n0 rfl 81 _ (0, 0) _ HSY.out.st Try.underlying81 rfl info81s ?_) | (refine wpList_store_row rfl 81 (.tmp 4) (.tmp 40) rfl n1 _ rfl rfl 81 _ HSY.out.zr info81s rfl (stC_one _ _ _ _) ?_))
      refine bodyPost_ret (v := .agg (stC c bm bc (relA A k))) (results_cell_row (ty := 81) (p := 4) rfl _ _ n1 81 _ (0, 0) _ rfl HD.out.1 Try.underlying81 rfl info81s) rfl ?_
      unfold StPost
      rw [HW.out.2.1]
      exact ⟨rfl, HD.out.2⟩
end Go.Proofs.Ytggidakiflnhhaa
