import Derived.Test.YtggidakiflnhhaaAP
namespace Go.Proofs.Ytggidakiflnhhaa
open Go.RowKit
set_option maxHeartbeats 16000000
set_option maxRecDepth 100000
set_option linter.unusedSimpArgs false
set_option linter.unusedVariables false

/-- the line is there, or put in; a hit is counted -/
def putB (c : Cf) (A : AS) (k : Nat) (es : List En) (x : Nat) : AS :=
  match fiF es x with
  | some j => { A with h := A.h + 1, cs := A.cs.set k (useL es j (es.getD j (newE 0))) }
  | none => entA c A k es x
theorem putB_row {c : Cf} {A : AS} {k : Nat} {es : List En} (hk : A.cs[k]? = some es) (x : Nat) : (putB c A k es x).cs[k]? = some (preL c es x ++ [preE es x]) := by
  have hkl := (List.getElem?_eq_some_iff.1 hk).1
  unfold putB preL preE
  cases h : fiF es x with
  | none => exact List.getElem?_set_self hkl
  | some j => exact List.getElem?_set_self hkl
theorem putA_B {c : Cf} {A : AS} {k p : Nat} {es : List En} (hk : A.cs[k]? = some es) (v : Int) (hh : ¬ hmF c (p / 4) = (k : Int)) : putA c A k p v = { putB c A k es (p / 4) with cs := (putB c A k es (p / 4)).cs.set k (preL c es (p / 4) ++ [wrE (preE es (p / 4)) (p % 4) v]) } := by
  have hr := rowA_some hk
  unfold putA
  rw [hr, if_neg hh]
  unfold putB preL preE
  cases h : fiF es (p / 4) with
  | none => simp only [entA, List.set_set]
  | some j => simp only [List.set_set]
theorem putB_cs (c : Cf) (A : AS) (k : Nat) (es : List En) (x : Nat) : (putB c A k es x).cs.length = A.cs.length := by
  unfold putB
  cases h : fiF es x with
  | none => exact entA_cs c A k es x
  | some j => simp
theorem putR_calls {c : Cf} {bm bc : Nat} {X : Nat → Prop} {A : AS} {w : World} (h : RS c bm bc X A w) (hA : Ok c A) (hX : ∀ k, X k → k < w.heap.size) (hn : cnt A ≤ 800000000) (k p : Nat) (v : Int) (hk : (k : Int) < c.L) (hp : (p : Int) < c.W) :
    Calls Try.prog 36 #[.agg (stC c bm bc A), .int .i64 (k : Int), .int .i64 (p : Int), .int .i64 v] w (StPost c bm bc X (putA c A k p v) w) := by
  obtain ⟨W1, n0, n1, X1, hW1, hn0, hn1, hF, hX1, hS⟩ := bx_open h hX
  obtain ⟨es, hes⟩ : ∃ es, A.cs[k]? = some es := ⟨_, List.getElem?_eq_getElem (by have := hA.cl; omega)⟩
  obtain ⟨x, hx⟩ : ∃ x, p / 4 = x := ⟨_, rfl⟩
  obtain ⟨i, hi⟩ : ∃ i, p % 4 = i := ⟨_, rfl⟩
  have hml := hA.ml
  obtain ⟨o1, o2, o3, o4, o5, o6, o7, o8, o9⟩ := hA.cf
  have d4 : (p : Int) / 4 = (x : Int) := by omega
  have m4 : (p : Int) % 4 = (i : Int) := by omega
  have hi4 : i < 4 := by omega
  have hi4' : (i : Int) < 4 := by omega
  have hx100 : x ≤ 100000 := by omega
  have hkl : k < A.cs.length := (List.getElem?_eq_some_iff.1 hes).1
  have hklI : (k : Int) < (A.cs.length : Int) := by omega
  have hpm : p < A.m.length := by omega
  have HH := Lib.hid (fun w => homeR_calls c hA.cf x hx100 w)
  have HB := Lib.hid (show A.m.length ≤ 256 ∧ x * 4 + 4 ≤ A.m.length ∧ es.length ≤ 16 ∧ 1 ≤ c.N ∧ c.N ≤ 16 ∧ (es.length : Int) ≤ c.N ∧ p < A.m.length ∧ A.f ≤ cnt A ∧ 0 ≤ c.H ∧ (x : Int) < c.W / 4 ∧ 4 ≤ c.W ∧ c.W ≤ 256 ∧ c.H ≤ 8 by have := hA.len k es hes; unfold cnt; omega)
  have HW := Lib.hid (And.intro hW1 (And.intro hn0 hn1))
  have HF := Lib.hid hF
  have HX := Lib.hid (And.intro hS (And.intro hX1 (bx_cf hS)))
  have HL := Lib.hid (And.intro hes (And.intro hx (And.intro hi (And.intro hA (And.intro hn (And.intro hk hkl))))))
  have HD4 := Lib.hid (And.intro d4 m4)
  have hpB : p ≤ 256 := by omega
  have hxB : x ≤ 64 := by omega
  clear d4 m4
  clear hW1 hn0 hn1 hF hX1 hS hes hx hi hml o1 o2 o3 o4 o5 o6 o7 o8 o9 hX h hA hn hk hp hkl hpm hx100
  go_enter Try.func36, Try.ntmps36
  go_upto_region 2 with fail
  rw [HW.out.1]
  rw [HW.out.2.1, HW.out.2.2, HD4.out.1, HD4.out.2]
  by_cases hh : hmF c x = (k : Int)
  · have HC := Lib.hid hh
    have hc := fun w => HH.out w
    rw [hh] at hc
    have HK := Lib.hid hc
    clear hh hc
    go_upto_region 3 with (first | (refine wpList_load_mid rfl 23 (.tmp 18) rfl n0 0 rfl [.int .i64 c.L, .int .i64 c.W, .int .i64 c.N, .int .i64 c.H] _ HX.out.2.2 Try.underlying23 rfl info23s ?_) | ((with_reducible refine (HK.out _).mono ?_); rintro y w5 ⟨rfl, hb5⟩; have H5 := Lib.hid (HX.out.1.rest hb5); clear hb5))
    obtain ⟨hwd, hwf⟩ := H5.out.rs.word p HB.out.2.2.2.2.2.2.1
    have y4 := H5.out.cell.2.2.2.2.1
    have hpl : (p : Int) < (A.m.length : Int) := by have := HB.out.2.2.2.2.2.2.1; omega
    go_upto_region 4 with fail
    clear hwd hwf y4
    obtain ⟨Z, hZ⟩ : ∃ Z, w5.setCell ⟨bm, p, none⟩ (.int .i64 v) = Z := ⟨_, rfl⟩
    have hsz : BxS c bm bc n0 n1 X1 { A with m := A.m.set p v } w Z := by rw [← hZ]; exact H5.out.setMem HF.out p v
    rw [hZ]
    have HSY := Lib.hid hsz
    have HD := Lib.hid (hsz.done HF.out HX.out.2.1)
    clear hsz hZ
    go_wp2_with (first | (refine wpList_load_row rfl 81 (.tmp 4) rfl n0 rfl 81 _ (0, 0) _ HSY.out.st Try.underlying81 rfl info81s ?_) | (refine wpList_store_row rfl 81 (.tmp 8) (.tmp 29) rfl n1 _ rfl rfl 81 _ HSY.out.zr info81s rfl (stC_one _ _ _ _) ?_))
    have e1 : putA c A k p v = { A with m := A.m.set p v } := by unfold putA; rw [HL.out.2.1, if_pos HC.out]
    refine bodyPost_ret (v := .agg (stC c bm bc { A with m := A.m.set p v })) (results_cell_row (ty := 81) (p := 8) rfl _ _ n1 81 _ (0, 0) _ rfl HD.out.1 Try.underlying81 rfl info81s) rfl ?_
    unfold StPost
    rw [HW.out.2.1, e1]
    exact ⟨rfl, HD.out.2⟩
  · have hne : (hmF c x == (k : Int)) = false := by simpa using hh
    have HNK := Lib.hid hh
    obtain ⟨hm, hhm⟩ : ∃ hm, hmF c x = hm := ⟨_, rfl⟩
    have hc := fun w => HH.out w
    rw [hhm] at hc hne
    have HK := Lib.hid hc
    have hd3 : decide (hm = (k : Int)) = false := decide_eq_false (by rw [← hhm]; exact hh)
    clear hh hc hhm
    go_upto_region 5 with (first | (refine wpList_load_mid rfl 23 (.tmp 18) rfl n0 0 rfl [.int .i64 c.L, .int .i64 c.W, .int .i64 c.N, .int .i64 c.H] _ HX.out.2.2 Try.underlying23 rfl info23s ?_) | ((with_reducible refine (HK.out _).mono ?_); rintro y w5 ⟨rfl, hb5⟩; have H5 := Lib.hid (HX.out.1.rest hb5); clear hb5))
    clear hne hd3
    obtain ⟨P, cp, hcell, _, hle, hrd, hP, hrow⟩ := H5.out.row HL.out.1
    have y5 := H5.out.cell.2.2.2.2.2.1
    obtain ⟨fi, hfie⟩ : ∃ fi, fiI es x = fi := ⟨_, rfl⟩
    have hfc : Calls Try.prog 49 #[.slice P es.length cp, .int .i64 (x : Int)] w5 fun y w' => y = .returned (.int .i64 fi) ∧ Below w5.heap.size w5 w' := by rw [← hfie]; exact findR_calls es x P cp w5 hrd
    have HR := Lib.hid (And.intro hrd (And.intro hrow (And.intro hP (And.intro hle hcell))))
    have HFC := Lib.hid hfc
    have HFE := Lib.hid hfie
    clear hrd hrow hP hle hfc hfie
    go_upto_if 38 with ((with_reducible refine (HFC.out).mono ?_); rintro y w6 ⟨rfl, hb6⟩; have H6 := Lib.hid (And.intro (H5.out.rest hb6) (And.intro (HR.out.2.1.call (Kq.of hb6) (Nat.le_refl _)) ((hb6.cell (p := ⟨bc, k, none⟩) (blk_of_cell HR.out.2.2.2.2)).trans HR.out.2.2.2.2))); clear hb6)
    clear hcell y5
    go_cut [11] (fun _ wx => BxS c bm bc n0 n1 X1 (putB c A k es x) w wx)
    case first =>
      cases hfi : fiF es x with
      | none =>
        have hf1 : fi = -1 := by rw [← HFE.out]; unfold fiI; rw [hfi]
        subst hf1
        have HC1 := Lib.hid (added_calls H6.out.1.rs HL.out.2.2.2.1 (fun j hj => by have := HF.out.xl j hj; have := H6.out.1.sz; omega) (by have := HL.out.2.2.2.2.1; omega) HL.out.1 x)
        have HFI := Lib.hid hfi
        clear hfi
        go_wp2_with (first | (refine wpList_load_row rfl 81 (.tmp 4) rfl n0 rfl 81 _ (0, 0) _ H6.out.1.st Try.underlying81 rfl info81s ?_) | ((with_reducible refine (HC1.out).mono ?_); rintro y w7 ⟨rfl, hr7, hk7⟩; have H7 := Lib.hid (And.intro (H6.out.1.seen HF.out hk7).1 (H6.out.1.store HF.out hr7 hk7)); clear hr7 hk7) | (refine wpList_store_row rfl 81 (.tmp 4) (.tmp 59) rfl n0 _ rfl rfl 81 _ H7.out.1 info81s rfl (stC_one _ _ _ _) ?_))
        go_meet
        have : putB c A k es x = entA c A k es x := by unfold putB; rw [HFI.out]
        rw [this]
        exact H7.out.2
      | some j =>
        have hf1 : fi = (j : Int) := by rw [← HFE.out]; unfold fiI; rw [hfi]
        subst hf1
        obtain ⟨hj, hjl⟩ := fiF_some hfi
        obtain ⟨e, he⟩ : ∃ e, es[j] = e := ⟨_, rfl⟩
        obtain ⟨a, rfl, hca⟩ := HR.out.1.cell j hj
        clear hca
        obtain ⟨hP1, hP2⟩ := HR.out.2.2.1 a rfl
        obtain ⟨g, go, gs⟩ := a
        simp only at hP1 hP2
        subst hP1
        subst hP2
        have hul : (useL es j e).length = es.length := useL_len es j e hj
        have y8 := H6.out.1.cell.2.2.2.2.2.2.2.2
        have f8 := frz H6.out.1.st 8
        have hh1 : A.h ≤ 800000000 := by have := HL.out.2.2.2.2.1; unfold cnt at this; omega
        have hes16 : es.length ≤ 16 := HB.out.2.2.1
        have hjI : (j : Int) < (es.length : Int) := by omega
        have HJ := Lib.hid (show ∃ h : j < es.length, es[j] = e ∧ e.l = x ∧ (useL es j e).length = es.length from ⟨hj, he, by rw [← he]; exact hjl, hul⟩)
        have HFI := Lib.hid hfi
        clear hjl he hul hfi hj
        go_upto_region 8 with fail
        clear y8 f8
        obtain ⟨W7, hW7⟩ : ∃ W, w6.setCell ⟨n0, 8, none⟩ (.int .i64 ((A.h : Int) + 1)) = W := ⟨_, rfl⟩
        obtain ⟨A1, hA1⟩ : ∃ A1 : AS, ({ A with h := A.h + 1 } : AS) = A1 := ⟨_, rfl⟩
        have hs7 : BxS c bm bc n0 n1 X1 A1 w W7 := by rw [← hW7, ← hA1]; exact H6.out.1.setCnt HF.out 8 _ rfl rfl (by simp [stC])
        have hro7 : RowR bm bc X1 W7 (.slice (some ⟨g, 0, none⟩) es.length cp) es := by rw [← hW7]; exact H6.out.2.1.box HF.out.x0 (grownBy_set _ _ _ _)
        have hcell : W7.cell? ⟨bc, k, none⟩ = some (.slice (some ⟨g, 0, none⟩) es.length cp) := by
          rw [← hW7, World.cell?_of_block (w := w6)]
          · exact H6.out.2.2
          · exact (grownBy_set w6 n0 8 _).block bc H6.out.1.rs.lts.2 (fun h => by have := Option.some.inj h; have := HF.out.o4; omega)
        have hA1c : A1.cs = A.cs := by rw [← hA1]
        have y5 := hs7.cell.2.2.2.2.2.1
        rw [hA1c] at y5
        obtain ⟨hj, he, _, hul⟩ := HJ.out
        have hu := used_calls es j hj e he g cp W7.drew HR.out.2.2.2.1 hro7.rd.drew (by have := HB.out; omega)
        unfold RowPost at hu
        rw [hul] at hu
        have HU := Lib.hid hu
        have H7 := Lib.hid (And.intro hs7 (And.intro hro7 (And.intro hcell (And.intro y5 (And.intro hA1 hA1c)))))
        rw [hW7]
        clear hu hs7 hro7 hcell y5 hA1 hA1c hW7 he hul hj
        refine wp_region_held_drew (S := (fun w' => w'.cell? ⟨n0, 5, none⟩ = some (.slice (some ⟨bc, 0, none⟩) A.cs.length A.cs.length))) (by kernel_rfl) ?_ (fun hHeldb => ?_)
        · (try dsimp only); exact H7.out.2.2.2.1
        refine wpAnyH_take (i := 0) (oi := _) (v := ?vb1) rfl (by kernel_rfl) (by kernel_rfl) (by kernel_rfl) (fun _ _ _ h => h) (Or.inl ⟨by rfl, ?hyb1⟩) (by assumption) ?restb1
        case hyb1 => (intro w hSw; (try dsimp only at hSw); go_simp; all_goals with_reducible rfl)
        try simp only [Act.put, List.getElem_toArray, List.getElem_cons_zero, List.getElem_cons_succ, List.setIfInBounds_toArray, List.set_cons_zero, List.set_cons_succ]
        refine wpAnyH_take (i := 1) (oi := _) (v := ?vb2) rfl (by kernel_rfl) (by kernel_rfl) (by kernel_rfl) (fun _ _ _ h => h) (Or.inl ⟨by rfl, ?hyb2⟩) (by assumption) ?restb2
        case hyb2 => (intro w hSw; (try dsimp only at hSw); go_simp; all_goals with_reducible rfl)
        try simp only [Act.put, List.getElem_toArray, List.getElem_cons_zero, List.getElem_cons_succ, List.setIfInBounds_toArray, List.set_cons_zero, List.set_cons_succ]
        refine wpAnyH_take (i := 2) (oi := _) (v := ?vb3) rfl (by kernel_rfl) (by kernel_rfl) (by kernel_rfl) (fun _ _ _ h => h) (Or.inl ⟨by rfl, ?hyb3⟩) (by assumption) ?restb3
        case hyb3 => (intro w hSw; (try dsimp only at hSw); go_simp; all_goals with_reducible rfl)
        try simp only [Act.put, List.getElem_toArray, List.getElem_cons_zero, List.getElem_cons_succ, List.setIfInBounds_toArray, List.set_cons_zero, List.set_cons_succ]
        refine wpAnyH_take (i := 3) (oi := _) (v := ?vb4) rfl (by kernel_rfl) (by kernel_rfl) (by kernel_rfl) (fun _ _ _ h => h) (Or.inl ⟨by rfl, ?hyb4⟩) (by assumption) ?restb4
        case hyb4 => (intro w hSw; (try dsimp only at hSw); go_simp; all_goals with_reducible rfl)
        try simp only [Act.put, List.getElem_toArray, List.getElem_cons_zero, List.getElem_cons_succ, List.setIfInBounds_toArray, List.set_cons_zero, List.set_cons_succ]
        refine wpAnyH_take (i := 4) (oi := _) (v := ?vb5) rfl (by kernel_rfl) (by kernel_rfl) (by kernel_rfl) (fun _ _ _ h => h) (Or.inl ⟨by rfl, ?hyb5⟩) (by assumption) ?restb5
        case hyb5 => (intro w hSw; (try dsimp only at hSw); go_simp; all_goals with_reducible rfl)
        try simp only [Act.put, List.getElem_toArray, List.getElem_cons_zero, List.getElem_cons_succ, List.setIfInBounds_toArray, List.set_cons_zero, List.set_cons_succ]
        refine wpAnyH_take (i := 5) (oi := _) (v := ?vb6) rfl (by kernel_rfl) (by kernel_rfl) (by kernel_rfl) (fun _ _ _ h => h) (Or.inl ⟨by rfl, ?hyb6⟩) (by assumption) ?restb6
        case hyb6 => (intro w hSw; (try dsimp only at hSw); go_simp; all_goals with_reducible rfl)
        try simp only [Act.put, List.getElem_toArray, List.getElem_cons_zero, List.getElem_cons_succ, List.setIfInBounds_toArray, List.set_cons_zero, List.set_cons_succ]
        refine wpAnyH_take (i := 6) (oi := _) (v := ?vb7) rfl (by kernel_rfl) (by kernel_rfl) (by kernel_rfl) (fun _ _ _ h => h) (Or.inl ⟨by rfl, ?hyb7⟩) (by assumption) ?restb7
        case hyb7 => (intro w hSw; (try dsimp only at hSw); go_simp; all_goals with_reducible rfl)
        try simp only [Act.put, List.getElem_toArray, List.getElem_cons_zero, List.getElem_cons_succ, List.setIfInBounds_toArray, List.set_cons_zero, List.set_cons_succ]
        refine wpAnyH_take (i := 8) (oi := _) (v := ?vb8) rfl (by kernel_rfl) (by kernel_rfl) (by kernel_rfl) (fun _ _ _ h => h) (Or.inl ⟨by rfl, ?hyb8⟩) (by assumption) ?restb8
        case hyb8 => (intro w hSw; (try dsimp only at hSw); go_simp; all_goals with_reducible rfl)
        try simp only [Act.put, List.getElem_toArray, List.getElem_cons_zero, List.getElem_cons_succ, List.setIfInBounds_toArray, List.set_cons_zero, List.set_cons_succ]
        refine wpAnyH_ready (rs := [7]) (by kernel_rfl) (by simp) ?_
        refine AllReadyH.cons (o := _) rfl (fun K hK => ?_) AllReadyH.nil
        have hcell := H7.out.2.2.1
        go_simp
        clear hcell
        refine hK.out _ _ ?_ (fun hHeldb9 => ?_)
        · (try dsimp only); exact H7.out.2.2.2.1
        clear hK K hHeldb
        try simp only [Act.put, List.getElem_toArray, List.getElem_cons_zero, List.getElem_cons_succ, List.setIfInBounds_toArray, List.set_cons_zero, List.set_cons_succ]
        refine wpAnyH_ready (rs := [9]) (by kernel_rfl) (by simp) ?_
        refine AllReadyH.cons (o := _) rfl (fun K hK => ?_) AllReadyH.nil
        go_simp
        try go_wp2_with fail
        (with_reducible refine (HU.out).mono ?_); rintro y w7 ⟨B7, c7, rfl, ho7, hb7⟩
        have hs7 := H7.out.1.drew.rest hb7
        have hro7 := own_RowR (bm := bm) (bc := bc) (X := X1) ho7 (by have := HF.out.o3; have := H7.out.1.sz; simp; omega) (by have := HF.out.o4; have := H7.out.1.sz; simp; omega) (fun j hj => by have := HF.out.xl j hj; have := H7.out.1.sz; simp; omega)
        obtain ⟨P9, c9, hc9, hf9, _⟩ := hs7.row (show A1.cs[k]? = some es by rw [H7.out.2.2.2.2.2]; exact HL.out.1)
        have H8 := Lib.hid (And.intro (And.intro hs7 (And.intro hro7 (And.intro ho7 (And.intro hc9 hf9)))) (hs7.setRow HF.out k hro7))
        clear ho7 hb7 hs7 hro7 hc9 hf9
        refine hK.out _ _ ?_ (fun hHeldb10 => ?_)
        · (try dsimp only); have := H8.out.1.1.cell.2.2.2.2.2.1; rw [H7.out.2.2.2.2.2] at this; exact this
        clear hK K hHeldb9
        try simp only [Act.put, List.getElem_toArray, List.getElem_cons_zero, List.getElem_cons_succ, List.setIfInBounds_toArray, List.set_cons_zero, List.set_cons_succ]
        refine wpAnyH_take (i := 10) (oi := _) (v := ?vb11) rfl (by kernel_rfl) (by kernel_rfl) (by kernel_rfl) (fun _ _ _ h => h) (Or.inl ⟨by rfl, ?hyb11⟩) (by assumption) ?restb11
        case hyb11 => (intro w hSw; (try dsimp only at hSw); go_simp; all_goals with_reducible rfl)
        try simp only [Act.put, List.getElem_toArray, List.getElem_cons_zero, List.getElem_cons_succ, List.setIfInBounds_toArray, List.set_cons_zero, List.set_cons_succ]
        refine wpAnyH_ready (rs := [11]) (by kernel_rfl) (by simp) ?_
        refine AllReadyH.cons (o := _) rfl (fun K hK => ?_) AllReadyH.nil
        have hc9 := H8.out.1.2.2.2.1
        have hf9 := H8.out.1.2.2.2.2
        go_simp
        clear hc9 hf9
        refine hK.out _ _ ?_ (fun hHeldb12 => ?_)
        · (try dsimp only); have := H8.out.2.cell.2.2.2.2.2.1; simp only [List.length_set] at this; rw [H7.out.2.2.2.2.2] at this; exact this
        clear hK K hHeldb10
        try simp only [Act.put, List.getElem_toArray, List.getElem_cons_zero, List.getElem_cons_succ, List.setIfInBounds_toArray, List.set_cons_zero, List.set_cons_succ]
        refine wpAnyH_done (by kernel_rfl) ?_ _
        go_wp2_with fail
        go_meet
        have hfe : putB c A k es x = { A1 with cs := A1.cs.set k (useL es j e) } := by
          obtain ⟨h, h1, _⟩ := HJ.out
          unfold putB; rw [HFI.out]; simp only [getD_row h, h1, ← H7.out.2.2.2.2.1]
        rw [hfe]
        exact H8.out.2
    case rest =>
      have hcbx := hcut
      obtain ⟨B, hB⟩ : ∃ B, putB c A k es x = B := ⟨_, rfl⟩
      have hfin := putA_B HL.out.1 v (by rw [HL.out.2.1]; exact HNK.out)
      rw [HL.out.2.1, HL.out.2.2.1] at hfin
      have hrowB := putB_row (c := c) HL.out.1 x
      have hBl := putB_cs c A k es x
      have hll := preL_len (c := c) HL.out.2.2.2.1 HL.out.1 x
      obtain ⟨l0, hl0⟩ : ∃ l0, preL c es x = l0 := ⟨_, rfl⟩
      obtain ⟨e, he0⟩ : ∃ e0, preE es x = e0 := ⟨_, rfl⟩
      rw [hB] at hcbx hfin hrowB hBl
      rw [hl0] at hfin hrowB hll
      rw [he0] at hfin hrowB
      obtain ⟨P2, cp2, hcell, _, hle2, hrd2, hP2, hro2⟩ := hcbx.row hrowB
      have y5 := hcbx.cell.2.2.2.2.2.1
      rw [hBl] at y5
      obtain ⟨nL, hnL⟩ : ∃ n, (l0 ++ [e]).length = n := ⟨_, rfl⟩
      have hnL1 : nL = l0.length + 1 := by rw [← hnL]; simp
      have hcellA : (wc.alloc (.cells #[] 107)).cell? ⟨bc, k, none⟩ = some (.slice P2 (l0 ++ [e]).length cp2) := by rw [(((Below.refl wc.heap.size wc).alloc (Nat.le_refl _) _).cell (p := ⟨bc, k, none⟩) hcbx.rs.lts.2)]; exact hcell
      have y5A : (wc.alloc (.cells #[] 107)).cell? ⟨n0, 5, none⟩ = some (.slice (some ⟨bc, 0, none⟩) A.cs.length A.cs.length) := by rw [(((Below.refl wc.heap.size wc).alloc (Nat.le_refl _) _).cell (p := ⟨n0, 5, none⟩) (blk_lt hcbx.st))]; exact y5
      rw [hnL] at hcell hcellA
      obtain ⟨nU, hnU⟩ : ∃ n, wc.heap.size = n := ⟨_, rfl⟩
      have hU : Us nU wc [] (.slice none 0 0) none e wc := Us.init e (by omega)
      have HU := Lib.hid hU.new
      have h16 : nL ≤ 16 := by have := HB.out; omega
      have HQ := Lib.hid (And.intro hcbx (And.intro hrowB (And.intro hBl (And.intro hrd2 (And.intro hnL (And.intro hfin hnL1))))))
      have HN := Lib.hid hnU
      have HB48 := Lib.hid (show (0 + nL) * 48 ≤ 140737488355328 by omega)
      clear hcut hcbx hfin hrowB hBl hll hl0 he0 hB hle2 hrd2 hP2 hro2 hnL hnL1 hU hnU
      go_upto_region 11 with (at_builtin; go_must (refine wpList_append_rowN lenN oneN (wc.alloc (.cells #[] 107)) rfl (.tmp 60) (.tmp 65) 85 rfl nU 107 _ 48 Try.underlying85 info107 rfl (by decide) (by decide) _ [] 0 rfl rfl HU.out.own P2 nL cp2 (l0 ++ [e]) rfl HQ.out.2.2.2.2.1 (HQ.out.2.2.2.1.below ((Below.refl _ _).alloc (Nat.le_refl _) _)) HB48.out HU.out.size nL (Nat.zero_add _) (l0 ++ [e]) rfl ?_); intro B1 c1 W2 ho hg hl; have H2 := Lib.hid (HU.out.app ho hg hl); clear ho hg hl)
      clear hcell y5 hcellA y5A
      obtain ⟨gL, capL, hgv⟩ : ∃ g cap, (Value.slice B1 nL c1) = .slice (some ⟨g, 0, none⟩) nL cap := by
        rcases H2.out.own.2 with ⟨h1, h2⟩ | ⟨g, cap, cur, h1, _⟩
        · have := HQ.out.2.2.2.2.2.2; simp at h2
        · exact ⟨g, cap, by rw [h1]; simp [HQ.out.2.2.2.2.2.2]⟩
      obtain ⟨rfl, _, rfl⟩ := Value.slice.inj hgv
      clear hgv
      obtain ⟨nI, hnI⟩ : ∃ n, l0.length = n := ⟨_, rfl⟩
      obtain ⟨n2, hn2⟩ : ∃ n, W2.heap.size = n := ⟨_, rfl⟩
      obtain ⟨W3, hW3⟩ : ∃ W, W2.alloc (.cells e.cells 107) = W := ⟨_, rfl⟩
      have hgl : gL < n2 := by rw [← hn2]; exact (H2.out.own.blk gL rfl).2.1
      have hnn : nU ≤ n2 := by rw [← hn2]; exact H2.out.size
      have e1 : (nL : Int) - 1 = (nI : Int) := by have := HQ.out.2.2.2.2.2.2; omega
      have e2 : (nI : Int) < (nL : Int) := by omega
      have e3 : nI < nL := by omega
      have e4 : nL ≤ 101 := by omega
      have e5 : nI ≤ 100 := by omega
      have hrg : W2.rangeAt gL (nI * 13) (encN e) := by
        obtain ⟨A9, c9, e9, hr9⟩ := H2.out.own.rd lenN
        obtain ⟨rfl, _, _⟩ := Value.slice.inj e9
        have := rd_range hr9 nI (by rw [HQ.out.2.2.2.2.1]; exact e3)
        rw [show (l0 ++ [e])[nI]'(by rw [HQ.out.2.2.2.2.1]; exact e3) = e by subst hnI; simp] at this
        exact this
      have hx3 : W3.heap[n2]? = some (.cells e.cells 107 (0, 0)) := by rw [← hW3, ← hn2]; exact Go.heap_alloc_new _ _
      have ho3 : Own encN 13 107 W3 nU (.slice (some ⟨gL, 0, none⟩) nL c1) (l0 ++ [e]) := by rw [← hW3]; exact H2.out.own.rest ((Below.refl _ _).alloc (Nat.le_refl _) _)
      have hb3 : Below nU wc W3 := by rw [← hW3]; exact H2.out.lo.alloc (by rw [hn2]; exact hnn) _
      have H3 := Lib.hid (And.intro hx3 (And.intro ho3 (And.intro hb3 (And.intro hgl (And.intro hnn (And.intro hnI (And.intro e3 (And.intro hW3 hn2))))))))
      have HRG := Lib.hid hrg
      have hbx : ∀ u, Below nU wc u → BxS c bm bc n0 n1 X1 B w u := fun u hu => HQ.out.1.rest (by rw [HN.out]; exact hu)
      have HBX := Lib.hid hbx
      clear hx3 ho3 hb3 hgl hnn hnI e3 hW3 hn2 hrg hbx
      go_upto_region 12 with (refine wpList_load_mid rfl 107 (.tmp 71) rfl gL (nI * 13) rfl (encN e) _ HRG.out Try.underlying107 rfl info107s ?_)
      rw [H3.out.2.2.2.2.2.2.2.1, H3.out.2.2.2.2.2.2.2.2]
      have hf1 := frz H3.out.1 (1 + i)
      have hf5 := frz H3.out.1 (5 + i)
      have hf9 := frz H3.out.1 (9 + i)
      have k1 : W3.cell? ⟨n2, 1 + i, none⟩ = some (.int .i64 (e.d i)) := by rw [cell_of_row _ _ _ _ _ _ H3.out.1]; exact En.at_d e i hi4
      have k5 : W3.cell? ⟨n2, 5 + i, none⟩ = some (.bool (e.v i)) := by rw [cell_of_row _ _ _ _ _ _ H3.out.1]; exact En.at_v e i hi4
      have k9 : W3.cell? ⟨n2, 9 + i, none⟩ = some (.bool (e.t i)) := by rw [cell_of_row _ _ _ _ _ _ H3.out.1]; exact En.at_t e i hi4
      go_upto_region 13 with fail
      clear hf1 hf5 hf9 k1 k5 k9
      have h1 := en_set (e' := { e with d := upd e.d i v }) H3.out.1 (1 + i) (.int .i64 v) (En.set_d e i hi4 v)
      have h2 := en_set (e' := { e with d := upd e.d i v, v := upd e.v i true }) h1 (5 + i) (.bool true) (En.set_v _ i hi4 true)
      have h3 := en_set (e' := wrE e i v) h2 (9 + i) (.bool true) (En.set_t _ i hi4 true)
      have hgw := grownBy_trans (grownBy_trans (grownBy_set W3 n2 (1 + i) (.int .i64 v)) (grownBy_set _ n2 (5 + i) (.bool true))) (grownBy_set _ n2 (9 + i) (.bool true))
      obtain ⟨wr, hwr⟩ : ∃ u, ((W3.setCell ⟨n2, 1 + i, none⟩ (.int .i64 v)).setCell ⟨n2, 5 + i, none⟩ (.bool true)).setCell ⟨n2, 9 + i, none⟩ (.bool true) = u := ⟨_, rfl⟩
      rw [hwr] at h3 hgw ⊢
      have ho : Own encN 13 107 wr nU (.slice (some ⟨gL, 0, none⟩) nL c1) (l0 ++ [e]) := H3.out.2.1.grown hgw (Or.inr (fun h => by have h5 := H3.out.2.2.2.1; simp [Value.ownBlock] at h; omega))
      have hb : Below nU wc wr := H3.out.2.2.1.grown hgw (by have := H3.out.2.2.1.size; have := HN.out; omega) (fun k hk => by obtain rfl := Option.some.inj hk; exact H3.out.2.2.2.2.1)
      have hth : wr.there gL (nI * 13) 13 := own_there lenN ho HQ.out.2.2.2.2.1 nI (by rw [HQ.out.2.2.2.2.1]; exact H3.out.2.2.2.2.2.2.1)
      have h9 := own_put lenN ho HQ.out.2.2.2.2.1 nI (by rw [HQ.out.2.2.2.2.1]; exact H3.out.2.2.2.2.2.2.1) (wrE e i v)
      have hset : (l0 ++ [e]).set nI (wrE e i v) = l0 ++ [wrE e i v] := by rw [← H3.out.2.2.2.2.2.1]; exact snoc_setN _ _ _
      rw [hset] at h9
      obtain ⟨W9, hW9⟩ : ∃ W, wr.setCells gL (nI * 13) (encN (wrE e i v)) = W := ⟨_, rfl⟩
      rw [hW9] at h9
      have hgU : nU ≤ gL := (ho.blk gL rfl).1
      have hb9 : Below nU wc W9 := hb.grown h9.2 (by have := hb.size; have := HN.out; omega) (fun k hk => by obtain rfl := Option.some.inj hk; exact hgU)
      have hs9 := HBX.out W9 hb9
      obtain ⟨P9, c9, hc9, hf9, _⟩ := hs9.row HQ.out.2.1
      have y59 := hs9.cell.2.2.2.2.2.1
      rw [HQ.out.2.2.1] at y59
      have HE := Lib.hid (And.intro h3 (And.intro hth (And.intro h9.1 (And.intro hs9 hW9))))
      clear h1 h2 h3 hgw hwr ho hb hth h9 hset hW9 hb9 hs9 hgU
      go_upto_region 15 with (first | (refine wpList_load_row rfl 107 (.tmp 13) rfl n2 rfl 107 _ (0, 0) _ HE.out.1 Try.underlying107 rfl info107s ?_) | (refine wpList_store_mid rfl 107 (.tmp 88) (.tmp 87) rfl gL (nI * 13) (wrE e i v).cells rfl rfl HE.out.2.1 info107s (enC_one _) ?_; rw [show (wrE e i v).cells.toList = encN (wrE e i v) from rfl, HE.out.2.2.2.2]))
      clear hc9 hf9 y59
      have hSz : BxS c bm bc n0 n1 X1 { B with cs := B.cs.set k (l0 ++ [wrE e i v]) } w (W9.setCell ⟨bc, k, none⟩ (.slice (some ⟨gL, 0, none⟩) nL c1)) := HE.out.2.2.2.1.setRow HF.out k (own_RowR HE.out.2.2.1 (by have := HF.out.o3; have := HQ.out.1.sz; have := HN.out; omega) (by have := HF.out.o4; have := HQ.out.1.sz; have := HN.out; omega) (fun j hj => by have := HF.out.xl j hj; have := HQ.out.1.sz; have := HN.out; omega))
      rw [← HQ.out.2.2.2.2.2.1] at hSz
      obtain ⟨Y, hY⟩ : ∃ Y, W9.setCell ⟨bc, k, none⟩ (.slice (some ⟨gL, 0, none⟩) nL c1) = Y := ⟨_, rfl⟩
      rw [hY] at hSz ⊢
      have HSY := Lib.hid hSz
      have HD := Lib.hid (hSz.done HF.out HX.out.2.1)
      clear hSz hY
      go_wp2_with (first | (refine wpList_load_row rfl 81 (.tmp 4) rfl n0 rfl 81 _ (0, 0) _ HSY.out.st Try.underlying81 rfl info81s ?_) | (refine wpList_store_row rfl 81 (.tmp 8) (.tmp 94) rfl n1 _ rfl rfl 81 _ HSY.out.zr info81s rfl (stC_one _ _ _ _) ?_))
      refine bodyPost_ret (v := .agg (stC c bm bc (putA c A k p v))) (results_cell_row (ty := 81) (p := 8) rfl _ _ n1 81 _ (0, 0) _ rfl HD.out.1 Try.underlying81 rfl info81s) rfl ?_
      unfold StPost
      rw [HW.out.2.1]
      exact ⟨rfl, HD.out.2⟩
end Go.Proofs.Ytggidakiflnhhaa
