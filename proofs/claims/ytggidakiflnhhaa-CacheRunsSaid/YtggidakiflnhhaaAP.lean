import Derived.Test.YtggidakiflnhhaaAO
namespace Go.Proofs.Ytggidakiflnhhaa
open Go.RowKit
set_option maxHeartbeats 16000000
set_option maxRecDepth 100000
set_option linter.unusedSimpArgs false
set_option linter.unusedVariables false

def GtR (c : Cf) (bm bc : Nat) (X : Nat → Prop) (A : AS) (A' : AS) (w : World) (y : Ending) (w' : World) : Prop := ∃ v : Int, y = .returned (.tuple #[.agg (stC c bm bc A'), .int .i64 v]) ∧ RS c bm bc X A' w' ∧ A'.vs = A.vs ++ [v] ∧ Kq bm bc w.heap.size w w'
theorem res35 (tmps : Array Value) (Y : World) (b4 : Nat) (v0 v1 v2 v3 v4 v5 v6 v7 v8 : Value) (v : Value) (h4 : tmps[6]?.getD undef = .pointer (some ⟨b4, 0, none⟩)) (h5 : tmps[7]?.getD undef = v)
    (x4 : Y.heap[b4]? = some (.cells #[v0, v1, v2, v3, v4, v5, v6, v7, v8] 81 (0, 0))) :
    (results Try.f35 tmps).run Try.prog Y = .ok (.tuple #[.agg #[v0, v1, v2, v3, v4, v5, v6, v7, v8], v]) Y := by
  obtain ⟨z0, z1, z2, z3, z4, z5, z6, z7, z8⟩ := st9 x4
  simp [results, Try.results35, go_sem, h4, h5, z0, z1, z2, z3, z4, z5, z6, z7, z8]
theorem bx_cf {c : Cf} {bm bc n0 n1 : Nat} {X1 : Nat → Prop} {B : AS} {w W : World} (h : BxS c bm bc n0 n1 X1 B w W) : W.rangeAt n0 0 [.int .i64 c.L, .int .i64 c.W, .int .i64 c.N, .int .i64 c.H] := fun j v hv => by
  obtain ⟨y0, y1, y2, y3, _⟩ := h.cell
  rw [Nat.zero_add]
  match j with
  | 0 => simp at hv; rw [← hv]; exact y0
  | 1 => simp at hv; rw [← hv]; exact y1
  | 2 => simp at hv; rw [← hv]; exact y2
  | 3 => simp at hv; rw [← hv]; exact y3
  | n + 4 => simp at hv
theorem info23s : (Try.prog.info? 23).map (·.size) = some 4 := by kernel_rfl
theorem getR_calls {c : Cf} {bm bc : Nat} {X : Nat → Prop} {A : AS} {w : World} (h : RS c bm bc X A w) (hA : Ok c A) (hX : ∀ k, X k → k < w.heap.size) (hn : cnt A ≤ 800000000) (k p : Nat) (hk : (k : Int) < c.L) (hp : (p : Int) < c.W) :
    Calls Try.prog 35 #[.agg (stC c bm bc A), .int .i64 (k : Int), .int .i64 (p : Int)] w (GtR c bm bc X A (getA c A k p) w) := by
  obtain ⟨W1, n0, n1, X1, hW1, hn0, hn1, hF, hX1, hS⟩ := bx_open h hX
  obtain ⟨es, hes⟩ : ∃ es, A.cs[k]? = some es := ⟨_, List.getElem?_eq_getElem (by have := hA.cl; omega)⟩
  obtain ⟨x, hx⟩ : ∃ x, p / 4 = x := ⟨_, rfl⟩
  obtain ⟨i, hi⟩ : ∃ i, p % 4 = i := ⟨_, rfl⟩
  have hml := hA.ml
  obtain ⟨o1, o2, o3, o4, o5, o6, o7, o8, o9⟩ := hA.cf
  have d4 : (p : Int) / 4 = (x : Int) := by omega
  have m4 : (p : Int) % 4 = (i : Int) := by omega
  have hi4 : i < 4 := by omega
  have hi4' : (i : Int) < 4 := by omega
  have hx100 : x ≤ 100000 := by omega
  have hkl : k < A.cs.length := (List.getElem?_eq_some_iff.1 hes).1
  have hklI : (k : Int) < (A.cs.length : Int) := by omega
  have hpm : p < A.m.length := by omega
  have HH := Lib.hid (fun w => homeR_calls c hA.cf x hx100 w)
  have HB := Lib.hid (show A.m.length ≤ 256 ∧ x * 4 + 4 ≤ A.m.length ∧ es.length ≤ 16 ∧ 1 ≤ c.N ∧ c.N ≤ 16 ∧ (es.length : Int) ≤ c.N ∧ p < A.m.length ∧ A.f ≤ cnt A ∧ 0 ≤ c.H ∧ (x : Int) < c.W / 4 ∧ 4 ≤ c.W ∧ c.W ≤ 256 ∧ c.H ≤ 8 by have := hA.len k es hes; unfold cnt; omega)
  have HW := Lib.hid (And.intro hW1 (And.intro hn0 hn1))
  have HF := Lib.hid hF
  have HX := Lib.hid (And.intro hS (And.intro hX1 (bx_cf hS)))
  have HL := Lib.hid (And.intro hes (And.intro hx (And.intro hi (And.intro hA (And.intro hn (And.intro hk hkl))))))
  have HD4 := Lib.hid (And.intro d4 m4)
  have hpB : p ≤ 256 := by omega
  have hxB : x ≤ 64 := by omega
  clear d4 m4
  clear hW1 hn0 hn1 hF hX1 hS hes hx hi hml o1 o2 o3 o4 o5 o6 o7 o8 o9 hX h hA hn hk hp hkl hpm hx100
  go_enter Try.func35, Try.ntmps35
  go_upto_region 2 with fail
  rw [HW.out.1]
  rw [HW.out.2.1, HW.out.2.2, HD4.out.1, HD4.out.2]
  by_cases hh : hmF c x = (k : Int)
  · have HC := Lib.hid hh
    have hc := fun w => HH.out w
    rw [hh] at hc
    have HK := Lib.hid hc
    clear hh hc
    go_upto_region 3 with (first | (refine wpList_load_mid rfl 23 (.tmp 18) rfl n0 0 rfl [.int .i64 c.L, .int .i64 c.W, .int .i64 c.N, .int .i64 c.H] _ HX.out.2.2 Try.underlying23 rfl info23s ?_) | ((with_reducible refine (HK.out _).mono ?_); rintro y w5 ⟨rfl, hb5⟩; have H5 := Lib.hid (HX.out.1.rest hb5); clear hb5))
    have hwd := (H5.out.rs.word p HB.out.2.2.2.2.2.2.1).1
    have y4 := H5.out.cell.2.2.2.2.1
    obtain ⟨mp, hmp⟩ : ∃ mp, A.m.getD p 0 = mp := ⟨_, rfl⟩
    have hpl : (p : Int) < (A.m.length : Int) := by have := HB.out.2.2.2.2.2.2.1; omega
    rw [hmp] at hwd
    have HMP := Lib.hid hmp
    have HC4 := Lib.hid (And.intro hwd y4)
    clear hmp hwd y4
    refine wp_region_held_drew (S := (fun w' => w'.cell? ⟨n0, 4, none⟩ = some (.slice (some ⟨bm, 0, none⟩) A.m.length A.m.length) ∧ w'.cell? ⟨bm, p, none⟩ = some (.int .i64 mp))) (by kernel_rfl) ?_ (fun hHelda => ?_)
    · (try dsimp only); exact ⟨HC4.out.2, HC4.out.1⟩
    refine wpAnyH_take (i := 1) (oi := _) (v := ?va1) rfl (by kernel_rfl) (by kernel_rfl) (by kernel_rfl) (fun _ _ _ h => h) (Or.inl ⟨by rfl, ?hya1⟩) (by assumption) ?resta1
    case hya1 => (intro w hSw; (try dsimp only at hSw); go_simp; all_goals with_reducible rfl)
    try simp only [Act.put, List.getElem_toArray, List.getElem_cons_zero, List.getElem_cons_succ, List.setIfInBounds_toArray, List.set_cons_zero, List.set_cons_succ]
    refine wpAnyH_take (i := 2) (oi := _) (v := ?va2) rfl (by kernel_rfl) (by kernel_rfl) (by kernel_rfl) (fun _ _ _ h => h) (Or.inl ⟨by rfl, ?hya2⟩) (by assumption) ?resta2
    case hya2 => (intro w hSw; (try dsimp only at hSw); go_simp; all_goals with_reducible rfl)
    try simp only [Act.put, List.getElem_toArray, List.getElem_cons_zero, List.getElem_cons_succ, List.setIfInBounds_toArray, List.set_cons_zero, List.set_cons_succ]
    refine wpAnyH_take (i := 3) (oi := _) (v := ?va3) rfl (by kernel_rfl) (by kernel_rfl) (by kernel_rfl) (fun _ _ _ h => h) (Or.inl ⟨by rfl, ?hya3⟩) (by assumption) ?resta3
    case hya3 => (intro w hSw; (try dsimp only at hSw); go_simp; all_goals with_reducible rfl)
    try simp only [Act.put, List.getElem_toArray, List.getElem_cons_zero, List.getElem_cons_succ, List.setIfInBounds_toArray, List.set_cons_zero, List.set_cons_succ]
    refine wpAnyH_take (i := 4) (oi := _) (v := ?va4) rfl (by kernel_rfl) (by kernel_rfl) (by kernel_rfl) (fun _ _ _ h => h) (Or.inl ⟨by rfl, ?hya4⟩) (by assumption) ?resta4
    case hya4 => (intro w hSw; (try dsimp only at hSw); go_simp; all_goals with_reducible rfl)
    try simp only [Act.put, List.getElem_toArray, List.getElem_cons_zero, List.getElem_cons_succ, List.setIfInBounds_toArray, List.set_cons_zero, List.set_cons_succ]
    refine wpAnyH_take (i := 5) (oi := _) (v := ?va5) rfl (by kernel_rfl) (by kernel_rfl) (by kernel_rfl) (fun _ _ _ h => h) (Or.inl ⟨by rfl, ?hya5⟩) (by assumption) ?resta5
    case hya5 => (intro w hSw; (try dsimp only at hSw); go_simp; all_goals with_reducible rfl)
    try simp only [Act.put, List.getElem_toArray, List.getElem_cons_zero, List.getElem_cons_succ, List.setIfInBounds_toArray, List.set_cons_zero, List.set_cons_succ]
    refine wpAnyH_ready (rs := [0]) (by kernel_rfl) (by simp) ?_
    refine AllReadyH.cons (o := _) rfl (fun K hK => ?_) AllReadyH.nil
    refine wp_load_row 81 (.tmp 3) rfl n0 rfl 81 (stC c bm bc A) (0, 0) _ H5.out.st Try.underlying81 rfl info81s ?_
    refine hK.out _ _ ?_ (fun hHelda6 => ?_)
    · (try dsimp only); exact ⟨HC4.out.2, HC4.out.1⟩
    clear hK K hHelda
    try simp only [Act.put, List.getElem_toArray, List.getElem_cons_zero, List.getElem_cons_succ, List.setIfInBounds_toArray, List.set_cons_zero, List.set_cons_succ]
    refine wpAnyH_ready (rs := [6]) (by kernel_rfl) (by simp) ?_
    refine AllReadyH.cons (o := _) rfl (fun K hK => ?_) AllReadyH.nil
    refine wp_store_row 81 (.tmp 6) (.tmp 24) rfl n1 (stC c bm bc A) rfl rfl 81 stZ H5.out.zr info81s rfl (stC_one _ _ _ _) ?_
    refine hK.out _ _ ?_ (fun hHelda7 => ?_)
    · (try dsimp only); exact ⟨by rw [cell_setRow_other _ _ _ _ (by have := HF.out.o1; simp; omega)]; exact HC4.out.2, by rw [cell_setRow_other _ _ _ _ (by have := HF.out.o1; have := HF.out.o3; simp; omega)]; exact HC4.out.1⟩
    clear hK K hHelda6
    try simp only [Act.put, List.getElem_toArray, List.getElem_cons_zero, List.getElem_cons_succ, List.setIfInBounds_toArray, List.set_cons_zero, List.set_cons_succ]
    refine wpAnyH_take (i := 7) (oi := _) (v := ?va8) rfl (by kernel_rfl) (by kernel_rfl) (by kernel_rfl) (fun _ _ _ h => h) (Or.inl ⟨by rfl, ?hya8⟩) (by assumption) ?resta8
    case hya8 => (intro w hSw; (try dsimp only at hSw); go_simp; all_goals with_reducible rfl)
    try simp only [Act.put, List.getElem_toArray, List.getElem_cons_zero, List.getElem_cons_succ, List.setIfInBounds_toArray, List.set_cons_zero, List.set_cons_succ]
    refine wpAnyH_done (by kernel_rfl) ?_ _
    have HD := Lib.hid (H5.out.drew.done HF.out HX.out.2.1)
    go_wp2_with fail
    refine bodyPost_ret (v := .tuple #[.agg (stC c bm bc A), .int .i64 mp]) (res35 _ _ n1 _ _ _ _ _ _ _ _ _ _ rfl rfl HD.out.1) rfl ?_
    unfold GtR
    rw [HW.out.2.1]
    have e1 : getA c A k p = { A with vs := A.vs ++ [mp] } := by unfold getA; rw [HL.out.2.1, if_pos HC.out, HMP.out]
    rw [e1]
    exact ⟨mp, rfl, HD.out.2.1.same rfl rfl, rfl, HD.out.2.2⟩
  · have hne : (hmF c x == (k : Int)) = false := by simpa using hh
    have HNK := Lib.hid hh
    obtain ⟨hm, hhm⟩ : ∃ hm, hmF c x = hm := ⟨_, rfl⟩
    have hc := fun w => HH.out w
    rw [hhm] at hc hne
    have HK := Lib.hid hc
    have hd3 : decide (hm = (k : Int)) = false := decide_eq_false (by rw [← hhm]; exact hh)
    clear hh hc hhm
    go_upto_region 4 with (first | (refine wpList_load_mid rfl 23 (.tmp 18) rfl n0 0 rfl [.int .i64 c.L, .int .i64 c.W, .int .i64 c.N, .int .i64 c.H] _ HX.out.2.2 Try.underlying23 rfl info23s ?_) | ((with_reducible refine (HK.out _).mono ?_); rintro y w5 ⟨rfl, hb5⟩; have H5 := Lib.hid (HX.out.1.rest hb5); clear hb5))
    clear hne hd3
    obtain ⟨P, cp, hcell, _, hle, hrd, hP, hrow⟩ := H5.out.row HL.out.1
    have y5 := H5.out.cell.2.2.2.2.2.1
    obtain ⟨fi, hfie⟩ : ∃ fi, fiI es x = fi := ⟨_, rfl⟩
    have hfc : Calls Try.prog 49 #[.slice P es.length cp, .int .i64 (x : Int)] w5 fun y w' => y = .returned (.int .i64 fi) ∧ Below w5.heap.size w5 w' := by rw [← hfie]; exact findR_calls es x P cp w5 hrd
    have HR := Lib.hid (And.intro hrd (And.intro hrow (And.intro hP (And.intro hle hcell))))
    have HFC := Lib.hid hfc
    have HFE := Lib.hid hfie
    clear hrd hrow hP hle hfc hfie
    go_upto_if 38 with ((with_reducible refine (HFC.out).mono ?_); rintro y w6 ⟨rfl, hb6⟩; have H6 := Lib.hid (And.intro (H5.out.rest hb6) (And.intro (HR.out.2.1.call (Kq.of hb6) (Nat.le_refl _)) ((hb6.cell (p := ⟨bc, k, none⟩) (blk_of_cell HR.out.2.2.2.2)).trans HR.out.2.2.2.2))); clear hb6)
    clear hcell y5
    go_cut [10] (fun _ wx => BxS c bm bc n0 n1 X1 (preA c A k es x) w wx ∧ hitB A k x i = false)
    case first =>
      cases hfi : fiF es x with
      | none =>
        have hf1 : fi = -1 := by rw [← HFE.out]; unfold fiI; rw [hfi]
        subst hf1
        have HC1 := Lib.hid (added_calls H6.out.1.rs HL.out.2.2.2.1 (fun j hj => by have := HF.out.xl j hj; have := H6.out.1.sz; omega) (by have := HL.out.2.2.2.2.1; omega) HL.out.1 x)
        have HFI := Lib.hid hfi
        clear hfi
        go_wp2_with (first | (refine wpList_load_row rfl 81 (.tmp 3) rfl n0 rfl 81 _ (0, 0) _ H6.out.1.st Try.underlying81 rfl info81s ?_) | ((with_reducible refine (HC1.out).mono ?_); rintro y w7 ⟨rfl, hr7, hk7⟩; have H7 := Lib.hid (And.intro (H6.out.1.seen HF.out hk7).1 (H6.out.1.store HF.out hr7 hk7)); clear hr7 hk7) | (refine wpList_store_row rfl 81 (.tmp 3) (.tmp 82) rfl n0 _ rfl rfl 81 _ H7.out.1 info81s rfl (stC_one _ _ _ _) ?_))
        go_meet
        have : preA c A k es x = entA c A k es x := by unfold preA; rw [HFI.out]
        rw [this]
        exact ⟨H7.out.2, hit_none (rowA_some HL.out.1) HFI.out⟩
      | some j =>
        have hf1 : fi = (j : Int) := by rw [← HFE.out]; unfold fiI; rw [hfi]
        subst hf1
        obtain ⟨hj, hjl⟩ := fiF_some hfi
        obtain ⟨e, he⟩ : ∃ e, es[j] = e := ⟨_, rfl⟩
        obtain ⟨a, rfl, hca⟩ := HR.out.1.cell j hj
        clear hca
        obtain ⟨hP1, hP2⟩ := HR.out.2.2.1 a rfl
        obtain ⟨g, go, gs⟩ := a
        simp only at hP1 hP2
        subst hP1
        subst hP2
        have hul : (useL es j e).length = es.length := useL_len es j e hj
        have hu := used_calls es j hj e he g cp w6.drew HR.out.2.2.2.1 H6.out.2.1.rd.drew (by have := HB.out; omega)
        unfold RowPost at hu
        rw [hul] at hu
        have HU := Lib.hid hu
        have HJ := Lib.hid (show ∃ h : j < es.length, es[j] = e ∧ e.l = x ∧ (useL es j e).length = es.length from ⟨hj, he, by rw [← he]; exact hjl, hul⟩)
        have HFI := Lib.hid hfi
        have hcell := H6.out.2.2
        have y5 := H6.out.1.cell.2.2.2.2.2.1
        have HC6 := Lib.hid (And.intro hcell y5)
        have hjI : (j : Int) < (es.length : Int) := by omega
        have hes16 : es.length ≤ 16 := HB.out.2.2.1
        clear hu hjl he hul hfi hcell y5 hj
        go_upto_region 6 with fail
        refine wp_region_held_drew (S := (fun w' => w'.cell? ⟨n0, 5, none⟩ = some (.slice (some ⟨bc, 0, none⟩) A.cs.length A.cs.length))) (by kernel_rfl) ?_ (fun hHeldb => ?_)
        · (try dsimp only); exact HC6.out.2
        refine wpAnyH_take (i := 0) (oi := _) (v := ?vb1) rfl (by kernel_rfl) (by kernel_rfl) (by kernel_rfl) (fun _ _ _ h => h) (Or.inl ⟨by rfl, ?hyb1⟩) (by assumption) ?restb1
        case hyb1 => (intro w hSw; (try dsimp only at hSw); go_simp; all_goals with_reducible rfl)
        try simp only [Act.put, List.getElem_toArray, List.getElem_cons_zero, List.getElem_cons_succ, List.setIfInBounds_toArray, List.set_cons_zero, List.set_cons_succ]
        refine wpAnyH_take (i := 1) (oi := _) (v := ?vb2) rfl (by kernel_rfl) (by kernel_rfl) (by kernel_rfl) (fun _ _ _ h => h) (Or.inl ⟨by rfl, ?hyb2⟩) (by assumption) ?restb2
        case hyb2 => (intro w hSw; (try dsimp only at hSw); go_simp; all_goals with_reducible rfl)
        try simp only [Act.put, List.getElem_toArray, List.getElem_cons_zero, List.getElem_cons_succ, List.setIfInBounds_toArray, List.set_cons_zero, List.set_cons_succ]
        refine wpAnyH_take (i := 2) (oi := _) (v := ?vb3) rfl (by kernel_rfl) (by kernel_rfl) (by kernel_rfl) (fun _ _ _ h => h) (Or.inl ⟨by rfl, ?hyb3⟩) (by assumption) ?restb3
        case hyb3 => (intro w hSw; (try dsimp only at hSw); go_simp; all_goals with_reducible rfl)
        try simp only [Act.put, List.getElem_toArray, List.getElem_cons_zero, List.getElem_cons_succ, List.setIfInBounds_toArray, List.set_cons_zero, List.set_cons_succ]
        refine wpAnyH_take (i := 3) (oi := _) (v := ?vb4) rfl (by kernel_rfl) (by kernel_rfl) (by kernel_rfl) (fun _ _ _ h => h) (Or.inl ⟨by rfl, ?hyb4⟩) (by assumption) ?restb4
        case hyb4 => (intro w hSw; (try dsimp only at hSw); go_simp; all_goals with_reducible rfl)
        try simp only [Act.put, List.getElem_toArray, List.getElem_cons_zero, List.getElem_cons_succ, List.setIfInBounds_toArray, List.set_cons_zero, List.set_cons_succ]
        refine wpAnyH_take (i := 4) (oi := _) (v := ?vb5) rfl (by kernel_rfl) (by kernel_rfl) (by kernel_rfl) (fun _ _ _ h => h) (Or.inl ⟨by rfl, ?hyb5⟩) (by assumption) ?restb5
        case hyb5 => (intro w hSw; (try dsimp only at hSw); go_simp; all_goals with_reducible rfl)
        try simp only [Act.put, List.getElem_toArray, List.getElem_cons_zero, List.getElem_cons_succ, List.setIfInBounds_toArray, List.set_cons_zero, List.set_cons_succ]
        refine wpAnyH_take (i := 5) (oi := _) (v := ?vb6) rfl (by kernel_rfl) (by kernel_rfl) (by kernel_rfl) (fun _ _ _ h => h) (Or.inl ⟨by rfl, ?hyb6⟩) (by assumption) ?restb6
        case hyb6 => (intro w hSw; (try dsimp only at hSw); go_simp; all_goals with_reducible rfl)
        try simp only [Act.put, List.getElem_toArray, List.getElem_cons_zero, List.getElem_cons_succ, List.setIfInBounds_toArray, List.set_cons_zero, List.set_cons_succ]
        refine wpAnyH_take (i := 6) (oi := _) (v := ?vb7) rfl (by kernel_rfl) (by kernel_rfl) (by kernel_rfl) (fun _ _ _ h => h) (Or.inl ⟨by rfl, ?hyb7⟩) (by assumption) ?restb7
        case hyb7 => (intro w hSw; (try dsimp only at hSw); go_simp; all_goals with_reducible rfl)
        try simp only [Act.put, List.getElem_toArray, List.getElem_cons_zero, List.getElem_cons_succ, List.setIfInBounds_toArray, List.set_cons_zero, List.set_cons_succ]
        refine wpAnyH_take (i := 8) (oi := _) (v := ?vb8) rfl (by kernel_rfl) (by kernel_rfl) (by kernel_rfl) (fun _ _ _ h => h) (Or.inl ⟨by rfl, ?hyb8⟩) (by assumption) ?restb8
        case hyb8 => (intro w hSw; (try dsimp only at hSw); go_simp; all_goals with_reducible rfl)
        try simp only [Act.put, List.getElem_toArray, List.getElem_cons_zero, List.getElem_cons_succ, List.setIfInBounds_toArray, List.set_cons_zero, List.set_cons_succ]
        refine wpAnyH_ready (rs := [7]) (by kernel_rfl) (by simp) ?_
        refine AllReadyH.cons (o := _) rfl (fun K hK => ?_) AllReadyH.nil
        have hcell := HC6.out.1
        go_simp
        clear hcell
        refine hK.out _ _ ?_ (fun hHeldb9 => ?_)
        · (try dsimp only); exact HC6.out.2
        clear hK K hHeldb
        try simp only [Act.put, List.getElem_toArray, List.getElem_cons_zero, List.getElem_cons_succ, List.setIfInBounds_toArray, List.set_cons_zero, List.set_cons_succ]
        refine wpAnyH_ready (rs := [9]) (by kernel_rfl) (by simp) ?_
        refine AllReadyH.cons (o := _) rfl (fun K hK => ?_) AllReadyH.nil
        go_simp
        try go_wp2_with fail
        (with_reducible refine (HU.out).mono ?_); rintro y w7 ⟨B7, c7, rfl, ho7, hb7⟩
        have hs7 := H6.out.1.drew.rest hb7
        have hro7 := own_RowR (bm := bm) (bc := bc) (X := X1) ho7 (by have := HF.out.o3; have := H6.out.1.sz; simp; omega) (by have := HF.out.o4; have := H6.out.1.sz; simp; omega) (fun j hj => by have := HF.out.xl j hj; have := H6.out.1.sz; simp; omega)
        obtain ⟨P9, c9, hc9, hf9, _⟩ := hs7.row HL.out.1
        have H7 := Lib.hid (And.intro (And.intro hs7 (And.intro hro7 (And.intro ho7 (And.intro hc9 hf9)))) (hs7.setRow HF.out k hro7))
        clear ho7 hb7 hs7 hro7 hc9 hf9
        refine hK.out _ _ ?_ (fun hHeldb10 => ?_)
        · (try dsimp only); exact H7.out.1.1.cell.2.2.2.2.2.1
        clear hK K hHeldb9
        try simp only [Act.put, List.getElem_toArray, List.getElem_cons_zero, List.getElem_cons_succ, List.setIfInBounds_toArray, List.set_cons_zero, List.set_cons_succ]
        refine wpAnyH_take (i := 10) (oi := _) (v := ?vb11) rfl (by kernel_rfl) (by kernel_rfl) (by kernel_rfl) (fun _ _ _ h => h) (Or.inl ⟨by rfl, ?hyb11⟩) (by assumption) ?restb11
        case hyb11 => (intro w hSw; (try dsimp only at hSw); go_simp; all_goals with_reducible rfl)
        try simp only [Act.put, List.getElem_toArray, List.getElem_cons_zero, List.getElem_cons_succ, List.setIfInBounds_toArray, List.set_cons_zero, List.set_cons_succ]
        refine wpAnyH_ready (rs := [11]) (by kernel_rfl) (by simp) ?_
        refine AllReadyH.cons (o := _) rfl (fun K hK => ?_) AllReadyH.nil
        have hc9 := H7.out.1.2.2.2.1
        have hf9 := H7.out.1.2.2.2.2
        go_simp
        clear hc9 hf9
        refine hK.out _ _ ?_ (fun hHeldb12 => ?_)
        · (try dsimp only); have := H7.out.2.cell.2.2.2.2.2.1; simp only [List.length_set] at this; exact this
        clear hK K hHeldb10
        try simp only [Act.put, List.getElem_toArray, List.getElem_cons_zero, List.getElem_cons_succ, List.setIfInBounds_toArray, List.set_cons_zero, List.set_cons_succ]
        refine wpAnyH_done (by kernel_rfl) ?_ _
        skip
        obtain ⟨W7, hW7⟩ : ∃ W, w7.setCell ⟨bc, k, none⟩ (.slice B7 es.length c7) = W := ⟨_, rfl⟩
        obtain ⟨nL, hnL⟩ : ∃ n, es.length = n := ⟨_, rfl⟩
        obtain ⟨nI, hnI⟩ : ∃ n, es.length - 1 = n := ⟨_, rfl⟩
        obtain ⟨A1, hA1⟩ : ∃ A1 : AS, ({ A with cs := A.cs.set k (useL es j e) } : AS) = A1 := ⟨_, rfl⟩
        rw [hW7, hnL]
        have hs7 : BxS c bm bc n0 n1 X1 A1 w W7 := by rw [← hW7, ← hA1]; exact H7.out.2
        have hro7 : RowR bm bc X1 W7 (.slice B7 es.length c7) (useL es j e) := by
          rw [← hW7]
          exact H7.out.1.2.1.keep (fun q hq _ _ e2 => (grownBy_set _ _ _ _).block q hq (fun h => e2 (Option.some.inj h)))
        have hlen : 0 < es.length := by obtain ⟨h, _⟩ := HJ.out; omega
        obtain ⟨g7, hg7⟩ : ∃ g, B7 = some ⟨g, 0, none⟩ := by
          rcases H7.out.1.2.2.1.2 with ⟨h1, h2⟩ | ⟨g, cap, cur, h1, _⟩
          · rw [HJ.out.2.2.2] at h2; omega
          · exact ⟨g, (Value.slice.inj h1).1⟩
        subst hg7
        have hlast : (useL es j e)[nI]'(by rw [HJ.out.2.2.2]; omega) = e := by
          unfold useL
          rw [List.getElem_append_right (by obtain ⟨h, _⟩ := HJ.out; rw [List.length_eraseIdx_of_lt h]; omega)]
          simp
        have hrg : W7.rangeAt g7 (nI * 13) (encN e) := by
          have := rd_range hro7.rd nI (by rw [HJ.out.2.2.2]; omega)
          rw [hlast] at this
          exact this
        have hc7 : W7.cell? ⟨bc, k, none⟩ = some (.slice (some ⟨g7, 0, none⟩) nL c7) := by
          rw [← hW7, ← hnL]
          exact World.cell?_setCell_same' _ _ _ (by rw [H7.out.1.2.2.2.1]; rfl)
        have e1 : (nL : Int) - 1 = (nI : Int) := by omega
        have e2 : (nI : Int) < (nL : Int) := by omega
        have e4 : nL ≤ 101 := by omega
        have e5 : nI ≤ 100 := by omega
        have e6 : 0 < nL := by omega
        have e7 : A1.cs.length = A.cs.length := by rw [← hA1]; simp
        have H8 := Lib.hid (And.intro hs7 (And.intro hc7 (And.intro hrg (And.intro hA1 e7))))
        have H9 := Lib.hid (And.intro hnL hnI)
        clear hs7 hc7 hrg hA1 e7 hW7 hro7 hlen hlast hnL hnI hes16 hjI
        have e8 : IntKind.i64.wrap (nI : Int) = (nI : Int) := wrapI_fit _ (by omega)
        have e9 : wrap64 (nI : Int) = (nI : Int) := wrap64_fit _ (by omega)
        go_upto_region 7 with fail
        have hk8 : ∀ u, Below W7.heap.size W7 u → u.cell? ⟨n0, 5, none⟩ = some (.slice (some ⟨bc, 0, none⟩) A.cs.length A.cs.length) ∧ u.cell? ⟨bc, k, none⟩ = some (.slice (some ⟨g7, 0, none⟩) nL c7) ∧ u.rangeAt g7 (nI * 13) (encN e) := fun u hu => by
          refine ⟨?_, (hu.cell (blk_of_cell H8.out.2.1)).trans H8.out.2.1, fun j v hv => (hu.cell (blk_of_cell (H8.out.2.2.1 j v hv))).trans (H8.out.2.2.1 j v hv)⟩
          have := (H8.out.1.rest hu).cell.2.2.2.2.2.1
          rw [H8.out.2.2.2.2] at this
          exact this
        have HK8 := Lib.hid hk8
        clear hk8
        refine wp_region_held_drew (S := (fun w' => w'.cell? ⟨n0, 5, none⟩ = some (.slice (some ⟨bc, 0, none⟩) A.cs.length A.cs.length) ∧ w'.cell? ⟨bc, k, none⟩ = some (.slice (some ⟨g7, 0, none⟩) nL c7) ∧ w'.rangeAt g7 (nI * 13) (encN e))) (by kernel_rfl) ?_ (fun hHeldc => ?_)
        · (try dsimp only); exact ⟨by have := H8.out.1.cell.2.2.2.2.2.1; rw [H8.out.2.2.2.2] at this; exact this, H8.out.2.1, H8.out.2.2.1⟩
        refine wpAnyH_take (i := 0) (oi := _) (v := ?vc1) rfl (by kernel_rfl) (by kernel_rfl) (by kernel_rfl) (fun _ _ _ h => h) (Or.inl ⟨by rfl, ?hyc1⟩) (by assumption) ?restc1
        case hyc1 => (intro w hSw; (try dsimp only at hSw); go_simp; all_goals with_reducible rfl)
        try simp only [Act.put, List.getElem_toArray, List.getElem_cons_zero, List.getElem_cons_succ, List.setIfInBounds_toArray, List.set_cons_zero, List.set_cons_succ]
        refine wpAnyH_take (i := 1) (oi := _) (v := ?vc2) rfl (by kernel_rfl) (by kernel_rfl) (by kernel_rfl) (fun _ _ _ h => h) (Or.inl ⟨by rfl, ?hyc2⟩) (by assumption) ?restc2
        case hyc2 => (intro w hSw; (try dsimp only at hSw); go_simp; all_goals with_reducible rfl)
        try simp only [Act.put, List.getElem_toArray, List.getElem_cons_zero, List.getElem_cons_succ, List.setIfInBounds_toArray, List.set_cons_zero, List.set_cons_succ]
        refine wpAnyH_take (i := 2) (oi := _) (v := ?vc3) rfl (by kernel_rfl) (by kernel_rfl) (by kernel_rfl) (fun _ _ _ h => h) (Or.inl ⟨by rfl, ?hyc3⟩) (by assumption) ?restc3
        case hyc3 => (intro w hSw; (try dsimp only at hSw); go_simp; all_goals with_reducible rfl)
        try simp only [Act.put, List.getElem_toArray, List.getElem_cons_zero, List.getElem_cons_succ, List.setIfInBounds_toArray, List.set_cons_zero, List.set_cons_succ]
        refine wpAnyH_take (i := 3) (oi := _) (v := ?vc4) rfl (by kernel_rfl) (by kernel_rfl) (by kernel_rfl) (fun _ _ _ h => h) (Or.inl ⟨by rfl, ?hyc4⟩) (by assumption) ?restc4
        case hyc4 => (intro w hSw; (try dsimp only at hSw); go_simp; all_goals with_reducible rfl)
        try simp only [Act.put, List.getElem_toArray, List.getElem_cons_zero, List.getElem_cons_succ, List.setIfInBounds_toArray, List.set_cons_zero, List.set_cons_succ]
        refine wpAnyH_take (i := 4) (oi := _) (v := ?vc5) rfl (by kernel_rfl) (by kernel_rfl) (by kernel_rfl) (fun _ _ _ h => h) (Or.inl ⟨by rfl, ?hyc5⟩) (by assumption) ?restc5
        case hyc5 => (intro w hSw; (try dsimp only at hSw); go_simp; all_goals with_reducible rfl)
        try simp only [Act.put, List.getElem_toArray, List.getElem_cons_zero, List.getElem_cons_succ, List.setIfInBounds_toArray, List.set_cons_zero, List.set_cons_succ]
        refine wpAnyH_take (i := 5) (oi := _) (v := ?vc6) rfl (by kernel_rfl) (by kernel_rfl) (by kernel_rfl) (fun _ _ _ h => h) (Or.inl ⟨by rfl, ?hyc6⟩) (by assumption) ?restc6
        case hyc6 => (intro w hSw; (try dsimp only at hSw); go_simp; all_goals with_reducible rfl)
        try simp only [Act.put, List.getElem_toArray, List.getElem_cons_zero, List.getElem_cons_succ, List.setIfInBounds_toArray, List.set_cons_zero, List.set_cons_succ]
        refine wpAnyH_take (i := 6) (oi := _) (v := ?vc7) rfl (by kernel_rfl) (by kernel_rfl) (by kernel_rfl) (fun _ _ _ h => h) (Or.inl ⟨by rfl, ?hyc7⟩) (by assumption) ?restc7
        case hyc7 => (intro w hSw; (try dsimp only at hSw); go_simp; all_goals with_reducible rfl)
        try simp only [Act.put, List.getElem_toArray, List.getElem_cons_zero, List.getElem_cons_succ, List.setIfInBounds_toArray, List.set_cons_zero, List.set_cons_succ]
        refine wpAnyH_take (i := 7) (oi := _) (v := ?vc8) rfl (by kernel_rfl) (by kernel_rfl) (by kernel_rfl) (fun _ _ _ h => h) (Or.inl ⟨by rfl, ?hyc8⟩) (by assumption) ?restc8
        case hyc8 => (intro w hSw; (try dsimp only at hSw); go_simp; all_goals with_reducible rfl)
        try simp only [Act.put, List.getElem_toArray, List.getElem_cons_zero, List.getElem_cons_succ, List.setIfInBounds_toArray, List.set_cons_zero, List.set_cons_succ]
        refine wpAnyH_take (i := 8) (oi := _) (v := ?vc9) rfl (by kernel_rfl) (by kernel_rfl) (by kernel_rfl) (fun _ _ _ h => h) (Or.inl ⟨by rfl, ?hyc9⟩) (by assumption) ?restc9
        case hyc9 => (intro w hSw; (try dsimp only at hSw); go_simp; all_goals with_reducible rfl)
        try simp only [Act.put, List.getElem_toArray, List.getElem_cons_zero, List.getElem_cons_succ, List.setIfInBounds_toArray, List.set_cons_zero, List.set_cons_succ]
        refine wpAnyH_take (i := 9) (oi := _) (v := ?vc10) rfl (by kernel_rfl) (by kernel_rfl) (by kernel_rfl) (fun _ _ _ h => h) (Or.inl ⟨by rfl, ?hyc10⟩) (by assumption) ?restc10
        case hyc10 => (intro w hSw; (try dsimp only at hSw); go_simp; all_goals with_reducible rfl)
        try simp only [Act.put, List.getElem_toArray, List.getElem_cons_zero, List.getElem_cons_succ, List.setIfInBounds_toArray, List.set_cons_zero, List.set_cons_succ]
        refine wpAnyH_take (i := 10) (oi := _) (v := ?vc11) rfl (by kernel_rfl) (by kernel_rfl) (by kernel_rfl) (fun _ _ _ h => h) (Or.inl ⟨by rfl, ?hyc11⟩) (by assumption) ?restc11
        case hyc11 => (intro w hSw; (try dsimp only at hSw); go_simp; all_goals with_reducible rfl)
        try simp only [Act.put, List.getElem_toArray, List.getElem_cons_zero, List.getElem_cons_succ, List.setIfInBounds_toArray, List.set_cons_zero, List.set_cons_succ]
        refine wpAnyH_take (i := 11) (oi := _) (v := ?vc12) rfl (by kernel_rfl) (by kernel_rfl) (by kernel_rfl) (fun _ _ _ h => h) (Or.inl ⟨by rfl, ?hyc12⟩) (by assumption) ?restc12
        case hyc12 => (intro w hSw; (try dsimp only at hSw); go_simp; all_goals with_reducible rfl)
        try simp only [Act.put, List.getElem_toArray, List.getElem_cons_zero, List.getElem_cons_succ, List.setIfInBounds_toArray, List.set_cons_zero, List.set_cons_succ]
        refine wpAnyH_take (i := 12) (oi := _) (v := ?vc13) rfl (by kernel_rfl) (by kernel_rfl) (by kernel_rfl) (fun _ _ _ h => h) (Or.inl ⟨by rfl, ?hyc13⟩) (by assumption) ?restc13
        case hyc13 => (intro w hSw; (try dsimp only at hSw); go_simp; all_goals with_reducible rfl)
        try simp only [Act.put, List.getElem_toArray, List.getElem_cons_zero, List.getElem_cons_succ, List.setIfInBounds_toArray, List.set_cons_zero, List.set_cons_succ]
        refine wpAnyH_take (i := 13) (oi := _) (v := ?vc14) rfl (by kernel_rfl) (by kernel_rfl) (by kernel_rfl) (fun _ _ _ h => h) (Or.inl ⟨by rfl, ?hyc14⟩) (by assumption) ?restc14
        case hyc14 => (intro w hSw; (try dsimp only at hSw); (refine exec_load_mid 107 (.tmp 62) ?_ g7 (nI * 13) ?_ (encN e) _ hSw.2.2 Try.underlying107 rfl info107s) <;> rfl)
        try simp only [Act.put, List.getElem_toArray, List.getElem_cons_zero, List.getElem_cons_succ, List.setIfInBounds_toArray, List.set_cons_zero, List.set_cons_succ]
        refine wpAnyH_ready (rs := [14]) (by kernel_rfl) (by simp) ?_
        refine AllReadyH.cons (o := _) rfl (fun K hK => ?_) AllReadyH.nil
        go_simp
        refine hK.out _ _ ?_ (fun hHeldc15 => ?_)
        · (try dsimp only); exact HK8.out _ (by first | exact ((Below.refl _ W7).alloc (Nat.le_refl _) _).drew | exact (((Below.refl _ W7).alloc (Nat.le_refl _) _).drew).grown (grownBy_setRow _ _ _) (by simp) (fun k hk => by obtain rfl := Option.some.inj hk; exact Nat.le_refl _))
        clear hK K hHeldc
        try simp only [Act.put, List.getElem_toArray, List.getElem_cons_zero, List.getElem_cons_succ, List.setIfInBounds_toArray, List.set_cons_zero, List.set_cons_succ]
        refine wpAnyH_ready (rs := [15]) (by kernel_rfl) (by simp) ?_
        refine AllReadyH.cons (o := _) rfl (fun K hK => ?_) AllReadyH.nil
        refine wp_store_row 107 (.tmp 11) (.tmp 63) rfl W7.heap.size e.cells rfl rfl 107 enZ (Go.heap_alloc_new W7 _) info107s rfl (enC_one _) ?_
        refine hK.out _ _ ?_ (fun hHeldc16 => ?_)
        · (try dsimp only); exact HK8.out _ (by first | exact ((Below.refl _ W7).alloc (Nat.le_refl _) _).drew | exact (((Below.refl _ W7).alloc (Nat.le_refl _) _).drew).grown (grownBy_setRow _ _ _) (by simp) (fun k hk => by obtain rfl := Option.some.inj hk; exact Nat.le_refl _))
        clear hK K hHeldc15
        try simp only [Act.put, List.getElem_toArray, List.getElem_cons_zero, List.getElem_cons_succ, List.setIfInBounds_toArray, List.set_cons_zero, List.set_cons_succ]
        refine wpAnyH_done (by kernel_rfl) ?_ _
        skip
        clear e8 e9
        have hb8 : Below W7.heap.size W7 ((W7.alloc (.cells enZ 107)).drew.setRow W7.heap.size e.cells) := (((Below.refl _ W7).alloc (Nat.le_refl _) _).drew).grown (grownBy_setRow _ _ _) (by simp) (fun k hk => by obtain rfl := Option.some.inj hk; exact Nat.le_refl _)
        have hx8 : ((W7.alloc (.cells enZ 107)).drew.setRow W7.heap.size e.cells).heap[W7.heap.size]? = some (.cells e.cells 107 (0, 0)) := setRow_heap _ _ _ _ _ _ (Go.heap_alloc_new W7 _)
        obtain ⟨W8, hW8⟩ : ∃ W, (W7.alloc (.cells enZ 107)).drew.setRow W7.heap.size e.cells = W := ⟨_, rfl⟩
        obtain ⟨n2, hn2⟩ : ∃ n, W7.heap.size = n := ⟨_, rfl⟩
        rw [hW8] at hb8 hx8
        rw [hn2] at hx8
        rw [hW8, hn2]
        have hs8 := H8.out.1.rest hb8
        have hv8 : W8.cell? ⟨n2, 5 + i, none⟩ = some (.bool (e.v i)) := by rw [cell_of_row _ _ _ _ _ _ hx8]; exact En.at_v e i hi4
        have hd8 : W8.cell? ⟨n2, 1 + i, none⟩ = some (.int .i64 (e.d i)) := by rw [cell_of_row _ _ _ _ _ _ hx8]; exact En.at_d e i hi4
        have hpre : preA c A k es x = A1 := by
          obtain ⟨h, h1, _⟩ := HJ.out
          rw [← H8.out.2.2.2.1]
          unfold preA; rw [HFI.out]; simp only [getD_row h, h1]
        have HS8 := Lib.hid (And.intro hs8 (And.intro hpre (And.intro hd8 (show n2 < W8.heap.size ∧ n0 + 2 ≤ n2 from ⟨blk_lt hx8, by rw [← hn2]; exact H8.out.1.sz⟩))))
        obtain ⟨vi, hvi⟩ : ∃ b, e.v i = b := ⟨_, rfl⟩
        rw [hvi] at hv8
        have HVI := Lib.hid hvi
        clear hb8 hx8 hW8 hn2 hs8 hd8 hpre hvi
        cases vi with
        | false =>
          go_wp2_with fail
          go_meet
          rw [HS8.out.2.1]
          refine ⟨HS8.out.1, ?_⟩
          obtain ⟨h, h1, h2, _⟩ := HJ.out
          rw [hit_eq (rowA_some HL.out.1) HFI.out, getD_row h, h1]
          exact HVI.out
        | true =>
          have y8 := HS8.out.1.cell.2.2.2.2.2.2.2.2
          have f8 := frz HS8.out.1.st 8
          have hA1h : A1.h = A.h := by rw [← H8.out.2.2.2.1]
          have hh1 : A.h ≤ 800000000 := by have := HL.out.2.2.2.2.1; unfold cnt at this; omega
          rw [hA1h] at y8
          have HA1 := Lib.hid hA1h
          clear hA1h
          go_upto_region 10 with fail
          clear y8 f8 hv8
          obtain ⟨W9, hW9⟩ : ∃ W, W8.setCell ⟨n0, 8, none⟩ (.int .i64 ((A.h : Int) + 1)) = W := ⟨_, rfl⟩
          rw [hW9]
          have hs9 : BxS c bm bc n0 n1 X1 { A1 with h := A1.h + 1 } w W9 := by rw [← hW9]; exact HS8.out.1.setCnt HF.out 8 _ rfl rfl (by simp [stC, HA1.out])
          obtain ⟨A2, hA2⟩ : ∃ A2 : AS, ({ A1 with h := A1.h + 1 } : AS) = A2 := ⟨_, rfl⟩
          rw [hA2] at hs9
          obtain ⟨ed, hed⟩ : ∃ d, e.d i = d := ⟨_, rfl⟩
          have hd9 : W9.cell? ⟨n2, 1 + i, none⟩ = some (.int .i64 ed) := by
            rw [← hW9, ← hed, World.cell?_of_block (w := W8)]
            · exact HS8.out.2.2.1
            · exact (grownBy_set W8 n0 8 _).block n2 HS8.out.2.2.2.1 (fun h => by have := Option.some.inj h; have := HS8.out.2.2.2.2; omega)
          have HD9 := Lib.hid (And.intro hd9 (And.intro hed hA2))
          have HS9 := Lib.hid hs9
          clear hs9 hd9 hed hA2 hW9
          refine wp_region_held_drew (S := (fun w' => w'.cell? ⟨n2, 1 + i, none⟩ = some (.int .i64 ed))) (by kernel_rfl) ?_ (fun hHeldd => ?_)
          · (try dsimp only); exact HD9.out.1
          refine wpAnyH_take (i := 1) (oi := _) (v := ?vd1) rfl (by kernel_rfl) (by kernel_rfl) (by kernel_rfl) (fun _ _ _ h => h) (Or.inl ⟨by rfl, ?hyd1⟩) (by assumption) ?restd1
          case hyd1 => (intro w hSw; (try dsimp only at hSw); go_simp; all_goals with_reducible rfl)
          try simp only [Act.put, List.getElem_toArray, List.getElem_cons_zero, List.getElem_cons_succ, List.setIfInBounds_toArray, List.set_cons_zero, List.set_cons_succ]
          refine wpAnyH_take (i := 2) (oi := _) (v := ?vd2) rfl (by kernel_rfl) (by kernel_rfl) (by kernel_rfl) (fun _ _ _ h => h) (Or.inl ⟨by rfl, ?hyd2⟩) (by assumption) ?restd2
          case hyd2 => (intro w hSw; (try dsimp only at hSw); go_simp; all_goals with_reducible rfl)
          try simp only [Act.put, List.getElem_toArray, List.getElem_cons_zero, List.getElem_cons_succ, List.setIfInBounds_toArray, List.set_cons_zero, List.set_cons_succ]
          refine wpAnyH_take (i := 3) (oi := _) (v := ?vd3) rfl (by kernel_rfl) (by kernel_rfl) (by kernel_rfl) (fun _ _ _ h => h) (Or.inl ⟨by rfl, ?hyd3⟩) (by assumption) ?restd3
          case hyd3 => (intro w hSw; (try dsimp only at hSw); go_simp; all_goals with_reducible rfl)
          try simp only [Act.put, List.getElem_toArray, List.getElem_cons_zero, List.getElem_cons_succ, List.setIfInBounds_toArray, List.set_cons_zero, List.set_cons_succ]
          refine wpAnyH_take (i := 4) (oi := _) (v := ?vd4) rfl (by kernel_rfl) (by kernel_rfl) (by kernel_rfl) (fun _ _ _ h => h) (Or.inl ⟨by rfl, ?hyd4⟩) (by assumption) ?restd4
          case hyd4 => (intro w hSw; (try dsimp only at hSw); go_simp; all_goals with_reducible rfl)
          try simp only [Act.put, List.getElem_toArray, List.getElem_cons_zero, List.getElem_cons_succ, List.setIfInBounds_toArray, List.set_cons_zero, List.set_cons_succ]
          refine wpAnyH_ready (rs := [0]) (by kernel_rfl) (by simp) ?_
          refine AllReadyH.cons (o := _) rfl (fun K hK => ?_) AllReadyH.nil
          refine wp_load_row 81 (.tmp 3) rfl n0 rfl 81 (stC c bm bc A2) (0, 0) _ HS9.out.st Try.underlying81 rfl info81s ?_
          refine hK.out _ _ ?_ (fun hHeldd5 => ?_)
          · (try dsimp only); exact HD9.out.1
          clear hK K hHeldd
          try simp only [Act.put, List.getElem_toArray, List.getElem_cons_zero, List.getElem_cons_succ, List.setIfInBounds_toArray, List.set_cons_zero, List.set_cons_succ]
          refine wpAnyH_ready (rs := [5]) (by kernel_rfl) (by simp) ?_
          refine AllReadyH.cons (o := _) rfl (fun K hK => ?_) AllReadyH.nil
          refine wp_store_row 81 (.tmp 6) (.tmp 74) rfl n1 (stC c bm bc A2) rfl rfl 81 stZ HS9.out.zr info81s rfl (stC_one _ _ _ _) ?_
          refine hK.out _ _ ?_ (fun hHeldd6 => ?_)
          · (try dsimp only); rw [cell_setRow_other _ _ _ _ (by have := HS8.out.2.2.2.2; have := HF.out.o2; simp; omega)]; exact HD9.out.1
          clear hK K hHeldd5
          try simp only [Act.put, List.getElem_toArray, List.getElem_cons_zero, List.getElem_cons_succ, List.setIfInBounds_toArray, List.set_cons_zero, List.set_cons_succ]
          refine wpAnyH_take (i := 6) (oi := _) (v := ?vd7) rfl (by kernel_rfl) (by kernel_rfl) (by kernel_rfl) (fun _ _ _ h => h) (Or.inl ⟨by rfl, ?hyd7⟩) (by assumption) ?restd7
          case hyd7 => (intro w hSw; (try dsimp only at hSw); go_simp; all_goals with_reducible rfl)
          try simp only [Act.put, List.getElem_toArray, List.getElem_cons_zero, List.getElem_cons_succ, List.setIfInBounds_toArray, List.set_cons_zero, List.set_cons_succ]
          refine wpAnyH_done (by kernel_rfl) ?_ _
          have HD := Lib.hid (HS9.out.drew.done HF.out HX.out.2.1)
          go_wp2_with fail
          refine bodyPost_ret (v := .tuple #[.agg (stC c bm bc A2), .int .i64 ed]) (res35 _ _ n1 _ _ _ _ _ _ _ _ _ _ rfl rfl HD.out.1) rfl ?_
          unfold GtR
          rw [HW.out.2.1]
          have e1 : getA c A k p = { A2 with vs := A.vs ++ [ed] } := by
            obtain ⟨h, h1, h2, _⟩ := HJ.out
            have hr := rowA_some HL.out.1
            have hhit : hitB A k x i = true := by rw [hit_eq hr HFI.out, getD_row h, h1]; exact HVI.out
            unfold getA
            rw [HL.out.2.1, HL.out.2.2.1, if_neg HNK.out, if_pos hhit]
            rw [touch_eq (A := { A with h := A.h + 1 }) (HL.out.2.2.2.1.same rfl rfl) HL.out.1 (List.getElem?_eq_some_iff.2 ⟨h, h1⟩) h2, ← HD9.out.2.2, ← H8.out.2.2.2.1, HD9.out.2.1]
          rw [e1]
          exact ⟨ed, rfl, HD.out.2.1.same rfl rfl, rfl, HD.out.2.2⟩
    case rest =>
      obtain ⟨hcut, hnh⟩ := hcut
      have HNH := Lib.hid hnh
      clear hnh
      obtain ⟨B0, hB0⟩ : ∃ B0, preA c A k es x = B0 := ⟨_, rfl⟩
      obtain ⟨l0, hl0⟩ : ∃ l0, preL c es x = l0 := ⟨_, rfl⟩
      obtain ⟨e0, he0⟩ : ∃ e0, preE es x = e0 := ⟨_, rfl⟩
      have hrow0 : B0.cs[k]? = some (l0 ++ [e0]) := by rw [← hB0, ← hl0, ← he0]; exact preA_row HL.out.1 x
      have hfill : ftA B0 k l0 e0 = fillA c A k x := by rw [← hB0, ← hl0, ← he0]; exact ftA_pre HL.out.1 x
      have hm0 : B0.m.length = A.m.length := by rw [← hB0]; exact preA_m c A k es x
      have hf0 : B0.f = A.f := by rw [← hB0]; exact preA_f c A k es x
      have hel : e0.l = x := by rw [← he0]; exact preE_l es x
      have hll : (l0.length : Int) + 1 ≤ c.N := by rw [← hl0]; exact preL_len HL.out.2.2.2.1 HL.out.1 x
      have hcn : cnt (fillA c A k x) ≤ cnt A + 2 := by rw [← hfill, ← hB0]; have := cnt_ftA (preA c A k es x) k l0 e0; have := cnt_pre (c := c) A k es x; omega
      have hofl : Ok c (fillA c A k x) := HL.out.2.2.2.1.fill k x HB.out.2.1
      rw [hB0] at hcut
      have HC := Lib.hid (fetched_calls hcut.rs (fun j hj => by have := HF.out.xl j hj; have := hcut.sz; omega) hrow0 (by rw [hel, hm0]; exact HB.out.2.1) (by rw [hm0]; exact HB.out.1) (by rw [hf0]; have := HB.out.2.2.2.2.2.2.2.1; have := HL.out.2.2.2.2.1; omega) (by have := HB.out; omega))
      have HS0 := Lib.hid (And.intro hcut (And.intro hfill (And.intro hcn (And.intro hofl (And.intro hel (And.intro hm0 hrow0))))))
      clear hB0 hl0 he0 hrow0 hfill hm0 hf0 hel hll hcn hofl hcut
      go_upto_region 13 with (first | (refine wpList_load_row rfl 81 (.tmp 3) rfl n0 rfl 81 _ (0, 0) _ HS0.out.1.st Try.underlying81 rfl info81s ?_) | ((with_reducible refine (HC.out).mono ?_); rintro y w7 ⟨rfl, hr7, hk7⟩; have H7 := Lib.hid (And.intro (HS0.out.1.seen HF.out hk7).1 (HS0.out.1.store HF.out hr7 hk7)); clear hr7 hk7) | (refine wpList_store_row rfl 81 (.tmp 3) (.tmp 85) rfl n0 _ rfl rfl 81 _ H7.out.1 info81s rfl (stC_one _ _ _ _) ?_))
      rw [HS0.out.2.1]
      have H7' := H7.out.2
      rw [HS0.out.2.1] at H7'
      obtain ⟨W9, hW9⟩ : ∃ W, w7.setRow n0 (stC c bm bc (fillA c A k x)) = W := ⟨_, rfl⟩
      rw [hW9] at H7' ⊢
      obtain ⟨ef, hef⟩ : ∃ ef, ftE B0.m e0 = ef := ⟨_, rfl⟩
      have hefl : ef.l = x := by rw [← hef, ftE_l]; exact HS0.out.2.2.2.2.1
      have hrf : (fillA c A k x).cs[k]? = some (l0 ++ [ef]) := by
        rw [← HS0.out.2.1, ← hef]
        exact List.getElem?_set_self (List.getElem?_eq_some_iff.1 HS0.out.2.2.2.2.2.2).1
      have hN : (ahN c : Int) = min c.H (c.N - 1) := by have := HB.out; unfold ahN; omega
      have H9 := Lib.hid (And.intro H7' (And.intro hrf (And.intro hefl hN)))
      clear H7' hW9 hef hefl hrf hN
      go_upto_block 0 with fail
      go_cut [12] (fun _ wx => ∃ es1 es2, BxS c bm bc n0 n1 X1 (aheadA c k x (fillA c A k x)) w wx ∧ Ok c (aheadA c k x (fillA c A k x)) ∧ (aheadA c k x (fillA c A k x)).cs[k]? = some (es1 ++ ef :: es2))
      case first =>
       go_wp2_with fail
       go_loopg [12, 13, 86, 87, 88, 89, 90, 91, 92, 93, 94, 95, 96, 97, 98, 99, 100, 101, 102, 103, 104, 105, 106, 107, 108, 109, 110, 111, 112, 113, 114, 115, 116, 117, 118, 119, 120, 121, 122, 123, 124, 125, 126, 127, 128, 129, 130, 131, 132, 133, 134] (ahN c) (fun gk v12 v13 v86 v87 v88 v89 v90 v91 v92 v93 v94 v95 v96 v97 v98 v99 v100 v101 v102 v103 v104 v105 v106 v107 v108 v109 v110 v111 v112 v113 v114 v115 v116 v117 v118 v119 v120 v121 v122 v123 v124 v125 v126 v127 v128 v129 v130 v131 v132 v133 v134 wr => ∃ (j : Nat) (Ai : AS) (es1 es2 : List En), j + gk = ahN c ∧ v12 = .int .i64 ((j + 1 : Nat) : Int) ∧ Ai = (List.range j).foldl (ahS c k x) (fillA c A k x) ∧ BxS c bm bc n0 n1 X1 Ai w wr ∧ Ok c Ai ∧ cnt Ai ≤ cnt A + 2 + 2 * j ∧ Ai.cs[k]? = some (es1 ++ ef :: es2) ∧ es2.length ≤ j)
       case atStart => exact ⟨0, fillA c A k x, l0, [], by omega, by go_num, rfl, H9.out.1, HS0.out.2.2.2.1, by have := HS0.out.2.2.1; omega, H9.out.2.1, Nat.le_refl _⟩
       case round =>
         obtain ⟨j, Ai, es1, es2, hj, rfl, hAi, hbs, hok, hcn, hrow, hl2⟩ := hrel
         obtain ⟨y0, y1, y2, y3, y4, y5, _, _, _⟩ := hbs.cell
         have hN := H9.out.2.2.2
         have hst : (List.range (j + 1)).foldl (ahS c k x) (fillA c A k x) = ahS c k x Ai j := by rw [range_succ_foldl, ← hAi]
         have hacl : Ai.cs.length = A.cs.length := by have := hok.cl; have := HL.out.2.2.2.1.cl; omega
         rw [hacl] at y5
         have hoc := hok.cf
         have HQ := Lib.hid (And.intro hAi (And.intro hbs (And.intro hok (And.intro hcn (And.intro hrow (And.intro hl2 (And.intro hst hacl)))))))
         have hHB : c.H ≤ 8 := HB.out.2.2.2.2.2.2.2.2.2.2.2.2
         have hNB : c.N ≤ 16 := HB.out.2.2.2.2.1
         have hN1 : 1 ≤ c.N := HB.out.2.2.2.1
         have hH0 : 0 ≤ c.H := HB.out.2.2.2.2.2.2.2.2.1
         have hj8 : j ≤ 8 := by omega
         have hW4 : 4 ≤ c.W := HB.out.2.2.2.2.2.2.2.2.2.2.1
         have hW5 : c.W ≤ 256 := HB.out.2.2.2.2.2.2.2.2.2.2.2.1
         clear hAi hbs hok hcn hrow hl2 hst hacl hoc
         by_cases hlt : j < ahN c
         · have d1 : decide ((j : Int) + 1 ≤ c.H) = true := decide_eq_true (by omega)
           have d1' : (j : Int) + 1 ≤ c.H := by omega
           have d2 : decide ((j : Int) + 1 ≤ c.N - 1) = true := decide_eq_true (by omega)
           have d2' : (j : Int) + 1 ≤ c.N - 1 := by omega
           obtain ⟨n, hn⟩ : ∃ n, x + (j + 1) = n := ⟨_, rfl⟩
           have hn1 : (x : Int) + ((j : Int) + 1) = (n : Int) := by omega
           have hn2 : (x : Int) + ((j + 1 : Nat) : Int) = (n : Int) := by omega
           have HLT := Lib.hid (And.intro hlt (And.intro hN hn))
           have hnB : n ≤ 100 := by omega
           clear hlt hN hn
           go_upto_region 17 with fail
           by_cases hc1 : (n : Int) < c.W / 4
           · have d3 : decide ((n : Int) < c.W / 4) = true := decide_eq_true hc1
             have HC1 := Lib.hid hc1
             have hH := Lib.hid (fun w => homeR_calls c HQ.out.2.2.1.cf n (by omega) w)
             obtain ⟨es', hes'⟩ : ∃ es', es1 ++ ef :: es2 = es' := ⟨_, rfl⟩
             have hrow' : Ai.cs[k]? = some es' := by rw [← hes']; exact HQ.out.2.2.2.2.1
             have HES := Lib.hid (And.intro hrow' hes')
             obtain ⟨P, cp, hcell, _, hle, hrd, hP, hro⟩ := HQ.out.2.1.row hrow'
             have HR := Lib.hid (And.intro hcell (And.intro hro (bx_cf HQ.out.2.1)))
             clear hc1 hrow' hes' hle hrd hP hro hcell
             by_cases hc2 : hmF c n = (k : Int)
             · have HC2 := Lib.hid hc2
               obtain ⟨hm, hhm⟩ : ∃ hm, hmF c n = hm := ⟨_, rfl⟩
               have hne : (hm != (k : Int)) = false := by rw [← hhm]; simpa using hc2
               have hc := fun w => hH.out w
               rw [hhm] at hc
               have HK := Lib.hid hc
               clear hc2 hhm hc
               go_wp2_with (refine wpList_load_mid rfl 23 (.tmp 111) rfl n0 0 rfl [.int .i64 c.L, .int .i64 c.W, .int .i64 c.N, .int .i64 c.H] _ HR.out.2.2 Try.underlying23 rfl info23s ?_)
               (with_reducible refine (HK.out _).mono ?_); rintro y w5 ⟨rfl, hb5⟩; have H5 := Lib.hid (HQ.out.2.1.rest hb5); clear hb5 y0 y1 y2 y3 y4 y5
               go_wp2_with fail
               go_roundg (gk - 1)
               case measure => have := HLT.out.1; omega
               case rel =>
                 have e1 : ahS c k x Ai j = Ai := by unfold ahS; rw [HLT.out.2.2, if_neg (fun h => h.2.1 HC2.out)]
                 exact ⟨j + 1, Ai, es1, es2, by have := HLT.out.1; omega, by go_num, by rw [HQ.out.2.2.2.2.2.2.1, e1], H5.out, HQ.out.2.2.1, by have := HQ.out.2.2.2.1; omega, HQ.out.2.2.2.2.1, by have := HQ.out.2.2.2.2.2.1; omega⟩
             · have HC2 := Lib.hid hc2
               obtain ⟨hm, hhm⟩ : ∃ hm, hmF c n = hm := ⟨_, rfl⟩
               have hne : (hm != (k : Int)) = true := by rw [← hhm]; simpa using hc2
               have hc := fun w => hH.out w
               rw [hhm] at hc
               have HK := Lib.hid hc
               obtain ⟨fj, hfj⟩ : ∃ fj, fiI es' n = fj := ⟨_, rfl⟩
               have HFC := Lib.hid (fun w5 (h : Rd encN 13 w5 P es') => show Calls Try.prog 49 #[.slice P es'.length cp, .int .i64 (n : Int)] w5 fun y w' => y = .returned (.int .i64 fj) ∧ Below w5.heap.size w5 w' from by rw [← hfj]; exact findR_calls es' n P cp w5 h)
               clear hc2 hc hhm
               have hfj2 := hfj
               unfold fiI at hfj2
               cases hfi : fiF es' n with
               | some q =>
                 rw [hfi] at hfj2
                 subst hfj2
                 have HFI := Lib.hid hfi
                 clear hfi hfj
                 go_wp2_with (first | (refine wpList_load_mid rfl 23 (.tmp 111) rfl n0 0 rfl [.int .i64 c.L, .int .i64 c.W, .int .i64 c.N, .int .i64 c.H] _ HR.out.2.2 Try.underlying23 rfl info23s ?_) | ((with_reducible refine (HK.out _).mono ?_); rintro y w5 ⟨rfl, hb5⟩; have H5 := Lib.hid (And.intro (HQ.out.2.1.rest hb5) (HR.out.2.1.call (Kq.of hb5) (Nat.le_refl _))); clear y0 y1 y2 y3 y4 y5; obtain ⟨y0, y1, y2, y3, y4, y5, _, _, _⟩ := H5.out.1.cell; rw [HQ.out.2.2.2.2.2.2.2] at y5; have hcell := (hb5.cell (p := ⟨bc, k, none⟩) (blk_of_cell HR.out.1)).trans HR.out.1; clear hb5) | ((with_reducible refine (HFC.out _ H5.out.2.rd).mono ?_); rintro y w6 ⟨rfl, hb6⟩; have H6 := Lib.hid (H5.out.1.rest hb6); clear hb6 hcell y0 y1 y2 y3 y4 y5))
                 go_roundg (gk - 1)
                 case measure => have := HLT.out.1; omega
                 case rel =>
                   have e1 : ahS c k x Ai j = Ai := by unfold ahS; rw [HLT.out.2.2, rowA_some HES.out.1, if_neg (fun h => by rw [HFI.out] at h; cases h.2.2)]
                   exact ⟨j + 1, Ai, es1, es2, by have := HLT.out.1; omega, by go_num, by rw [HQ.out.2.2.2.2.2.2.1, e1], H6.out, HQ.out.2.2.1, by have := HQ.out.2.2.2.1; omega, HQ.out.2.2.2.2.1, by have := HQ.out.2.2.2.2.2.1; omega⟩
               | none =>
                 rw [hfi] at hfj2
                 subst hfj2
                 have HFI := Lib.hid hfi
                 clear hfi hfj
                 go_upto_region 18 with (first | (refine wpList_load_mid rfl 23 (.tmp 111) rfl n0 0 rfl [.int .i64 c.L, .int .i64 c.W, .int .i64 c.N, .int .i64 c.H] _ HR.out.2.2 Try.underlying23 rfl info23s ?_) | ((with_reducible refine (HK.out _).mono ?_); rintro y w5 ⟨rfl, hb5⟩; have H5 := Lib.hid (And.intro (HQ.out.2.1.rest hb5) (HR.out.2.1.call (Kq.of hb5) (Nat.le_refl _))); clear y0 y1 y2 y3 y4 y5; obtain ⟨y0, y1, y2, y3, y4, y5, _, _, _⟩ := H5.out.1.cell; rw [HQ.out.2.2.2.2.2.2.2] at y5; have hcell := (hb5.cell (p := ⟨bc, k, none⟩) (blk_of_cell HR.out.1)).trans HR.out.1; clear hb5) | ((with_reducible refine (HFC.out _ H5.out.2.rd).mono ?_); rintro y w6 ⟨rfl, hb6⟩; have H6 := Lib.hid (H5.out.1.rest hb6); clear hb6 hcell y0 y1 y2 y3 y4 y5))
                 have hcnt : cnt Ai ≤ 900000000 := by have := HQ.out.2.2.2.1; have := HL.out.2.2.2.2.1; omega
                 have hok := HQ.out.2.2.1
                 have hn4 : n * 4 + 4 ≤ Ai.m.length := by have := hok.ml; have := HC1.out; omega
                 have hm2 : Ai.m.length ≤ 256 := by have := hok.ml; have := HB.out; omega
                 have hokE : Ok c (entA c Ai k es' n) := hok.entA HES.out.1 HFI.out hn4
                 have hEm : (entA c Ai k es' n).m.length = Ai.m.length := evA_m c Ai k es'
                 have hEf : (entA c Ai k es' n).f = Ai.f := evA_f c Ai k es'
                 have hrE : (entA c Ai k es' n).cs[k]? = some (evL c es' ++ [newE n]) := List.getElem?_set_self (List.getElem?_eq_some_iff.1 HES.out.1).1
                 have hl3 : (evL c es').length ≤ 100 := by
                   have := evL_ok hok.cf.2.2.2.2.2.1 (hok.len k es' HES.out.1)
                   omega
                 have hfle : Ai.f ≤ cnt Ai := by unfold cnt; omega
                 have HCA := Lib.hid (added_calls H6.out.rs hok (fun j hj => by have := HF.out.xl j hj; have := H6.out.sz; omega) hcnt HES.out.1 n)
                 have HCF := Lib.hid (fun (w7 : World) (h : BxS c bm bc n0 n1 X1 (entA c Ai k es' n) w w7) => (show Calls Try.prog 52 #[.agg (stC c bm bc (entA c Ai k es' n)), .int .i64 (k : Int)] w7 (StPost c bm bc X1 (entF c Ai k es' n) w7) from by
                   have := fetched_calls h.rs (fun j hj => by have := HF.out.xl j hj; have := h.sz; omega) hrE (by rw [hEm]; exact hn4) (by rw [hEm]; exact hm2) (by rw [hEf]; omega) hl3
                   rw [ftA_ent] at this
                   exact this))
                 have HOE := Lib.hid (And.intro hokE (And.intro hok hn4))
                 clear hcnt hok hn4 hm2 hokE hEm hEf hrE hl3 hfle
                 go_upto_region 19 with (first | (refine wpList_load_row rfl 81 (.tmp 3) rfl n0 rfl 81 _ (0, 0) _ H6.out.st Try.underlying81 rfl info81s ?_) | ((with_reducible refine (HCA.out).mono ?_); rintro y w7 ⟨rfl, hr7, hk7⟩; have H7 := Lib.hid (And.intro (H6.out.seen HF.out hk7).1 (H6.out.store HF.out hr7 hk7)); clear hr7 hk7) | (refine wpList_store_row rfl 81 (.tmp 3) (.tmp 131) rfl n0 _ rfl rfl 81 _ H7.out.1 info81s rfl (stC_one _ _ _ _) ?_))
                 obtain ⟨W7, hW7⟩ : ∃ W, w7.setRow n0 (stC c bm bc (entA c Ai k es' n)) = W := ⟨_, rfl⟩
                 have hs7 := H7.out.2
                 rw [hW7] at hs7 ⊢
                 have HS7 := Lib.hid hs7
                 clear hs7 hW7
                 go_wp2_with (first | (refine wpList_load_row rfl 81 (.tmp 3) rfl n0 rfl 81 _ (0, 0) _ HS7.out.st Try.underlying81 rfl info81s ?_) | ((with_reducible refine (HCF.out _ HS7.out).mono ?_); rintro y w8 ⟨rfl, hr8, hk8⟩; have H8 := Lib.hid (And.intro (HS7.out.seen HF.out hk8).1 (HS7.out.store HF.out hr8 hk8)); clear hr8 hk8) | (refine wpList_store_row rfl 81 (.tmp 3) (.tmp 134) rfl n0 _ rfl rfl 81 _ H8.out.1 info81s rfl (stC_one _ _ _ _) ?_))
                 go_roundg (gk - 1)
                 case measure => have := HLT.out.1; omega
                 case rel =>
                   have e1 : ahS c k x Ai j = entF c Ai k es' n := by unfold ahS; rw [HLT.out.2.2, rowA_some HES.out.1, if_pos ⟨HC1.out, HC2.out, HFI.out⟩]
                   obtain ⟨es1', t1⟩ := trackE (c := c) (es1 := es1) (es2 := es2) (e := ef) (f := ftE (evA c Ai k es').m (newE n)) (by have := HQ.out.2.2.2.2.2.1; have := HLT.out.1; have := HLT.out.2.1; omega)
                   refine ⟨j + 1, entF c Ai k es' n, es1', es2 ++ [ftE (evA c Ai k es').m (newE n)], by have := HLT.out.1; omega, by go_num, by rw [HQ.out.2.2.2.2.2.2.1, e1], H8.out.2, ?_, ?_, ?_, by have := HQ.out.2.2.2.2.2.1; simp; omega⟩
                   · have := HOE.out.2.1.entF (k := k) (x := n) (by rw [rowA_some HES.out.1]; exact HFI.out) HOE.out.2.2
                     rw [rowA_some HES.out.1] at this
                     exact this
                   · have := cnt_entF c Ai k es' n
                     have := HQ.out.2.2.2.1
                     omega
                   · show (Ai.cs.set k _)[k]? = _
                     rw [List.getElem?_set_self (List.getElem?_eq_some_iff.1 HES.out.1).1, ← t1, HES.out.2]
           · have d3 : decide ((n : Int) < c.W / 4) = false := decide_eq_false hc1
             have HC1 := Lib.hid hc1
             clear hc1
             go_wp2_with fail
             go_roundg (gk - 1)
             case measure => have := HLT.out.1; omega
             case rel =>
               have e1 : ahS c k x Ai j = Ai := by unfold ahS; rw [HLT.out.2.2, if_neg (fun h => by have h1 := HC1.out; have h2 := h.1; omega)]
               exact ⟨j + 1, Ai, es1, es2, by have := HLT.out.1; omega, by go_num, by rw [HQ.out.2.2.2.2.2.2.1, e1], HQ.out.2.1, HQ.out.2.2.1, by have := HQ.out.2.2.2.1; omega, HQ.out.2.2.2.2.1, by have := HQ.out.2.2.2.2.2.1; omega⟩
         · by_cases hjh : (j : Int) + 1 ≤ c.H
           · have d1 : decide ((j : Int) + 1 ≤ c.H) = true := decide_eq_true hjh
             have d2 : decide ((j : Int) + 1 ≤ c.N - 1) = false := decide_eq_false (by omega)
             have d2' : ¬ (j : Int) + 1 ≤ c.N - 1 := by omega
             have HLT := Lib.hid (show j = ahN c by omega)
             clear hlt hN hj
             go_wp2_with fail
             go_meet
             have e1 : aheadA c k x (fillA c A k x) = Ai := by unfold aheadA; rw [← HLT.out, ← HQ.out.1]
             rw [e1]
             exact ⟨es1, es2, HQ.out.2.1, HQ.out.2.2.1, HQ.out.2.2.2.2.1⟩
           · have d1 : decide ((j : Int) + 1 ≤ c.H) = false := decide_eq_false hjh
             have HLT := Lib.hid (show j = ahN c by omega)
             clear hlt hN hj
             go_wp2_with fail
             go_meet
             have e1 : aheadA c k x (fillA c A k x) = Ai := by unfold aheadA; rw [← HLT.out, ← HQ.out.1]
             rw [e1]
             exact ⟨es1, es2, HQ.out.2.1, HQ.out.2.2.1, HQ.out.2.2.2.2.1⟩
      case rest =>
        obtain ⟨es1, es2, hbs, hok, hrow⟩ := hcut
        obtain ⟨B3, hB3⟩ : ∃ B3, aheadA c k x (fillA c A k x) = B3 := ⟨_, rfl⟩
        obtain ⟨es3, hes3⟩ : ∃ es3, es1 ++ ef :: es2 = es3 := ⟨_, rfl⟩
        rw [hB3] at hbs hok hrow
        rw [hes3] at hrow
        have hj3 : ∃ h : es1.length < es3.length, es3[es1.length] = ef := by subst hes3; exact ⟨by simp, by simp⟩
        obtain ⟨j, hj⟩ : ∃ j, es1.length = j := ⟨_, rfl⟩
        rw [hj] at hj3
        have hfi : fiF es3 x = some j := by
          obtain ⟨h1, h2⟩ := hj3
          have hu := hok.runi k
          rw [rowA_some hrow] at hu
          exact fiF_of hu h1 (by rw [h2]; exact H9.out.2.2.1)
        have hbl : B3.cs.length = A.cs.length := by have := hok.cl; have := HL.out.2.2.2.1.cl; omega
        have h16 : es3.length ≤ 16 := by have := hok.len k es3 hrow; have := HB.out; omega
        obtain ⟨P, cp, hcell, _, hle, hrd, hP, hro⟩ := hbs.row hrow
        obtain ⟨h1, h2⟩ := hj3
        obtain ⟨a, rfl, hca⟩ := hrd.cell j h1
        clear hca
        obtain ⟨hP1, hP2⟩ := hP a rfl
        obtain ⟨g, go, gs⟩ := a
        simp only at hP1 hP2
        subst hP1
        subst hP2
        have hul : (useL es3 j ef).length = es3.length := useL_len es3 j ef h1
        have hfic : fiI es3 x = (j : Int) := by unfold fiI; rw [hfi]
        have hff : ∀ w5, Rd encN 13 w5 (some ⟨g, 0, none⟩) es3 → Calls Try.prog 49 #[.slice (some ⟨g, 0, none⟩) es3.length cp, .int .i64 (x : Int)] w5 fun y w' => y = .returned (.int .i64 (j : Int)) ∧ Below w5.heap.size w5 w' := fun w5 h => by rw [← hfic]; exact findR_calls es3 x _ cp w5 h
        have huu : ∀ w5, Rd encN 13 w5 (some ⟨g, 0, none⟩) es3 → Calls Try.prog 50 #[.slice (some ⟨g, 0, none⟩) es3.length cp, .int .i64 (j : Int)] w5 (RowPost (useL es3 j ef) w5) := fun w5 h => used_calls es3 j h1 ef h2 g cp w5 hle h (by omega)
        unfold RowPost at huu
        rw [hul] at huu
        have y5 := hbs.cell.2.2.2.2.2.1
        rw [hbl] at y5
        have H20 := Lib.hid (And.intro hbs (And.intro hok (And.intro hrow (And.intro hro (And.intro hcell y5)))))
        have HFF := Lib.hid hff
        have HUU := Lib.hid huu
        have HJ := Lib.hid (show ∃ h : j < es3.length, es3[j] = ef ∧ hul = hul from ⟨h1, h2, rfl⟩)
        have HJ2 := Lib.hid (And.intro hB3 (And.intro hbl (And.intro hul h16)))
        clear hbs hok hrow hB3 hes3 hj hfi hbl hcell hle hrd hro hfic hff huu y5 h2 hP
        go_upto_region 20 with fail
        obtain ⟨B4, hB4⟩ : ∃ B4 : AS, ({ B3 with cs := B3.cs.set k (useL es3 j ef) } : AS) = B4 := ⟨_, rfl⟩
        have HB4 := Lib.hid hB4
        clear hB4
        go_cut [135] (fun _ wx => ∃ B7 c7, BxS c bm bc n0 n1 X1 B4 w wx ∧ wx.cell? ⟨bc, k, none⟩ = some (.slice B7 es3.length c7) ∧ RowR bm bc X1 wx (.slice B7 es3.length c7) (useL es3 j ef))
        case first =>
          refine wp_region_held_drew (S := (fun w' => w'.cell? ⟨n0, 5, none⟩ = some (.slice (some ⟨bc, 0, none⟩) A.cs.length A.cs.length) ∧ Rd encN 13 w' (some ⟨g, 0, none⟩) es3)) (by kernel_rfl) ?_ (fun hHelde => ?_)
          · (try dsimp only); exact ⟨H20.out.2.2.2.2.2, H20.out.2.2.2.1.rd.drew⟩
          refine wpAnyH_take (i := 0) (oi := _) (v := ?ve1) rfl (by kernel_rfl) (by kernel_rfl) (by kernel_rfl) (fun _ _ _ h => h) (Or.inl ⟨by rfl, ?hye1⟩) (by assumption) ?reste1
          case hye1 => (intro w hSw; (try dsimp only at hSw); go_simp; all_goals with_reducible rfl)
          try simp only [Act.put, List.getElem_toArray, List.getElem_cons_zero, List.getElem_cons_succ, List.setIfInBounds_toArray, List.set_cons_zero, List.set_cons_succ]
          refine wpAnyH_take (i := 1) (oi := _) (v := ?ve2) rfl (by kernel_rfl) (by kernel_rfl) (by kernel_rfl) (fun _ _ _ h => h) (Or.inl ⟨by rfl, ?hye2⟩) (by assumption) ?reste2
          case hye2 => (intro w hSw; (try dsimp only at hSw); go_simp; all_goals with_reducible rfl)
          try simp only [Act.put, List.getElem_toArray, List.getElem_cons_zero, List.getElem_cons_succ, List.setIfInBounds_toArray, List.set_cons_zero, List.set_cons_succ]
          refine wpAnyH_take (i := 2) (oi := _) (v := ?ve3) rfl (by kernel_rfl) (by kernel_rfl) (by kernel_rfl) (fun _ _ _ h => h) (Or.inl ⟨by rfl, ?hye3⟩) (by assumption) ?reste3
          case hye3 => (intro w hSw; (try dsimp only at hSw); go_simp; all_goals with_reducible rfl)
          try simp only [Act.put, List.getElem_toArray, List.getElem_cons_zero, List.getElem_cons_succ, List.setIfInBounds_toArray, List.set_cons_zero, List.set_cons_succ]
          refine wpAnyH_take (i := 3) (oi := _) (v := ?ve4) rfl (by kernel_rfl) (by kernel_rfl) (by kernel_rfl) (fun _ _ _ h => h) (Or.inl ⟨by rfl, ?hye4⟩) (by assumption) ?reste4
          case hye4 => (intro w hSw; (try dsimp only at hSw); go_simp; all_goals with_reducible rfl)
          try simp only [Act.put, List.getElem_toArray, List.getElem_cons_zero, List.getElem_cons_succ, List.setIfInBounds_toArray, List.set_cons_zero, List.set_cons_succ]
          refine wpAnyH_take (i := 4) (oi := _) (v := ?ve5) rfl (by kernel_rfl) (by kernel_rfl) (by kernel_rfl) (fun _ _ _ h => h) (Or.inl ⟨by rfl, ?hye5⟩) (by assumption) ?reste5
          case hye5 => (intro w hSw; (try dsimp only at hSw); go_simp; all_goals with_reducible rfl)
          try simp only [Act.put, List.getElem_toArray, List.getElem_cons_zero, List.getElem_cons_succ, List.setIfInBounds_toArray, List.set_cons_zero, List.set_cons_succ]
          refine wpAnyH_take (i := 5) (oi := _) (v := ?ve6) rfl (by kernel_rfl) (by kernel_rfl) (by kernel_rfl) (fun _ _ _ h => h) (Or.inl ⟨by rfl, ?hye6⟩) (by assumption) ?reste6
          case hye6 => (intro w hSw; (try dsimp only at hSw); go_simp; all_goals with_reducible rfl)
          try simp only [Act.put, List.getElem_toArray, List.getElem_cons_zero, List.getElem_cons_succ, List.setIfInBounds_toArray, List.set_cons_zero, List.set_cons_succ]
          refine wpAnyH_take (i := 6) (oi := _) (v := ?ve7) rfl (by kernel_rfl) (by kernel_rfl) (by kernel_rfl) (fun _ _ _ h => h) (Or.inl ⟨by rfl, ?hye7⟩) (by assumption) ?reste7
          case hye7 => (intro w hSw; (try dsimp only at hSw); go_simp; all_goals with_reducible rfl)
          try simp only [Act.put, List.getElem_toArray, List.getElem_cons_zero, List.getElem_cons_succ, List.setIfInBounds_toArray, List.set_cons_zero, List.set_cons_succ]
          refine wpAnyH_take (i := 8) (oi := _) (v := ?ve8) rfl (by kernel_rfl) (by kernel_rfl) (by kernel_rfl) (fun _ _ _ h => h) (Or.inl ⟨by rfl, ?hye8⟩) (by assumption) ?reste8
          case hye8 => (intro w hSw; (try dsimp only at hSw); go_simp; all_goals with_reducible rfl)
          try simp only [Act.put, List.getElem_toArray, List.getElem_cons_zero, List.getElem_cons_succ, List.setIfInBounds_toArray, List.set_cons_zero, List.set_cons_succ]
          refine wpAnyH_take (i := 9) (oi := _) (v := ?ve9) rfl (by kernel_rfl) (by kernel_rfl) (by kernel_rfl) (fun _ _ _ h => h) (Or.inl ⟨by rfl, ?hye9⟩) (by assumption) ?reste9
          case hye9 => (intro w hSw; (try dsimp only at hSw); go_simp; all_goals with_reducible rfl)
          try simp only [Act.put, List.getElem_toArray, List.getElem_cons_zero, List.getElem_cons_succ, List.setIfInBounds_toArray, List.set_cons_zero, List.set_cons_succ]
          refine wpAnyH_take (i := 10) (oi := _) (v := ?ve10) rfl (by kernel_rfl) (by kernel_rfl) (by kernel_rfl) (fun _ _ _ h => h) (Or.inl ⟨by rfl, ?hye10⟩) (by assumption) ?reste10
          case hye10 => (intro w hSw; (try dsimp only at hSw); go_simp; all_goals with_reducible rfl)
          try simp only [Act.put, List.getElem_toArray, List.getElem_cons_zero, List.getElem_cons_succ, List.setIfInBounds_toArray, List.set_cons_zero, List.set_cons_succ]
          refine wpAnyH_take (i := 11) (oi := _) (v := ?ve11) rfl (by kernel_rfl) (by kernel_rfl) (by kernel_rfl) (fun _ _ _ h => h) (Or.inl ⟨by rfl, ?hye11⟩) (by assumption) ?reste11
          case hye11 => (intro w hSw; (try dsimp only at hSw); go_simp; all_goals with_reducible rfl)
          try simp only [Act.put, List.getElem_toArray, List.getElem_cons_zero, List.getElem_cons_succ, List.setIfInBounds_toArray, List.set_cons_zero, List.set_cons_succ]
          refine wpAnyH_take (i := 13) (oi := _) (v := ?ve12) rfl (by kernel_rfl) (by kernel_rfl) (by kernel_rfl) (fun _ _ _ h => h) (Or.inl ⟨by rfl, ?hye12⟩) (by assumption) ?reste12
          case hye12 => (intro w hSw; (try dsimp only at hSw); go_simp; all_goals with_reducible rfl)
          try simp only [Act.put, List.getElem_toArray, List.getElem_cons_zero, List.getElem_cons_succ, List.setIfInBounds_toArray, List.set_cons_zero, List.set_cons_succ]
          refine wpAnyH_ready (rs := [7, 12]) (by kernel_rfl) (by simp) ?_
          refine AllReadyH.cons (o := _) rfl (fun K hK => ?_) ?_
          · have hcell := H20.out.2.2.2.2.1
            go_simp
            clear hcell
            refine hK.out _ _ ?_ (fun hHelde13 => ?_)
            · (try dsimp only); exact ⟨H20.out.2.2.2.2.2, H20.out.2.2.2.1.rd.drew⟩
            clear hK K hHelde
            try simp only [Act.put, List.getElem_toArray, List.getElem_cons_zero, List.getElem_cons_succ, List.setIfInBounds_toArray, List.set_cons_zero, List.set_cons_succ]
            refine wpAnyH_ready (rs := [12]) (by kernel_rfl) (by simp) ?_
            refine AllReadyH.cons (o := _) rfl (fun K hK => ?_) AllReadyH.nil
            have hcell := H20.out.2.2.2.2.1
            go_simp
            clear hcell
            refine hK.out _ _ ?_ (fun hHelde14 => ?_)
            · (try dsimp only); exact ⟨H20.out.2.2.2.2.2, H20.out.2.2.2.1.rd.drew⟩
            clear hK K hHelde13
            try simp only [Act.put, List.getElem_toArray, List.getElem_cons_zero, List.getElem_cons_succ, List.setIfInBounds_toArray, List.set_cons_zero, List.set_cons_succ]
            refine wpAnyH_ready (rs := [14]) (by kernel_rfl) (by simp) ?_
            refine AllReadyH.cons (o := _) rfl (fun K hK => ?_) AllReadyH.nil
            go_simp
            try go_wp2_with fail
            (with_reducible refine (HFF.out _ H20.out.2.2.2.1.rd.drew).mono ?_); rintro y w6 ⟨rfl, hb6⟩
            have hs6 := H20.out.1.drew.rest hb6
            have y56 := hs6.cell.2.2.2.2.2.1
            rw [HJ2.out.2.1] at y56
            have H21 := Lib.hid (And.intro hs6 (And.intro ((H20.out.2.2.2.1.call (Kq.drew (Kq.refl _)) (Nat.le_refl _)).call (Kq.of hb6) (Nat.le_refl _)) (And.intro y56 ((hb6.cell (p := ⟨bc, k, none⟩) (blk_of_cell (show _ = some _ from H20.out.2.2.2.2.1))).trans H20.out.2.2.2.2.1))))
            clear hs6 y56 hb6
            refine hK.out _ _ ?_ (fun hHelde15 => ?_)
            · (try dsimp only); exact ⟨H21.out.2.2.1, H21.out.2.1.rd⟩
            clear hK K hHelde14
            try simp only [Act.put, List.getElem_toArray, List.getElem_cons_zero, List.getElem_cons_succ, List.setIfInBounds_toArray, List.set_cons_zero, List.set_cons_succ]
            refine wpAnyH_ready (rs := [15]) (by kernel_rfl) (by simp) ?_
            refine AllReadyH.cons (o := _) rfl (fun K hK => ?_) AllReadyH.nil
            go_simp
            try go_wp2_with fail
            (with_reducible refine (HUU.out _ H21.out.2.1.rd).mono ?_); rintro y w7 ⟨B7, c7, rfl, ho7, hb7⟩
            have hs7 := H21.out.1.rest hb7
            have hro7 := own_RowR (bm := bm) (bc := bc) (X := X1) ho7 (by have := HF.out.o3; have := H21.out.1.sz; omega) (by have := HF.out.o4; have := H21.out.1.sz; omega) (fun j hj => by have := HF.out.xl j hj; have := H21.out.1.sz; omega)
            obtain ⟨P9, c9, hc9, hf9, _⟩ := hs7.row H20.out.2.2.1
            have y57 := hs7.cell.2.2.2.2.2.1
            rw [HJ2.out.2.1] at y57
            have hro8 := H21.out.2.1.call (Kq.of hb7) (Nat.le_refl _)
            have hsz := hs7.setRow HF.out k hro7
            have y58 := hsz.cell.2.2.2.2.2.1
            simp only [List.length_set] at y58
            rw [HJ2.out.2.1] at y58
            have hro9 := hro8.keep (w' := w7.setCell ⟨bc, k, none⟩ (.slice B7 es3.length c7)) (fun q hq _ _ e2 => (grownBy_set _ _ _ _).block q hq (fun h => e2 (Option.some.inj h)))
            have H22 := Lib.hid (And.intro hs7 (And.intro hro7 (And.intro ho7 (And.intro hc9 (And.intro hf9 (And.intro y57 hro8.rd))))))
            have H24 := Lib.hid hsz
            have H23 := Lib.hid (And.intro y58 hro9.rd)
            clear ho7 hb7 hs7 hro7 hc9 hf9 y57 hro8 hsz y58 hro9
            refine hK.out _ _ ?_ (fun hHelde16 => ?_)
            · (try dsimp only); exact H22.out.2.2.2.2.2
            clear hK K hHelde15
            try simp only [Act.put, List.getElem_toArray, List.getElem_cons_zero, List.getElem_cons_succ, List.setIfInBounds_toArray, List.set_cons_zero, List.set_cons_succ]
            refine wpAnyH_take (i := 16) (oi := _) (v := ?ve17) rfl (by kernel_rfl) (by kernel_rfl) (by kernel_rfl) (fun _ _ _ h => h) (Or.inl ⟨by rfl, ?hye17⟩) (by assumption) ?reste17
            case hye17 => (intro w hSw; (try dsimp only at hSw); go_simp; all_goals with_reducible rfl)
            try simp only [Act.put, List.getElem_toArray, List.getElem_cons_zero, List.getElem_cons_succ, List.setIfInBounds_toArray, List.set_cons_zero, List.set_cons_succ]
            refine wpAnyH_ready (rs := [17]) (by kernel_rfl) (by simp) ?_
            refine AllReadyH.cons (o := _) rfl (fun K hK => ?_) AllReadyH.nil
            have hc9 := H22.out.2.2.2.1
            have hf9 := H22.out.2.2.2.2.1
            go_simp
            clear hc9 hf9
            refine hK.out _ _ ?_ (fun hHelde18 => ?_)
            · (try dsimp only); exact H23.out
            clear hK K hHelde16
            try simp only [Act.put, List.getElem_toArray, List.getElem_cons_zero, List.getElem_cons_succ, List.setIfInBounds_toArray, List.set_cons_zero, List.set_cons_succ]
            refine wpAnyH_done (by kernel_rfl) ?_ _
            go_wp2_with fail
            go_meet
            refine ⟨B7, c7, by rw [← HB4.out]; exact H24.out, World.cell?_setCell_same' _ _ _ (by rw [H22.out.2.2.2.1]; rfl), H22.out.2.1.keep (fun q hq _ _ e2 => (grownBy_set _ _ _ _).block q hq (fun h => e2 (Option.some.inj h)))⟩
          refine AllReadyH.cons (o := _) rfl (fun K hK => ?_) AllReadyH.nil
          have hcell := H20.out.2.2.2.2.1
          go_simp
          clear hcell
          refine hK.out _ _ ?_ (fun hHelde19 => ?_)
          · (try dsimp only); exact ⟨H20.out.2.2.2.2.2, H20.out.2.2.2.1.rd.drew⟩
          clear hK K hHelde
          try simp only [Act.put, List.getElem_toArray, List.getElem_cons_zero, List.getElem_cons_succ, List.setIfInBounds_toArray, List.set_cons_zero, List.set_cons_succ]
          refine wpAnyH_ready (rs := [7, 14]) (by kernel_rfl) (by simp) ?_
          refine AllReadyH.cons (o := _) rfl (fun K hK => ?_) ?_
          · have hcell := H20.out.2.2.2.2.1
            go_simp
            clear hcell
            refine hK.out _ _ ?_ (fun hHelde20 => ?_)
            · (try dsimp only); exact ⟨H20.out.2.2.2.2.2, H20.out.2.2.2.1.rd.drew⟩
            clear hK K hHelde19
            try simp only [Act.put, List.getElem_toArray, List.getElem_cons_zero, List.getElem_cons_succ, List.setIfInBounds_toArray, List.set_cons_zero, List.set_cons_succ]
            refine wpAnyH_ready (rs := [14]) (by kernel_rfl) (by simp) ?_
            refine AllReadyH.cons (o := _) rfl (fun K hK => ?_) AllReadyH.nil
            go_simp
            try go_wp2_with fail
            (with_reducible refine (HFF.out _ H20.out.2.2.2.1.rd.drew).mono ?_); rintro y w6 ⟨rfl, hb6⟩
            have hs6 := H20.out.1.drew.rest hb6
            have y56 := hs6.cell.2.2.2.2.2.1
            rw [HJ2.out.2.1] at y56
            have H21 := Lib.hid (And.intro hs6 (And.intro ((H20.out.2.2.2.1.call (Kq.drew (Kq.refl _)) (Nat.le_refl _)).call (Kq.of hb6) (Nat.le_refl _)) (And.intro y56 ((hb6.cell (p := ⟨bc, k, none⟩) (blk_of_cell (show _ = some _ from H20.out.2.2.2.2.1))).trans H20.out.2.2.2.2.1))))
            clear hs6 y56 hb6
            refine hK.out _ _ ?_ (fun hHelde21 => ?_)
            · (try dsimp only); exact ⟨H21.out.2.2.1, H21.out.2.1.rd⟩
            clear hK K hHelde20
            try simp only [Act.put, List.getElem_toArray, List.getElem_cons_zero, List.getElem_cons_succ, List.setIfInBounds_toArray, List.set_cons_zero, List.set_cons_succ]
            refine wpAnyH_ready (rs := [15]) (by kernel_rfl) (by simp) ?_
            refine AllReadyH.cons (o := _) rfl (fun K hK => ?_) AllReadyH.nil
            go_simp
            try go_wp2_with fail
            (with_reducible refine (HUU.out _ H21.out.2.1.rd).mono ?_); rintro y w7 ⟨B7, c7, rfl, ho7, hb7⟩
            have hs7 := H21.out.1.rest hb7
            have hro7 := own_RowR (bm := bm) (bc := bc) (X := X1) ho7 (by have := HF.out.o3; have := H21.out.1.sz; omega) (by have := HF.out.o4; have := H21.out.1.sz; omega) (fun j hj => by have := HF.out.xl j hj; have := H21.out.1.sz; omega)
            obtain ⟨P9, c9, hc9, hf9, _⟩ := hs7.row H20.out.2.2.1
            have y57 := hs7.cell.2.2.2.2.2.1
            rw [HJ2.out.2.1] at y57
            have hro8 := H21.out.2.1.call (Kq.of hb7) (Nat.le_refl _)
            have hsz := hs7.setRow HF.out k hro7
            have y58 := hsz.cell.2.2.2.2.2.1
            simp only [List.length_set] at y58
            rw [HJ2.out.2.1] at y58
            have hro9 := hro8.keep (w' := w7.setCell ⟨bc, k, none⟩ (.slice B7 es3.length c7)) (fun q hq _ _ e2 => (grownBy_set _ _ _ _).block q hq (fun h => e2 (Option.some.inj h)))
            have H22 := Lib.hid (And.intro hs7 (And.intro hro7 (And.intro ho7 (And.intro hc9 (And.intro hf9 (And.intro y57 hro8.rd))))))
            have H24 := Lib.hid hsz
            have H23 := Lib.hid (And.intro y58 hro9.rd)
            clear ho7 hb7 hs7 hro7 hc9 hf9 y57 hro8 hsz y58 hro9
            refine hK.out _ _ ?_ (fun hHelde22 => ?_)
            · (try dsimp only); exact H22.out.2.2.2.2.2
            clear hK K hHelde21
            try simp only [Act.put, List.getElem_toArray, List.getElem_cons_zero, List.getElem_cons_succ, List.setIfInBounds_toArray, List.set_cons_zero, List.set_cons_succ]
            refine wpAnyH_take (i := 16) (oi := _) (v := ?ve23) rfl (by kernel_rfl) (by kernel_rfl) (by kernel_rfl) (fun _ _ _ h => h) (Or.inl ⟨by rfl, ?hye23⟩) (by assumption) ?reste23
            case hye23 => (intro w hSw; (try dsimp only at hSw); go_simp; all_goals with_reducible rfl)
            try simp only [Act.put, List.getElem_toArray, List.getElem_cons_zero, List.getElem_cons_succ, List.setIfInBounds_toArray, List.set_cons_zero, List.set_cons_succ]
            refine wpAnyH_ready (rs := [17]) (by kernel_rfl) (by simp) ?_
            refine AllReadyH.cons (o := _) rfl (fun K hK => ?_) AllReadyH.nil
            have hc9 := H22.out.2.2.2.1
            have hf9 := H22.out.2.2.2.2.1
            go_simp
            clear hc9 hf9
            refine hK.out _ _ ?_ (fun hHelde24 => ?_)
            · (try dsimp only); exact H23.out
            clear hK K hHelde22
            try simp only [Act.put, List.getElem_toArray, List.getElem_cons_zero, List.getElem_cons_succ, List.setIfInBounds_toArray, List.set_cons_zero, List.set_cons_succ]
            refine wpAnyH_done (by kernel_rfl) ?_ _
            go_wp2_with fail
            go_meet
            refine ⟨B7, c7, by rw [← HB4.out]; exact H24.out, World.cell?_setCell_same' _ _ _ (by rw [H22.out.2.2.2.1]; rfl), H22.out.2.1.keep (fun q hq _ _ e2 => (grownBy_set _ _ _ _).block q hq (fun h => e2 (Option.some.inj h)))⟩
          refine AllReadyH.cons (o := _) rfl (fun K hK => ?_) AllReadyH.nil
          go_simp
          try go_wp2_with fail
          (with_reducible refine (HFF.out _ H20.out.2.2.2.1.rd.drew).mono ?_); rintro y w6 ⟨rfl, hb6⟩
          have hs6 := H20.out.1.drew.rest hb6
          have y56 := hs6.cell.2.2.2.2.2.1
          rw [HJ2.out.2.1] at y56
          have H21 := Lib.hid (And.intro hs6 (And.intro ((H20.out.2.2.2.1.call (Kq.drew (Kq.refl _)) (Nat.le_refl _)).call (Kq.of hb6) (Nat.le_refl _)) (And.intro y56 ((hb6.cell (p := ⟨bc, k, none⟩) (blk_of_cell (show _ = some _ from H20.out.2.2.2.2.1))).trans H20.out.2.2.2.2.1))))
          clear hs6 y56 hb6
          refine hK.out _ _ ?_ (fun hHelde25 => ?_)
          · (try dsimp only); exact ⟨H21.out.2.2.1, H21.out.2.1.rd⟩
          clear hK K hHelde19
          try simp only [Act.put, List.getElem_toArray, List.getElem_cons_zero, List.getElem_cons_succ, List.setIfInBounds_toArray, List.set_cons_zero, List.set_cons_succ]
          refine wpAnyH_ready (rs := [7]) (by kernel_rfl) (by simp) ?_
          refine AllReadyH.cons (o := _) rfl (fun K hK => ?_) AllReadyH.nil
          have hcell := H21.out.2.2.2
          go_simp
          clear hcell
          refine hK.out _ _ ?_ (fun hHelde26 => ?_)
          · (try dsimp only); exact ⟨H21.out.2.2.1, H21.out.2.1.rd⟩
          clear hK K hHelde25
          try simp only [Act.put, List.getElem_toArray, List.getElem_cons_zero, List.getElem_cons_succ, List.setIfInBounds_toArray, List.set_cons_zero, List.set_cons_succ]
          refine wpAnyH_ready (rs := [15]) (by kernel_rfl) (by simp) ?_
          refine AllReadyH.cons (o := _) rfl (fun K hK => ?_) AllReadyH.nil
          go_simp
          try go_wp2_with fail
          (with_reducible refine (HUU.out _ H21.out.2.1.rd).mono ?_); rintro y w7 ⟨B7, c7, rfl, ho7, hb7⟩
          have hs7 := H21.out.1.rest hb7
          have hro7 := own_RowR (bm := bm) (bc := bc) (X := X1) ho7 (by have := HF.out.o3; have := H21.out.1.sz; omega) (by have := HF.out.o4; have := H21.out.1.sz; omega) (fun j hj => by have := HF.out.xl j hj; have := H21.out.1.sz; omega)
          obtain ⟨P9, c9, hc9, hf9, _⟩ := hs7.row H20.out.2.2.1
          have y57 := hs7.cell.2.2.2.2.2.1
          rw [HJ2.out.2.1] at y57
          have hro8 := H21.out.2.1.call (Kq.of hb7) (Nat.le_refl _)
          have hsz := hs7.setRow HF.out k hro7
          have y58 := hsz.cell.2.2.2.2.2.1
          simp only [List.length_set] at y58
          rw [HJ2.out.2.1] at y58
          have hro9 := hro8.keep (w' := w7.setCell ⟨bc, k, none⟩ (.slice B7 es3.length c7)) (fun q hq _ _ e2 => (grownBy_set _ _ _ _).block q hq (fun h => e2 (Option.some.inj h)))
          have H22 := Lib.hid (And.intro hs7 (And.intro hro7 (And.intro ho7 (And.intro hc9 (And.intro hf9 (And.intro y57 hro8.rd))))))
          have H24 := Lib.hid hsz
          have H23 := Lib.hid (And.intro y58 hro9.rd)
          clear ho7 hb7 hs7 hro7 hc9 hf9 y57 hro8 hsz y58 hro9
          refine hK.out _ _ ?_ (fun hHelde27 => ?_)
          · (try dsimp only); exact H22.out.2.2.2.2.2
          clear hK K hHelde26
          try simp only [Act.put, List.getElem_toArray, List.getElem_cons_zero, List.getElem_cons_succ, List.setIfInBounds_toArray, List.set_cons_zero, List.set_cons_succ]
          refine wpAnyH_take (i := 16) (oi := _) (v := ?ve28) rfl (by kernel_rfl) (by kernel_rfl) (by kernel_rfl) (fun _ _ _ h => h) (Or.inl ⟨by rfl, ?hye28⟩) (by assumption) ?reste28
          case hye28 => (intro w hSw; (try dsimp only at hSw); go_simp; all_goals with_reducible rfl)
          try simp only [Act.put, List.getElem_toArray, List.getElem_cons_zero, List.getElem_cons_succ, List.setIfInBounds_toArray, List.set_cons_zero, List.set_cons_succ]
          refine wpAnyH_ready (rs := [17]) (by kernel_rfl) (by simp) ?_
          refine AllReadyH.cons (o := _) rfl (fun K hK => ?_) AllReadyH.nil
          have hc9 := H22.out.2.2.2.1
          have hf9 := H22.out.2.2.2.2.1
          go_simp
          clear hc9 hf9
          refine hK.out _ _ ?_ (fun hHelde29 => ?_)
          · (try dsimp only); exact H23.out
          clear hK K hHelde27
          try simp only [Act.put, List.getElem_toArray, List.getElem_cons_zero, List.getElem_cons_succ, List.setIfInBounds_toArray, List.set_cons_zero, List.set_cons_succ]
          refine wpAnyH_done (by kernel_rfl) ?_ _
          go_wp2_with fail
          go_meet
          refine ⟨B7, c7, by rw [← HB4.out]; exact H24.out, World.cell?_setCell_same' _ _ _ (by rw [H22.out.2.2.2.1]; rfl), H22.out.2.1.keep (fun q hq _ _ e2 => (grownBy_set _ _ _ _).block q hq (fun h => e2 (Option.some.inj h)))⟩
        case rest =>
          obtain ⟨B7, c7, hs7, hc7, hro7⟩ := hcut
          obtain ⟨nL, hnL⟩ : ∃ n, es3.length = n := ⟨_, rfl⟩
          obtain ⟨nI, hnI⟩ : ∃ n, es3.length - 1 = n := ⟨_, rfl⟩
          have hlen : 0 < es3.length := by obtain ⟨h, _⟩ := HJ.out; omega
          obtain ⟨ga, hga, hca⟩ := hro7.rd.cell 0 (by rw [HJ2.out.2.2.1]; exact hlen)
          clear hca
          subst hga
          obtain ⟨P9, c9, e9, _, _, hP9, hX9⟩ := id hro7
          obtain ⟨rfl, _, _⟩ := Value.slice.inj e9
          obtain ⟨hP1, hP2⟩ := hP9 ga rfl
          have hnx := (hX9 (by rw [HJ2.out.2.2.1]; exact hlen) ga rfl).2.2
          obtain ⟨g7, go, gs⟩ := ga
          simp only at hP1 hP2 hnx
          subst hP1
          subst hP2
          have hlast : (useL es3 j ef)[nI]'(by rw [HJ2.out.2.2.1]; omega) = ef := by
            unfold useL
            rw [List.getElem_append_right (by obtain ⟨h, _⟩ := HJ.out; rw [List.length_eraseIdx_of_lt h]; omega)]
            simp
          have hrg : wc.rangeAt g7 (nI * 13) (encN ef) := by
            have := rd_range hro7.rd nI (by rw [HJ2.out.2.2.1]; omega)
            rw [hlast] at this
            exact this
          obtain ⟨ed, hed⟩ : ∃ d, ef.d i = d := ⟨_, rfl⟩
          have hcd : wc.cell? ⟨g7, nI * 13 + 1 + i, none⟩ = some (.int .i64 ed) := by
            have h1 := hrg (1 + i) (.int .i64 (ef.d i)) (by have := En.at_d ef i hi4; simpa using this)
            rw [← Nat.add_assoc, hed] at h1
            exact h1
          rw [hnL] at hc7
          have e16 : es3.length ≤ 16 := HJ2.out.2.2.2
          have e1 : (nL : Int) - 1 = (nI : Int) := by omega
          have e2 : (nI : Int) < (nL : Int) := by omega
          have e4 : nL ≤ 101 := by omega
          have e5 : nI ≤ 100 := by omega
          have e6 : 0 < nL := by omega
          have e7 : B4.cs.length = A.cs.length := by rw [← HB4.out]; simp; exact HJ2.out.2.1
          have y5 := hs7.cell.2.2.2.2.2.1
          rw [e7] at y5
          have H21 := Lib.hid (And.intro hs7 (And.intro y5 (And.intro hc7 (And.intro hcd (show g7 ≠ n1 from fun h => hnx (by rw [h]; exact HF.out.x1))))))
          have HED := Lib.hid hed
          clear hs7 y5 hc7 hcd hnx hed hrg hlast hlen hro7 hP9 hX9 hnL hnI e7 e16 e9
          have e8 : IntKind.i64.wrap (nI : Int) = (nI : Int) := wrapI_fit _ (by omega)
          have e9 : wrap64 (nI : Int) = (nI : Int) := wrap64_fit _ (by omega)
          go_upto_region 21 with fail
          refine wp_region_held_drew (S := (fun w' => w'.heap[n0]? = some (.cells (stC c bm bc B4) 81 (0, 0)) ∧ w'.cell? ⟨n0, 5, none⟩ = some (.slice (some ⟨bc, 0, none⟩) A.cs.length A.cs.length) ∧ w'.cell? ⟨bc, k, none⟩ = some (.slice (some ⟨g7, 0, none⟩) nL c7) ∧ w'.cell? ⟨g7, nI * 13 + 1 + i, none⟩ = some (.int .i64 ed))) (by kernel_rfl) ?_ (fun hHeldf => ?_)
          · (try dsimp only); exact ⟨H21.out.1.st, H21.out.2.1, H21.out.2.2.1, H21.out.2.2.2.1⟩
          refine wpAnyH_take (i := 0) (oi := _) (v := ?vf1) rfl (by kernel_rfl) (by kernel_rfl) (by kernel_rfl) (fun _ _ _ h => h) (Or.inl ⟨by rfl, ?hyf1⟩) (by assumption) ?restf1
          case hyf1 => (intro w hSw; (try dsimp only at hSw); (refine exec_load_row 81 (.tmp 3) ?_ n0 ?_ 81 _ (0, 0) _ hSw.1 Try.underlying81 rfl info81s) <;> rfl)
          try simp only [Act.put, List.getElem_toArray, List.getElem_cons_zero, List.getElem_cons_succ, List.setIfInBounds_toArray, List.set_cons_zero, List.set_cons_succ]
          refine wpAnyH_take (i := 1) (oi := _) (v := ?vf2) rfl (by kernel_rfl) (by kernel_rfl) (by kernel_rfl) (fun _ _ _ h => h) (Or.inl ⟨by rfl, ?hyf2⟩) (by assumption) ?restf2
          case hyf2 => (intro w hSw; (try dsimp only at hSw); go_simp; all_goals with_reducible rfl)
          try simp only [Act.put, List.getElem_toArray, List.getElem_cons_zero, List.getElem_cons_succ, List.setIfInBounds_toArray, List.set_cons_zero, List.set_cons_succ]
          refine wpAnyH_take (i := 2) (oi := _) (v := ?vf3) rfl (by kernel_rfl) (by kernel_rfl) (by kernel_rfl) (fun _ _ _ h => h) (Or.inl ⟨by rfl, ?hyf3⟩) (by assumption) ?restf3
          case hyf3 => (intro w hSw; (try dsimp only at hSw); go_simp; all_goals with_reducible rfl)
          try simp only [Act.put, List.getElem_toArray, List.getElem_cons_zero, List.getElem_cons_succ, List.setIfInBounds_toArray, List.set_cons_zero, List.set_cons_succ]
          refine wpAnyH_take (i := 3) (oi := _) (v := ?vf4) rfl (by kernel_rfl) (by kernel_rfl) (by kernel_rfl) (fun _ _ _ h => h) (Or.inl ⟨by rfl, ?hyf4⟩) (by assumption) ?restf4
          case hyf4 => (intro w hSw; (try dsimp only at hSw); go_simp; all_goals with_reducible rfl)
          try simp only [Act.put, List.getElem_toArray, List.getElem_cons_zero, List.getElem_cons_succ, List.setIfInBounds_toArray, List.set_cons_zero, List.set_cons_succ]
          refine wpAnyH_take (i := 4) (oi := _) (v := ?vf5) rfl (by kernel_rfl) (by kernel_rfl) (by kernel_rfl) (fun _ _ _ h => h) (Or.inl ⟨by rfl, ?hyf5⟩) (by assumption) ?restf5
          case hyf5 => (intro w hSw; (try dsimp only at hSw); go_simp; all_goals with_reducible rfl)
          try simp only [Act.put, List.getElem_toArray, List.getElem_cons_zero, List.getElem_cons_succ, List.setIfInBounds_toArray, List.set_cons_zero, List.set_cons_succ]
          refine wpAnyH_take (i := 5) (oi := _) (v := ?vf6) rfl (by kernel_rfl) (by kernel_rfl) (by kernel_rfl) (fun _ _ _ h => h) (Or.inl ⟨by rfl, ?hyf6⟩) (by assumption) ?restf6
          case hyf6 => (intro w hSw; (try dsimp only at hSw); go_simp; all_goals with_reducible rfl)
          try simp only [Act.put, List.getElem_toArray, List.getElem_cons_zero, List.getElem_cons_succ, List.setIfInBounds_toArray, List.set_cons_zero, List.set_cons_succ]
          refine wpAnyH_take (i := 6) (oi := _) (v := ?vf7) rfl (by kernel_rfl) (by kernel_rfl) (by kernel_rfl) (fun _ _ _ h => h) (Or.inl ⟨by rfl, ?hyf7⟩) (by assumption) ?restf7
          case hyf7 => (intro w hSw; (try dsimp only at hSw); go_simp; all_goals with_reducible rfl)
          try simp only [Act.put, List.getElem_toArray, List.getElem_cons_zero, List.getElem_cons_succ, List.setIfInBounds_toArray, List.set_cons_zero, List.set_cons_succ]
          refine wpAnyH_take (i := 7) (oi := _) (v := ?vf8) rfl (by kernel_rfl) (by kernel_rfl) (by kernel_rfl) (fun _ _ _ h => h) (Or.inl ⟨by rfl, ?hyf8⟩) (by assumption) ?restf8
          case hyf8 => (intro w hSw; (try dsimp only at hSw); go_simp; all_goals with_reducible rfl)
          try simp only [Act.put, List.getElem_toArray, List.getElem_cons_zero, List.getElem_cons_succ, List.setIfInBounds_toArray, List.set_cons_zero, List.set_cons_succ]
          refine wpAnyH_take (i := 8) (oi := _) (v := ?vf9) rfl (by kernel_rfl) (by kernel_rfl) (by kernel_rfl) (fun _ _ _ h => h) (Or.inl ⟨by rfl, ?hyf9⟩) (by assumption) ?restf9
          case hyf9 => (intro w hSw; (try dsimp only at hSw); go_simp; all_goals with_reducible rfl)
          try simp only [Act.put, List.getElem_toArray, List.getElem_cons_zero, List.getElem_cons_succ, List.setIfInBounds_toArray, List.set_cons_zero, List.set_cons_succ]
          refine wpAnyH_take (i := 9) (oi := _) (v := ?vf10) rfl (by kernel_rfl) (by kernel_rfl) (by kernel_rfl) (fun _ _ _ h => h) (Or.inl ⟨by rfl, ?hyf10⟩) (by assumption) ?restf10
          case hyf10 => (intro w hSw; (try dsimp only at hSw); go_simp; all_goals with_reducible rfl)
          try simp only [Act.put, List.getElem_toArray, List.getElem_cons_zero, List.getElem_cons_succ, List.setIfInBounds_toArray, List.set_cons_zero, List.set_cons_succ]
          refine wpAnyH_take (i := 10) (oi := _) (v := ?vf11) rfl (by kernel_rfl) (by kernel_rfl) (by kernel_rfl) (fun _ _ _ h => h) (Or.inl ⟨by rfl, ?hyf11⟩) (by assumption) ?restf11
          case hyf11 => (intro w hSw; (try dsimp only at hSw); go_simp; all_goals with_reducible rfl)
          try simp only [Act.put, List.getElem_toArray, List.getElem_cons_zero, List.getElem_cons_succ, List.setIfInBounds_toArray, List.set_cons_zero, List.set_cons_succ]
          refine wpAnyH_take (i := 11) (oi := _) (v := ?vf12) rfl (by kernel_rfl) (by kernel_rfl) (by kernel_rfl) (fun _ _ _ h => h) (Or.inl ⟨by rfl, ?hyf12⟩) (by assumption) ?restf12
          case hyf12 => (intro w hSw; (try dsimp only at hSw); go_simp; all_goals with_reducible rfl)
          try simp only [Act.put, List.getElem_toArray, List.getElem_cons_zero, List.getElem_cons_succ, List.setIfInBounds_toArray, List.set_cons_zero, List.set_cons_succ]
          refine wpAnyH_take (i := 12) (oi := _) (v := ?vf13) rfl (by kernel_rfl) (by kernel_rfl) (by kernel_rfl) (fun _ _ _ h => h) (Or.inl ⟨by rfl, ?hyf13⟩) (by assumption) ?restf13
          case hyf13 => (intro w hSw; (try dsimp only at hSw); go_simp; all_goals with_reducible rfl)
          try simp only [Act.put, List.getElem_toArray, List.getElem_cons_zero, List.getElem_cons_succ, List.setIfInBounds_toArray, List.set_cons_zero, List.set_cons_succ]
          refine wpAnyH_take (i := 13) (oi := _) (v := ?vf14) rfl (by kernel_rfl) (by kernel_rfl) (by kernel_rfl) (fun _ _ _ h => h) (Or.inl ⟨by rfl, ?hyf14⟩) (by assumption) ?restf14
          case hyf14 => (intro w hSw; (try dsimp only at hSw); go_simp; all_goals with_reducible rfl)
          try simp only [Act.put, List.getElem_toArray, List.getElem_cons_zero, List.getElem_cons_succ, List.setIfInBounds_toArray, List.set_cons_zero, List.set_cons_succ]
          refine wpAnyH_take (i := 14) (oi := _) (v := ?vf15) rfl (by kernel_rfl) (by kernel_rfl) (by kernel_rfl) (fun _ _ _ h => h) (Or.inl ⟨by rfl, ?hyf15⟩) (by assumption) ?restf15
          case hyf15 => (intro w hSw; (try dsimp only at hSw); go_simp; all_goals with_reducible rfl)
          try simp only [Act.put, List.getElem_toArray, List.getElem_cons_zero, List.getElem_cons_succ, List.setIfInBounds_toArray, List.set_cons_zero, List.set_cons_succ]
          refine wpAnyH_take (i := 15) (oi := _) (v := ?vf16) rfl (by kernel_rfl) (by kernel_rfl) (by kernel_rfl) (fun _ _ _ h => h) (Or.inl ⟨by rfl, ?hyf16⟩) (by assumption) ?restf16
          case hyf16 => (intro w hSw; (try dsimp only at hSw); go_simp; all_goals with_reducible rfl)
          try simp only [Act.put, List.getElem_toArray, List.getElem_cons_zero, List.getElem_cons_succ, List.setIfInBounds_toArray, List.set_cons_zero, List.set_cons_succ]
          refine wpAnyH_take (i := 16) (oi := _) (v := ?vf17) rfl (by kernel_rfl) (by kernel_rfl) (by kernel_rfl) (fun _ _ _ h => h) (Or.inl ⟨by rfl, ?hyf17⟩) (by assumption) ?restf17
          case hyf17 => (intro w hSw; (try dsimp only at hSw); go_simp; all_goals with_reducible rfl)
          try simp only [Act.put, List.getElem_toArray, List.getElem_cons_zero, List.getElem_cons_succ, List.setIfInBounds_toArray, List.set_cons_zero, List.set_cons_succ]
          refine wpAnyH_take (i := 17) (oi := _) (v := ?vf18) rfl (by kernel_rfl) (by kernel_rfl) (by kernel_rfl) (fun _ _ _ h => h) (Or.inl ⟨by rfl, ?hyf18⟩) (by assumption) ?restf18
          case hyf18 => (intro w hSw; (try dsimp only at hSw); go_simp; all_goals with_reducible rfl)
          try simp only [Act.put, List.getElem_toArray, List.getElem_cons_zero, List.getElem_cons_succ, List.setIfInBounds_toArray, List.set_cons_zero, List.set_cons_succ]
          refine wpAnyH_ready (rs := [18]) (by kernel_rfl) (by simp) ?_
          refine AllReadyH.cons (o := _) rfl (fun K hK => ?_) AllReadyH.nil
          refine wp_store_row 81 (.tmp 6) (.tmp 152) rfl n1 (stC c bm bc B4) rfl rfl 81 stZ H21.out.1.zr info81s rfl (stC_one _ _ _ _) ?_
          refine hK.out _ _ ?_ (fun hHeldf19 => ?_)
          · (try dsimp only); exact ⟨by rw [setRow_other _ _ _ _ (by have := HF.out.o1; omega)]; exact H21.out.1.st, by rw [cell_setRow_other _ _ _ _ (by have := HF.out.o1; simp; omega)]; exact H21.out.2.1, by rw [cell_setRow_other _ _ _ _ (by have := HF.out.o1; have := HF.out.o4; simp; omega)]; exact H21.out.2.2.1, by rw [cell_setRow_other _ _ _ _ H21.out.2.2.2.2]; exact H21.out.2.2.2.1⟩
          clear hK K hHeldf
          try simp only [Act.put, List.getElem_toArray, List.getElem_cons_zero, List.getElem_cons_succ, List.setIfInBounds_toArray, List.set_cons_zero, List.set_cons_succ]
          refine wpAnyH_take (i := 19) (oi := _) (v := ?vf20) rfl (by kernel_rfl) (by kernel_rfl) (by kernel_rfl) (fun _ _ _ h => h) (Or.inl ⟨by rfl, ?hyf20⟩) (by assumption) ?restf20
          case hyf20 => (intro w hSw; (try dsimp only at hSw); go_simp; all_goals with_reducible rfl)
          try simp only [Act.put, List.getElem_toArray, List.getElem_cons_zero, List.getElem_cons_succ, List.setIfInBounds_toArray, List.set_cons_zero, List.set_cons_succ]
          refine wpAnyH_done (by kernel_rfl) ?_ _
          clear e8 e9
          have HD := Lib.hid (H21.out.1.drew.done HF.out HX.out.2.1)
          go_wp2_with fail
          refine bodyPost_ret (v := .tuple #[.agg (stC c bm bc B4), .int .i64 ed]) (res35 _ _ n1 _ _ _ _ _ _ _ _ _ _ rfl rfl HD.out.1) rfl ?_
          unfold GtR
          rw [HW.out.2.1]
          have e1 : getA c A k p = { B4 with vs := A.vs ++ [ed] } := by
            obtain ⟨h, h1, _⟩ := HJ.out
            unfold getA
            rw [HL.out.2.1, HL.out.2.2.1, if_neg HNK.out, if_neg (by rw [HNH.out]; simp), HJ2.out.1]
            rw [touch_eq H20.out.2.1 H20.out.2.2.1 (List.getElem?_eq_some_iff.2 ⟨h, h1⟩) H9.out.2.2.1, ← HB4.out, HED.out]
            have hv : B3.vs = A.vs := by rw [← HJ2.out.1, ahead_vs, fill_vs]
            rw [hv]
          rw [e1]
          exact ⟨ed, rfl, HD.out.2.1.same rfl rfl, rfl, HD.out.2.2⟩
end Go.Proofs.Ytggidakiflnhhaa
