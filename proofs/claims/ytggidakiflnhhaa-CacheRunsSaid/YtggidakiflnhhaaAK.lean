import Derived.Test.YtggidakiflnhhaaAJ
namespace Go.Proofs.Ytggidakiflnhhaa
open Go.RowKit
set_option maxHeartbeats 16000000
set_option maxRecDepth 100000
set_option linter.unusedSimpArgs false
set_option linter.unusedVariables false

theorem wrapI_fit (n : Int) (h : -9223372036854775808 ≤ n ∧ n ≤ 9223372036854775807) : IntKind.i64.wrap n = n := by rw [IntKind.wrap_i64]; omega
theorem stC_one (c : Cf) (bm bc : Nat) (A : AS) : ((stC c bm bc A).all fun x => x.oneCell') = true := by simp [stC, Value.oneCell']
theorem enC_one (e : En) : (e.cells.all fun x => x.oneCell') = true := by simp [En.cells, Value.oneCell']
theorem res54 (tmps : Array Value) (Y : World) (b4 b5 : Nat) (v0 v1 v2 v3 v4 v5 v6 v7 v8 u0 u1 u2 u3 u4 u5 u6 u7 u8 u9 u10 u11 u12 : Value) (h4 : tmps[4]?.getD undef = .pointer (some ⟨b4, 0, none⟩)) (h5 : tmps[5]?.getD undef = .pointer (some ⟨b5, 0, none⟩))
    (x4 : Y.heap[b4]? = some (.cells #[v0, v1, v2, v3, v4, v5, v6, v7, v8] 81 (0, 0))) (x5 : Y.heap[b5]? = some (.cells #[u0, u1, u2, u3, u4, u5, u6, u7, u8, u9, u10, u11, u12] 107 (0, 0))) :
    (results Try.f54 tmps).run Try.prog Y = .ok (.tuple #[.agg #[v0, v1, v2, v3, v4, v5, v6, v7, v8], .agg #[u0, u1, u2, u3, u4, u5, u6, u7, u8, u9, u10, u11, u12]]) Y := by
  obtain ⟨z0, z1, z2, z3, z4, z5, z6, z7, z8⟩ := st9 x4
  obtain ⟨y0, y1, y2, y3, y4, y5, y6, y7, y8, y9, y10, y11, y12⟩ := st13 x5
  simp [results, Try.results54, go_sem, h4, h5, z0, z1, z2, z3, z4, z5, z6, z7, z8, y0, y1, y2, y3, y4, y5, y6, y7, y8, y9, y10, y11, y12]
def WrPost (c : Cf) (bm bc : Nat) (X : Nat → Prop) (A : AS) (e : En) (w : World) (y : Ending) (w' : World) : Prop := y = .returned (.tuple #[.agg (stC c bm bc (wb A e)), .agg (clE e).cells]) ∧ RS c bm bc X (wb A e) w' ∧ Kq bm bc w.heap.size w w'
theorem stC_eq {c : Cf} {bm bc : Nat} {A B : AS} (h1 : A.m.length = B.m.length) (h2 : A.cs.length = B.cs.length) (h3 : A.f = B.f) (h4 : A.wr = B.wr) (h5 : A.h = B.h) : stC c bm bc A = stC c bm bc B := by
  unfold stC; rw [h1, h2, h3, h4, h5]
theorem written_calls {c : Cf} {bm bc : Nat} {X : Nat → Prop} {A : AS} {w : World} (h : RS c bm bc X A w) (e : En) (hl : e.l * 4 + 4 ≤ A.m.length) (hm : A.m.length ≤ 256) (hw : A.wr < 1000000000) :
    Calls Try.prog 54 #[.agg (stC c bm bc A), .agg e.cells] w (WrPost c bm bc X A e w) := by
  obtain ⟨W1, hW1, hb1, hz1, x0, x1, x2, x3⟩ := box4 w (.cells (stC c bm bc A) 81) (.cells e.cells 107) (.cells stZ 81) (.cells enZ 107)
  obtain ⟨n0, hn0⟩ : ∃ n, w.heap.size = n := ⟨_, rfl⟩
  obtain ⟨n1, hn1⟩ : ∃ n, n0 + 1 = n := ⟨_, rfl⟩
  obtain ⟨n2, hn2⟩ : ∃ n, n1 + 1 = n := ⟨_, rfl⟩
  obtain ⟨n3, hn3⟩ : ∃ n, n2 + 1 = n := ⟨_, rfl⟩
  have hlt := h.lts
  rw [hn0] at hb1 hz1 x0 x1 x2 x3 hlt
  rw [show n0 + 1 = n1 by omega] at x1
  rw [show n0 + 2 = n2 by omega] at x2
  rw [show n0 + 3 = n3 by omega] at x3
  have hord : n0 < n1 ∧ n1 < n2 ∧ n2 < n3 ∧ n3 < n0 + 4 ∧ bm < n0 ∧ bc < n0 := by omega
  have hbx : ∀ u, Kq bm bc (n0 + 4) W1 u → (u.heap[n0]? = some (.cells (stC c bm bc A) 81 (0, 0)) ∧ u.heap[n1]? = some (.cells e.cells 107 (0, 0))) ∧ u.heap[n2]? = some (.cells stZ 81 (0, 0)) ∧ u.heap[n3]? = some (.cells enZ 107 (0, 0)) ∧ n0 + 4 ≤ u.heap.size := fun u hu =>
    ⟨⟨(hu.block _ (by omega) (by omega) (by omega)).trans x0, (hu.block _ (by omega) (by omega) (by omega)).trans x1⟩, (hu.block _ (by omega) (by omega) (by omega)).trans x2, (hu.block _ (by omega) (by omega) (by omega)).trans x3, by have := hu.size; omega⟩
  have hcl : ∀ u, Kq bm bc n2 W1 u → u.heap[n0]? = some (.cells (stC c bm bc A) 81 (0, 0)) ∧ u.heap[n1]? = some (.cells e.cells 107 (0, 0)) := fun u hu =>
    ⟨(hu.block _ (by omega) (by omega) (by omega)).trans x0, (hu.block _ (by omega) (by omega) (by omega)).trans x1⟩
  obtain ⟨X1, hX1⟩ : ∃ X1 : Nat → Prop, X1 = fun k => X k ∨ n0 ≤ k := ⟨_, rfl⟩
  have hX2 : (∀ k, n0 ≤ k → X1 k) ∧ ∀ k, X k → X1 k := by subst hX1; exact ⟨fun k hk => Or.inr hk, fun k hk => Or.inl hk⟩
  have hr1 : RS c bm bc X1 A W1 := by subst hX1; exact (h.ext (fun k hk => by rw [hn0]; exact hk)).rest (by rw [hn0]; exact hb1)
  have hk1 : Kq bm bc n0 w W1 := Kq.of hb1
  obtain ⟨y0, y1, y2, y3, y4, y5, y6, y7, y8, y9, y10, y11, y12⟩ := st13 x1
  have HW := Lib.hid (And.intro hW1 (And.intro hn0 (And.intro hn1 (And.intro hn2 hn3))))
  have HX := Lib.hid (And.intro hbx (And.intro hcl (And.intro hr1 (And.intro hk1 (And.intro hz1 hX2)))))
  have HC := Lib.hid (some_calls e.t W1)
  have HM := Lib.hid (And.intro hl (And.intro hm (And.intro hw hord)))
  clear hW1 hn0 hn1 hn2 hn3 hbx hcl hr1 hb1 hk1 hz1 hX1 hX2 x0 x1 x2 x3 h hlt hord y0 y1 y2 y3 y4 y5 y6 y7 y8 hl hm hw
  go_enter Try.func54, Try.ntmps54
  go_upto_region 1 with fail
  rw [HW.out.1]
  rw [HW.out.2.1, HW.out.2.2.1, HW.out.2.2.2.1, HW.out.2.2.2.2]
  by_cases hd : anyT e.t = true
  rotate_left
  · rw [show anyT e.t = false by simpa using hd] at HC
    have HD := Lib.hid hd
    clear hd
    go_upto_region 2 with ((with_reducible refine (HC.out).mono ?_); rintro y w5 ⟨rfl, hb5⟩)
    clear y9 y10 y11 y12
    have hz := HX.out.2.2.2.2.1
    have h5 : RS c bm bc X1 A w5 := HX.out.2.2.1.rest hb5
    have hk5 : Kq bm bc (n0 + 4) W1 w5 := Kq.of (hb5.mono (by omega))
    have hs5 := hb5.size
    have H5 := Lib.hid (And.intro h5 (And.intro hk5 (show n0 + 4 ≤ w5.heap.size by omega)))
    clear hz h5 hk5 hb5 hs5
    refine wp_region_held_drew (S := (fun w' => w'.heap[n0]? = some (.cells (stC c bm bc A) 81 (0, 0)) ∧ w'.heap[n1]? = some (.cells (e.cells) 107 (0, 0)))) (by kernel_rfl) ?_ (fun hHelda => ?_)
    · (try dsimp only); exact HX.out.2.1 _ ((H5.out.2.1.drew).mono (by have := HM.out; omega))
    refine wpAnyH_take (i := 0) (oi := _) (v := ?va1) rfl (by kernel_rfl) (by kernel_rfl) (by kernel_rfl) (fun _ _ _ h => h) (Or.inl ⟨by rfl, ?hya1⟩) (by assumption) ?resta1
    case hya1 => (intro w hSw; (try dsimp only at hSw); (refine exec_load_row 81 (.tmp 2) ?_ n0 ?_ 81 _ (0, 0) _ hSw.1 Try.underlying81 rfl info81s) <;> rfl)
    try simp only [Act.put, List.getElem_toArray, List.getElem_cons_zero, List.getElem_cons_succ, List.setIfInBounds_toArray, List.set_cons_zero, List.set_cons_succ]
    refine wpAnyH_take (i := 1) (oi := _) (v := ?va2) rfl (by kernel_rfl) (by kernel_rfl) (by kernel_rfl) (fun _ _ _ h => h) (Or.inl ⟨by rfl, ?hya2⟩) (by assumption) ?resta2
    case hya2 => (intro w hSw; (try dsimp only at hSw); (refine exec_load_row 107 (.tmp 3) ?_ n1 ?_ 107 _ (0, 0) _ hSw.2 Try.underlying107 rfl info107s) <;> rfl)
    try simp only [Act.put, List.getElem_toArray, List.getElem_cons_zero, List.getElem_cons_succ, List.setIfInBounds_toArray, List.set_cons_zero, List.set_cons_succ]
    refine wpAnyH_ready (rs := [2]) (by kernel_rfl) (by simp) ?_
    refine AllReadyH.cons (o := _) rfl (fun K hK => ?_) AllReadyH.nil
    refine wp_store_row 81 (.tmp 4) (.tmp 11) rfl n2 (stC c bm bc A) rfl rfl 81 stZ (HX.out.1 w5 H5.out.2.1).2.1 info81s rfl (stC_one _ _ _ _) ?_
    refine hK.out _ _ ?_ (fun hHelda3 => ?_)
    · (try dsimp only); exact ⟨by rw [setRow_other _ _ _ _ (by have := HM.out; omega)]; exact (HX.out.2.1 _ ((H5.out.2.1.drew).mono (by have := HM.out; omega))).1, by rw [setRow_other _ _ _ _ (by have := HM.out; omega)]; exact (HX.out.2.1 _ ((H5.out.2.1.drew).mono (by have := HM.out; omega))).2⟩
    clear hK K hHelda
    try simp only [Act.put, List.getElem_toArray, List.getElem_cons_zero, List.getElem_cons_succ, List.setIfInBounds_toArray, List.set_cons_zero, List.set_cons_succ]
    refine wpAnyH_ready (rs := [3]) (by kernel_rfl) (by simp) ?_
    refine AllReadyH.cons (o := _) rfl (fun K hK => ?_) AllReadyH.nil
    refine wp_store_row 107 (.tmp 5) (.tmp 12) rfl n3 (e.cells) rfl rfl 107 enZ (by rw [setRow_other _ _ _ _ (by have := HM.out; omega)]; exact (HX.out.1 w5 H5.out.2.1).2.2.1) info107s rfl (enC_one _) ?_
    refine hK.out _ _ ?_ (fun hHelda4 => ?_)
    · (try dsimp only); exact ⟨by rw [setRow_other _ _ _ _ (by have := HM.out; omega), setRow_other _ _ _ _ (by have := HM.out; omega)]; exact (HX.out.2.1 _ ((H5.out.2.1.drew).mono (by have := HM.out; omega))).1, by rw [setRow_other _ _ _ _ (by have := HM.out; omega), setRow_other _ _ _ _ (by have := HM.out; omega)]; exact (HX.out.2.1 _ ((H5.out.2.1.drew).mono (by have := HM.out; omega))).2⟩
    clear hK K hHelda3
    try simp only [Act.put, List.getElem_toArray, List.getElem_cons_zero, List.getElem_cons_succ, List.setIfInBounds_toArray, List.set_cons_zero, List.set_cons_succ]
    refine wpAnyH_done (by kernel_rfl) ?_ _
    go_wp2_with fail
    have b2 := (HX.out.1 w5 H5.out.2.1).2.1
    have b3 := (HX.out.1 w5 H5.out.2.1).2.2.1
    have q2 := setRow_heap w5.drew n2 stZ (stC c bm bc A) 81 (0, 0) b2
    have q3 := setRow_heap (w5.drew.setRow n2 (stC c bm bc A)) n3 enZ e.cells 107 (0, 0) (by rw [setRow_other _ _ _ _ (by have := HM.out; omega)]; exact b3)
    refine bodyPost_ret (v := .tuple #[.agg (stC c bm bc A), .agg e.cells]) (res54 _ _ n2 n3 _ _ _ _ _ _ _ _ _ _ _ _ _ _ _ _ _ _ _ _ _ _ rfl rfl (by rw [setRow_other _ _ _ _ (by have := HM.out; omega)]; exact q2) q3) rfl ?_
    unfold WrPost
    have e1 : wb A e = A := by unfold wb; rw [if_neg HD.out]
    have e2 : clE e = e := by unfold clE; rw [if_neg HD.out]
    rw [e1, e2, HW.out.2.1]
    have hx := HX.out.2.2.2.2.2
    have l1 : bm < n0 := HM.out.2.2.2.2.2.2.2.1
    have l2 : bc < n0 := HM.out.2.2.2.2.2.2.2.2
    refine ⟨rfl, (((H5.out.1.rest (bb_drew (Below.refl _ _))).far hx.1 l1 l2 (grownBy_setRow _ _ _) (by have := HM.out; omega)).far hx.1 l1 l2 (grownBy_setRow _ _ _) (by have := HM.out; omega)).weak hx.2, ?_⟩
    exact HX.out.2.2.2.1.trans ((((H5.out.2.1.mono (by omega)).drew).row _ (by have := H5.out.2.2; simp; omega) (by have := HM.out; omega)).row _ (by have := H5.out.2.2; simp; omega) (by have := HM.out; omega))
  · have HD := Lib.hid hd
    rw [hd] at HC
    clear hd
    go_upto_region 3 with ((with_reducible refine (HC.out).mono ?_); rintro y w5 ⟨rfl, hb5⟩)
    clear y9 y10 y11 y12
    have hz := HX.out.2.2.2.2.1
    have h5 : RS c bm bc X1 A w5 := HX.out.2.2.1.rest hb5
    have hk5 : Kq bm bc (n0 + 4) W1 w5 := Kq.of (hb5.mono (by omega))
    have hs5 := hb5.size
    have H5 := Lib.hid (And.intro h5 (And.intro hk5 (show n0 + 4 ≤ w5.heap.size by omega)))
    clear hz h5 hk5 hb5 hs5
    go_wp2_with fail
    go_loopg [6, 13, 14, 15, 16, 17, 18, 19, 20, 21, 22, 23, 24, 25, 26, 27, 28, 29, 30, 31, 32] 4 (fun gk v6 v13 v14 v15 v16 v17 v18 v19 v20 v21 v22 v23 v24 v25 v26 v27 v28 v29 v30 v31 v32 wr => ∃ i : Nat, i + gk = 4 ∧ v6 = .int .i64 (i : Int) ∧ RS c bm bc X1 { A with m := (List.range i).foldl (wrS e) A.m } wr ∧ Kq bm bc (n0 + 4) W1 wr)
    case atStart => exact ⟨0, by omega, rfl, H5.out.1, H5.out.2.1⟩
    case round =>
      obtain ⟨i, hi, rfl, hrs, hkq⟩ := hrel
      obtain ⟨M, hM⟩ : ∃ M, (List.range i).foldl (wrS e) A.m = M := ⟨_, rfl⟩
      have hMl : M.length = A.m.length := by rw [← hM]; exact fold_wrS_len e A.m _
      have hMs : (List.range (i + 1)).foldl (wrS e) A.m = wrS e M i := by rw [range_succ_foldl, hM]
      rw [hM] at hrs
      have HR := Lib.hid (And.intro hrs (And.intro hkq (And.intro hMl (And.intro hMs hM))))
      clear hrs hkq hMl hMs hM
      by_cases hlt : i < 4
      · have hlt' : (i : Int) < 4 := by omega
        have hy9 : wr.cell? ⟨n1, 9 + i, none⟩ = some (.bool (e.t i)) := by rw [cell_of_row _ _ _ _ _ _ (HX.out.1 wr HR.out.2.1).1.2]; exact En.at_t e i hlt
        obtain ⟨ti, hti⟩ : ∃ b, e.t i = b := ⟨_, rfl⟩
        rw [hti] at hy9
        have HT := Lib.hid hti
        clear hti
        cases ti with
        | true =>
          have hq1 : e.l * 4 + i < A.m.length := by have := HM.out.1; omega
          have hq2 := HR.out.2.2.1
          have hwm := HR.out.1.word (e.l * 4 + i) (by show e.l * 4 + i < M.length; omega)
          have hq3 := HM.out.2.1
          obtain ⟨q, hq⟩ : ∃ q, e.l * 4 + i = q := ⟨_, rfl⟩
          obtain ⟨ed, hed⟩ : ∃ d, e.d i = d := ⟨_, rfl⟩
          have w5' : (q : Int) < (A.m.length : Int) := by omega
          have w6 : q < A.m.length := by omega
          have v1 : (e.l : Int) * 4 + (i : Int) = (q : Int) := by omega
          have v2 : -9223372036854775808 ≤ (e.l : Int) * 4 ∧ (e.l : Int) * 4 ≤ 9223372036854775807 := by omega
          have v3 : -9223372036854775808 ≤ (q : Int) ∧ (q : Int) ≤ 9223372036854775807 := by omega
          have w4 : wrap64 ((e.l : Int) * 4 + (i : Int)) = (q : Int) := by rw [v1]; exact wrap64_fit _ v3
          have w3 : IntKind.i64.wrap ((e.l : Int) * 4 + (i : Int)) = (q : Int) := by rw [v1]; exact wrapI_fit _ v3
          have w2 : wrap64 ((e.l : Int) * 4) = (e.l : Int) * 4 := wrap64_fit _ v2
          have w1 : IntKind.i64.wrap ((e.l : Int) * 4) = (e.l : Int) * 4 := wrapI_fit _ v2
          clear v1 v2 v3
          rw [hq] at hwm
          obtain ⟨hw7, hw8⟩ := hwm
          have HQ := Lib.hid (And.intro hq hed)
          clear hq hed hq1 hq2 hq3
          go_upto_region 7 with fail
          clear hy9
          have s7 : ∀ u, Kq bm bc (n0 + 4) W1 u → u.cell? ⟨n0, 4, none⟩ = some (.slice (some ⟨bm, 0, none⟩) A.m.length A.m.length) ∧ u.cell? ⟨n1, 0, none⟩ = some (.int .i64 (e.l : Int)) ∧ u.cell? ⟨n1, 1 + i, none⟩ = some (.int .i64 ed) := fun u hu => ⟨(st9 (HX.out.1 u hu).1.1).2.2.2.2.1, (st13 (HX.out.1 u hu).1.2).1, by rw [cell_of_row _ _ _ _ _ _ (HX.out.1 u hu).1.2, ← HQ.out.2]; exact En.at_d e i hlt⟩
          refine wp_region_held_drew (S := (fun w' => w'.cell? ⟨n0, 4, none⟩ = some (.slice (some ⟨bm, 0, none⟩) A.m.length A.m.length) ∧ w'.cell? ⟨n1, 0, none⟩ = some (.int .i64 (e.l : Int)) ∧ w'.cell? ⟨n1, 1 + i, none⟩ = some (.int .i64 ed))) (by kernel_rfl) ?_ (fun hHeldb => ?_)
          · (try dsimp only); exact s7 _ (HR.out.2.1.drew)
          refine wpAnyH_take (i := 0) (oi := _) (v := ?vb1) rfl (by kernel_rfl) (by kernel_rfl) (by kernel_rfl) (fun _ _ _ h => h) (Or.inl ⟨by rfl, ?hyb1⟩) (by assumption) ?restb1
          case hyb1 => (intro w hSw; (try dsimp only at hSw); go_simp; all_goals with_reducible rfl)
          try simp only [Act.put, List.getElem_toArray, List.getElem_cons_zero, List.getElem_cons_succ, List.setIfInBounds_toArray, List.set_cons_zero, List.set_cons_succ]
          refine wpAnyH_take (i := 1) (oi := _) (v := ?vb2) rfl (by kernel_rfl) (by kernel_rfl) (by kernel_rfl) (fun _ _ _ h => h) (Or.inl ⟨by rfl, ?hyb2⟩) (by assumption) ?restb2
          case hyb2 => (intro w hSw; (try dsimp only at hSw); go_simp; all_goals with_reducible rfl)
          try simp only [Act.put, List.getElem_toArray, List.getElem_cons_zero, List.getElem_cons_succ, List.setIfInBounds_toArray, List.set_cons_zero, List.set_cons_succ]
          refine wpAnyH_take (i := 2) (oi := _) (v := ?vb3) rfl (by kernel_rfl) (by kernel_rfl) (by kernel_rfl) (fun _ _ _ h => h) (Or.inl ⟨by rfl, ?hyb3⟩) (by assumption) ?restb3
          case hyb3 => (intro w hSw; (try dsimp only at hSw); go_simp; all_goals with_reducible rfl)
          try simp only [Act.put, List.getElem_toArray, List.getElem_cons_zero, List.getElem_cons_succ, List.setIfInBounds_toArray, List.set_cons_zero, List.set_cons_succ]
          refine wpAnyH_take (i := 3) (oi := _) (v := ?vb4) rfl (by kernel_rfl) (by kernel_rfl) (by kernel_rfl) (fun _ _ _ h => h) (Or.inl ⟨by rfl, ?hyb4⟩) (by assumption) ?restb4
          case hyb4 => (intro w hSw; (try dsimp only at hSw); go_simp; all_goals with_reducible rfl)
          try simp only [Act.put, List.getElem_toArray, List.getElem_cons_zero, List.getElem_cons_succ, List.setIfInBounds_toArray, List.set_cons_zero, List.set_cons_succ]
          refine wpAnyH_take (i := 4) (oi := _) (v := ?vb5) rfl (by kernel_rfl) (by kernel_rfl) (by kernel_rfl) (fun _ _ _ h => h) (Or.inl ⟨by rfl, ?hyb5⟩) (by assumption) ?restb5
          case hyb5 => (intro w hSw; (try dsimp only at hSw); go_simp; all_goals with_reducible rfl)
          try simp only [Act.put, List.getElem_toArray, List.getElem_cons_zero, List.getElem_cons_succ, List.setIfInBounds_toArray, List.set_cons_zero, List.set_cons_succ]
          refine wpAnyH_take (i := 5) (oi := _) (v := ?vb6) rfl (by kernel_rfl) (by kernel_rfl) (by kernel_rfl) (fun _ _ _ h => h) (Or.inl ⟨by rfl, ?hyb6⟩) (by assumption) ?restb6
          case hyb6 => (intro w hSw; (try dsimp only at hSw); go_simp; all_goals with_reducible rfl)
          try simp only [Act.put, List.getElem_toArray, List.getElem_cons_zero, List.getElem_cons_succ, List.setIfInBounds_toArray, List.set_cons_zero, List.set_cons_succ]
          refine wpAnyH_take (i := 6) (oi := _) (v := ?vb7) rfl (by kernel_rfl) (by kernel_rfl) (by kernel_rfl) (fun _ _ _ h => h) (Or.inl ⟨by rfl, ?hyb7⟩) (by assumption) ?restb7
          case hyb7 => (intro w hSw; (try dsimp only at hSw); go_simp; all_goals with_reducible rfl)
          try simp only [Act.put, List.getElem_toArray, List.getElem_cons_zero, List.getElem_cons_succ, List.setIfInBounds_toArray, List.set_cons_zero, List.set_cons_succ]
          refine wpAnyH_take (i := 7) (oi := _) (v := ?vb8) rfl (by kernel_rfl) (by kernel_rfl) (by kernel_rfl) (fun _ _ _ h => h) (Or.inl ⟨by rfl, ?hyb8⟩) (by assumption) ?restb8
          case hyb8 => (intro w hSw; (try dsimp only at hSw); go_simp; all_goals with_reducible rfl)
          try simp only [Act.put, List.getElem_toArray, List.getElem_cons_zero, List.getElem_cons_succ, List.setIfInBounds_toArray, List.set_cons_zero, List.set_cons_succ]
          refine wpAnyH_take (i := 8) (oi := _) (v := ?vb9) rfl (by kernel_rfl) (by kernel_rfl) (by kernel_rfl) (fun _ _ _ h => h) (Or.inl ⟨by rfl, ?hyb9⟩) (by assumption) ?restb9
          case hyb9 => (intro w hSw; (try dsimp only at hSw); go_simp; all_goals with_reducible rfl)
          try simp only [Act.put, List.getElem_toArray, List.getElem_cons_zero, List.getElem_cons_succ, List.setIfInBounds_toArray, List.set_cons_zero, List.set_cons_succ]
          refine wpAnyH_take (i := 9) (oi := _) (v := ?vb10) rfl (by kernel_rfl) (by kernel_rfl) (by kernel_rfl) (fun _ _ _ h => h) (Or.inl ⟨by rfl, ?hyb10⟩) (by assumption) ?restb10
          case hyb10 => (intro w hSw; (try dsimp only at hSw); go_simp; all_goals with_reducible rfl)
          try simp only [Act.put, List.getElem_toArray, List.getElem_cons_zero, List.getElem_cons_succ, List.setIfInBounds_toArray, List.set_cons_zero, List.set_cons_succ]
          refine wpAnyH_take (i := 10) (oi := _) (v := ?vb11) rfl (by kernel_rfl) (by kernel_rfl) (by kernel_rfl) (fun _ _ _ h => h) (Or.inl ⟨by rfl, ?hyb11⟩) (by assumption) ?restb11
          case hyb11 => (intro w hSw; (try dsimp only at hSw); go_simp; all_goals with_reducible rfl)
          try simp only [Act.put, List.getElem_toArray, List.getElem_cons_zero, List.getElem_cons_succ, List.setIfInBounds_toArray, List.set_cons_zero, List.set_cons_succ]
          refine wpAnyH_take (i := 11) (oi := _) (v := ?vb12) rfl (by kernel_rfl) (by kernel_rfl) (by kernel_rfl) (fun _ _ _ h => h) (Or.inl ⟨by rfl, ?hyb12⟩) (by assumption) ?restb12
          case hyb12 => (intro w hSw; (try dsimp only at hSw); go_simp; all_goals with_reducible rfl)
          try simp only [Act.put, List.getElem_toArray, List.getElem_cons_zero, List.getElem_cons_succ, List.setIfInBounds_toArray, List.set_cons_zero, List.set_cons_succ]
          refine wpAnyH_ready (rs := [12]) (by kernel_rfl) (by simp) ?_
          refine AllReadyH.cons (o := _) rfl (fun K hK => ?_) AllReadyH.nil
          go_simp
          refine hK.out _ _ ?_ (fun hHeldb13 => ?_)
          · (try dsimp only); exact s7 _ (HR.out.2.1.drew.set _ _ _ (by have := HR.out.2.1.size; have := HX.out.2.2.2.2.1; simp; omega) (by omega))
          clear hK K hHeldb
          try simp only [Act.put, List.getElem_toArray, List.getElem_cons_zero, List.getElem_cons_succ, List.setIfInBounds_toArray, List.set_cons_zero, List.set_cons_succ]
          refine wpAnyH_done (by kernel_rfl) ?_ _
          go_wp2_with fail
          go_roundg (gk - 1)
          case measure => omega
          case rel =>
            refine ⟨i + 1, by omega, by go_num, ?_, HR.out.2.1.drew.set _ _ _ (by have := HR.out.2.1.size; have := HX.out.2.2.2.2.1; simp; omega) (by omega)⟩
            rw [HR.out.2.2.2.1]
            unfold wrS
            rw [HT.out, if_pos rfl, HQ.out.1, HQ.out.2]
            exact RS.setMem (A := { A with m := M }) (HR.out.1.rest (bb_drew (Below.refl _ _))) q ed
        | false =>
          go_wp2_with fail
          go_roundg (gk - 1)
          case measure => omega
          case rel =>
            refine ⟨i + 1, by omega, by go_num, ?_, HR.out.2.1⟩
            rw [HR.out.2.2.2.1]
            unfold wrS
            rw [HT.out, if_neg (by simp)]
            exact HR.out.1
      · have hlt' : ¬ (i : Int) < 4 := by omega
        obtain rfl : i = 4 := by omega
        have hbx := HX.out.1 wr HR.out.2.1
        have hM4 : M = wrM A.m e := HR.out.2.2.2.2.symm
        have HN := Lib.hid (And.intro hbx hM4)
        have hc7 : wr.cell? ⟨n0, 7, none⟩ = some (.int .i64 (A.wr : Int)) := (st9 hbx.1.1).2.2.2.2.2.2.2.1
        have hf7 : wr.frozen? ⟨n0, 7, none⟩ = false := frz hbx.1.1 7
        obtain ⟨b0, b1, b2, b3, b4, b5, b6, b7, b8, b9, b10, b11, b12⟩ := st13 hbx.1.2
        have f9 := frz hbx.1.2 9
        have f10 := frz hbx.1.2 10
        have f11 := frz hbx.1.2 11
        have f12 := frz hbx.1.2 12
        have hwr := HM.out.2.2.1
        have hne : ¬ n0 = n1 := by have := HM.out; omega
        have hne' : ¬ n1 = n0 := fun e => hne e.symm
        have hwr2 : (A.wr : Int) + 1 ≤ 9223372036854775807 := by omega
        clear hbx hM4 b0 b1 b2 b3 b4 b5 b6 b7 b8
        go_upto_region 10 with fail
        clear hc7 hf7 b9 b10 b11 b12 f9 f10 f11 f12 hwr hwr2
        obtain ⟨Z, hZ⟩ : ∃ Z, ((((wr.setCell ⟨n1, 9, none⟩ (.bool false)).setCell ⟨n1, 10, none⟩ (.bool false)).setCell ⟨n1, 11, none⟩ (.bool false)).setCell ⟨n1, 12, none⟩ (.bool false)).setCell ⟨n0, 7, none⟩ (.int .i64 ((A.wr : Int) + 1)) = Z := ⟨_, rfl⟩
        rw [hZ]
        have hgz : Kq bm bc n0 wr Z := by
          have hs : n0 + 4 ≤ wr.heap.size := HN.out.1.2.2.2
          rw [← hZ]
          exact (((((Kq.refl wr).set _ _ _ (by omega) (by have := HM.out; omega)).set _ _ _ (by simp; omega) (by have := HM.out; omega)).set _ _ _ (by simp; omega) (by have := HM.out; omega)).set _ _ _ (by simp; omega) (by have := HM.out; omega)).set _ _ _ (by simp; omega) (by omega)
        have hz0 : Z.heap[n0]? = some (.cells (stC c bm bc (wb A e)) 81 (0, 0)) := by
          rw [← hZ, heap_setCell_same _ n0 7 _ 81 _ (by rw [heap_setCell_other _ ⟨n1, 12, none⟩ n0 _ hne, heap_setCell_other _ ⟨n1, 11, none⟩ n0 _ hne, heap_setCell_other _ ⟨n1, 10, none⟩ n0 _ hne, heap_setCell_other _ ⟨n1, 9, none⟩ n0 _ hne]; exact HN.out.1.1.1)]
          unfold wb
          rw [if_pos HD.out]
          simp [wrM_len]
        have hz1 : Z.heap[n1]? = some (.cells (clE e).cells 107 (0, 0)) := by
          rw [← hZ, heap_setCell_other _ ⟨n0, 7, none⟩ n1 _ hne', heap_setCell_same _ n1 12 _ 107 _ (heap_setCell_same _ n1 11 _ 107 _ (heap_setCell_same _ n1 10 _ 107 _ (heap_setCell_same _ n1 9 _ 107 _ HN.out.1.1.2)))]
          unfold clE
          rw [if_pos HD.out]
          simp
        have hz2 : Z.heap[n2]? = some (.cells stZ 81 (0, 0)) := by
          rw [← hZ, heap_setCell_other _ ⟨n0, 7, none⟩ n2 _ (show n2 ≠ n0 by have := HM.out; omega), heap_setCell_other _ ⟨n1, 12, none⟩ n2 _ (show n2 ≠ n1 by have := HM.out; omega), heap_setCell_other _ ⟨n1, 11, none⟩ n2 _ (show n2 ≠ n1 by have := HM.out; omega), heap_setCell_other _ ⟨n1, 10, none⟩ n2 _ (show n2 ≠ n1 by have := HM.out; omega), heap_setCell_other _ ⟨n1, 9, none⟩ n2 _ (show n2 ≠ n1 by have := HM.out; omega)]
          exact HN.out.1.2.1
        have hz3 : Z.heap[n3]? = some (.cells enZ 107 (0, 0)) := by
          rw [← hZ, heap_setCell_other _ ⟨n0, 7, none⟩ n3 _ (show n3 ≠ n0 by have := HM.out; omega), heap_setCell_other _ ⟨n1, 12, none⟩ n3 _ (show n3 ≠ n1 by have := HM.out; omega), heap_setCell_other _ ⟨n1, 11, none⟩ n3 _ (show n3 ≠ n1 by have := HM.out; omega), heap_setCell_other _ ⟨n1, 10, none⟩ n3 _ (show n3 ≠ n1 by have := HM.out; omega), heap_setCell_other _ ⟨n1, 9, none⟩ n3 _ (show n3 ≠ n1 by have := HM.out; omega)]
          exact HN.out.1.2.2.1
        have hrz : RS c bm bc X1 (wb A e) Z := by
          have hx := HX.out.2.2.2.2.2.1
          have l1 : bm < n0 := HM.out.2.2.2.2.2.2.2.1
          have l2 : bc < n0 := HM.out.2.2.2.2.2.2.2.2
          have r0 : RS c bm bc X1 (wb A e) wr := HR.out.1.same (by unfold wb; rw [if_pos HD.out, HN.out.2]) (by unfold wb; rw [if_pos HD.out])
          rw [← hZ]
          exact ((((r0.far hx l1 l2 (grownBy_set _ _ _ _) (by have := HM.out; omega)).far hx l1 l2 (grownBy_set _ _ _ _) (by have := HM.out; omega)).far hx l1 l2 (grownBy_set _ _ _ _) (by have := HM.out; omega)).far hx l1 l2 (grownBy_set _ _ _ _) (by have := HM.out; omega)).far hx l1 l2 (grownBy_set _ _ _ _) (by have := HM.out; omega)
        have hsz : n0 + 4 ≤ Z.heap.size := Nat.le_trans HN.out.1.2.2.2 hgz.size
        have HZ := Lib.hid (And.intro hgz (And.intro (And.intro hz0 hz1) (And.intro hz2 (And.intro hz3 (And.intro hrz hsz)))))
        clear hgz hz0 hz1 hz2 hz3 hrz hsz hZ hne hne'
        refine wp_region_held_drew (S := (fun w' => w'.heap[n0]? = some (.cells (stC c bm bc (wb A e)) 81 (0, 0)) ∧ w'.heap[n1]? = some (.cells ((clE e).cells) 107 (0, 0)))) (by kernel_rfl) ?_ (fun hHeldc => ?_)
        · (try dsimp only); exact HZ.out.2.1
        refine wpAnyH_take (i := 0) (oi := _) (v := ?vc1) rfl (by kernel_rfl) (by kernel_rfl) (by kernel_rfl) (fun _ _ _ h => h) (Or.inl ⟨by rfl, ?hyc1⟩) (by assumption) ?restc1
        case hyc1 => (intro w hSw; (try dsimp only at hSw); (refine exec_load_row 81 (.tmp 2) ?_ n0 ?_ 81 _ (0, 0) _ hSw.1 Try.underlying81 rfl info81s) <;> rfl)
        try simp only [Act.put, List.getElem_toArray, List.getElem_cons_zero, List.getElem_cons_succ, List.setIfInBounds_toArray, List.set_cons_zero, List.set_cons_succ]
        refine wpAnyH_take (i := 1) (oi := _) (v := ?vc2) rfl (by kernel_rfl) (by kernel_rfl) (by kernel_rfl) (fun _ _ _ h => h) (Or.inl ⟨by rfl, ?hyc2⟩) (by assumption) ?restc2
        case hyc2 => (intro w hSw; (try dsimp only at hSw); (refine exec_load_row 107 (.tmp 3) ?_ n1 ?_ 107 _ (0, 0) _ hSw.2 Try.underlying107 rfl info107s) <;> rfl)
        try simp only [Act.put, List.getElem_toArray, List.getElem_cons_zero, List.getElem_cons_succ, List.setIfInBounds_toArray, List.set_cons_zero, List.set_cons_succ]
        refine wpAnyH_ready (rs := [2]) (by kernel_rfl) (by simp) ?_
        refine AllReadyH.cons (o := _) rfl (fun K hK => ?_) AllReadyH.nil
        refine wp_store_row 81 (.tmp 4) (.tmp 41) rfl n2 (stC c bm bc (wb A e)) rfl rfl 81 stZ HZ.out.2.2.1 info81s rfl (stC_one _ _ _ _) ?_
        refine hK.out _ _ ?_ (fun hHeldc3 => ?_)
        · (try dsimp only); exact ⟨by rw [setRow_other _ _ _ _ (by have := HM.out; omega)]; exact HZ.out.2.1.1, by rw [setRow_other _ _ _ _ (by have := HM.out; omega)]; exact HZ.out.2.1.2⟩
        clear hK K hHeldc
        try simp only [Act.put, List.getElem_toArray, List.getElem_cons_zero, List.getElem_cons_succ, List.setIfInBounds_toArray, List.set_cons_zero, List.set_cons_succ]
        refine wpAnyH_ready (rs := [3]) (by kernel_rfl) (by simp) ?_
        refine AllReadyH.cons (o := _) rfl (fun K hK => ?_) AllReadyH.nil
        refine wp_store_row 107 (.tmp 5) (.tmp 42) rfl n3 ((clE e).cells) rfl rfl 107 enZ (by rw [setRow_other _ _ _ _ (by have := HM.out; omega)]; exact HZ.out.2.2.2.1) info107s rfl (enC_one _) ?_
        refine hK.out _ _ ?_ (fun hHeldc4 => ?_)
        · (try dsimp only); exact ⟨by rw [setRow_other _ _ _ _ (by have := HM.out; omega), setRow_other _ _ _ _ (by have := HM.out; omega)]; exact HZ.out.2.1.1, by rw [setRow_other _ _ _ _ (by have := HM.out; omega), setRow_other _ _ _ _ (by have := HM.out; omega)]; exact HZ.out.2.1.2⟩
        clear hK K hHeldc3
        try simp only [Act.put, List.getElem_toArray, List.getElem_cons_zero, List.getElem_cons_succ, List.setIfInBounds_toArray, List.set_cons_zero, List.set_cons_succ]
        refine wpAnyH_done (by kernel_rfl) ?_ _
        go_wp2_with fail
        have q2 := setRow_heap Z.drew n2 stZ (stC c bm bc (wb A e)) 81 (0, 0) HZ.out.2.2.1
        have q3 := setRow_heap (Z.drew.setRow n2 (stC c bm bc (wb A e))) n3 enZ (clE e).cells 107 (0, 0) (by rw [setRow_other _ _ _ _ (by have := HM.out; omega)]; exact HZ.out.2.2.2.1)
        refine bodyPost_ret (v := .tuple #[.agg (stC c bm bc (wb A e)), .agg (clE e).cells]) (res54 _ _ n2 n3 _ _ _ _ _ _ _ _ _ _ _ _ _ _ _ _ _ _ _ _ _ _ rfl rfl (by rw [setRow_other _ _ _ _ (by have := HM.out; omega)]; exact q2) q3) rfl ?_
        unfold WrPost
        rw [HW.out.2.1]
        have hx := HX.out.2.2.2.2.2
        have l1 : bm < n0 := HM.out.2.2.2.2.2.2.2.1
        have l2 : bc < n0 := HM.out.2.2.2.2.2.2.2.2
        refine ⟨rfl, (((HZ.out.2.2.2.2.1.rest (bb_drew (Below.refl _ _))).far hx.1 l1 l2 (grownBy_setRow _ _ _) (by have := HM.out; omega)).far hx.1 l1 l2 (grownBy_setRow _ _ _) (by have := HM.out; omega)).weak hx.2, ?_⟩
        exact HX.out.2.2.2.1.trans (((((HR.out.2.1.mono (by omega)).trans HZ.out.1).drew).row _ (by have := HZ.out.2.2.2.2.2; simp; omega) (by have := HM.out; omega)).row _ (by have := HZ.out.2.2.2.2.2; simp; omega) (by have := HM.out; omega))
end Go.Proofs.Ytggidakiflnhhaa
