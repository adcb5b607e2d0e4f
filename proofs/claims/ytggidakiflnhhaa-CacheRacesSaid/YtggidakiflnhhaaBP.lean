import Derived.Test.YtggidakiflnhhaaBO
namespace Go.Proofs.Ytggidakiflnhhaa
open Go.RowKit
set_option maxHeartbeats 16000000
set_option maxRecDepth 100000
set_option linter.unusedSimpArgs false
set_option linter.unusedVariables false

theorem run_append_none {P : Program} (w : World) (t ty e : TypeId) (size : Nat) (ht : P.underlying t = some (.slice e)) (hi : (P.info? e).map (·.size) = some size) (B A : Option Addr) (n c c2 : Nat) (hn : n ≤ c) :
    (Builtin.append_ #[t, t] ty #[.slice B n c, .slice A 0 c2]).run P w = .ok (.slice B n c) w := by
  cases hq : P.info? e with
  | none => simp [hq] at hi
  | some i =>
    cases A <;> cases B <;> simp [Builtin.append_, run_underlying ht, sizeOf, typeInfo, hq, Builtin.lenOf, Builtin.firstCells, hn, go_sem, loadCells, loadCellsFrom, storeCells]
theorem wp_append_row {α : Type} {P : Program} {enc : α → List Value} {sz : Nat} (hs : ∀ x, (enc x).length = sz) (h1 : ∀ x, ∀ u ∈ enc x, u.oneCell' = true)
    (w : World) {o : Oper} {a : Act} {K : Act → World → Prop} {Q : Exit → Act → World → Prop} (s x : Operand) (t : TypeId)
    (ho : o.op = .call { callee := .builtin .append, args := #[s, x], argTypes := #[t, t] })
    (base : Nat) (e : TypeId) (z : Value) (bytes : Nat) (ht : P.underlying t = some (.slice e)) (hinfo : (P.info? e).map (fun i => (i.zero, i.size, i.bytes)) = some (some z, sz, bytes))
    (hzs : z.cells.size = sz) (hsz : 0 < sz) (hb0 : 0 < bytes)
    (v : Value) (xs : List α) (n : Nat) (hn : xs.length = n) (hv : a.eval s = v) (hown : Own enc sz e w base v xs)
    (A : Option Addr) (m c : Nat) (ys : List α) (hx : a.eval x = .slice A m c) (hm : ys.length = m) (hr : Rd enc sz w A ys)
    (hbytes : (n + m) * bytes ≤ 140737488355328) (hbase : base ≤ w.heap.size)
    (h : ∀ B cap w', Own enc sz e w' base (.slice B (n + m) cap) (xs ++ ys) → w.grownBy w' v.ownBlock → (∀ k, (Value.slice B (n + m) cap).ownBlock = some k → v.ownBlock = some k ∨ k = w.heap.size) → K (a.put o.dst (.slice B (n + m) cap)) w') : o.wp P a w K Q := by
  subst hm
  subst hn
  obtain ⟨i0, hi, hz0, hz1, hz2⟩ := info_parts hinfo
  by_cases h0 : 0 < ys.length
  · cases A with
    | none => have := hr.none; rw [this] at h0; simp at h0
    | some ad =>
      have h63 : xs.length + ys.length ≤ maxLen := by
        have : xs.length + ys.length ≤ (xs.length + ys.length) * bytes := Nat.le_mul_of_pos_right _ hb0
        simp only [maxLen]
        omega
      obtain ⟨g, cap, w', hr1, ho1, hg1, hg2, hg3⟩ := run_append_lies (P := P) w t o.type base e i0 z sz bytes ht hi hz0 hz1 hz2 hzs hsz v xs.length (xs.flatMap enc) hown ad ys.length c (ys.flatMap enc) (flat_length hs ys) (hr.news hs)
        (fun u hu => by obtain ⟨y, _, hy⟩ := List.mem_flatMap.1 hu; exact h1 y u hy) h0 h63 hbytes hbase _ rfl
      unfold Oper.wp execOp
      simp only [ho, resolve, invoke, builtin, Sem.run_bind, Sem.run_pure, Result.andThen_ok, List.map_toArray, List.map_cons, List.map_nil, hv, hx, hr1]
      refine h (some ⟨g, 0, none⟩) cap w' ?_ hg1 (fun k hk => ?_)
      · unfold Own
        rw [List.length_append, List.flatMap_append]
        exact ho1
      · have : g = k := by simpa [Value.ownBlock] using hk
        subst this
        exact hg2
  · obtain rfl : ys = [] := List.eq_nil_of_length_eq_zero (by omega)
    obtain ⟨B, cc, rfl, hle, _, _⟩ := hown.form hs
    have hr1 := run_append_none (P := P) w t o.type e sz ht (by rw [hi]; simp [hz1]) B A xs.length cc c hle
    unfold Oper.wp execOp
    simp only [List.length_nil] at hx
    simp only [ho, resolve, invoke, builtin, Sem.run_bind, Sem.run_pure, Result.andThen_ok, List.map_toArray, List.map_cons, List.map_nil, hv, hx, hr1]
    refine h B cc w ?_ ⟨rfl, rfl, rfl, Nat.le_refl _, fun _ _ _ => rfl⟩ (fun k hk => Or.inl hk)
    rw [List.append_nil]
    exact hown
theorem wp_append_rowN {α : Type} {P : Program} {enc : α → List Value} {sz : Nat} (hs : ∀ x, (enc x).length = sz) (h1 : ∀ x, ∀ u ∈ enc x, u.oneCell' = true)
    (w : World) {o : Oper} {a : Act} {K : Act → World → Prop} {Q : Exit → Act → World → Prop} (s x : Operand) (t : TypeId)
    (ho : o.op = .call { callee := .builtin .append, args := #[s, x], argTypes := #[t, t] })
    (base : Nat) (e : TypeId) (z : Value) (bytes : Nat) (ht : P.underlying t = some (.slice e)) (hinfo : (P.info? e).map (fun i => (i.zero, i.size, i.bytes)) = some (some z, sz, bytes))
    (hzs : z.cells.size = sz) (hsz : 0 < sz) (hb0 : 0 < bytes)
    (v : Value) (xs : List α) (n : Nat) (hn : xs.length = n) (hv : a.eval s = v) (hown : Own enc sz e w base v xs)
    (A : Option Addr) (m c : Nat) (ys : List α) (hx : a.eval x = .slice A m c) (hm : ys.length = m) (hr : Rd enc sz w A ys)
    (hbytes : (n + m) * bytes ≤ 140737488355328) (hbase : base ≤ w.heap.size)
    (N : Nat) (hN : n + m = N) (zs : List α) (hz : xs ++ ys = zs)
    (h : ∀ B cap w', Own enc sz e w' base (.slice B N cap) zs → w.grownBy w' v.ownBlock → (∀ k, (Value.slice B N cap).ownBlock = some k → v.ownBlock = some k ∨ k = w.heap.size) → K (a.put o.dst (.slice B N cap)) w') : o.wp P a w K Q := by
  subst hN
  subst hz
  exact wp_append_row hs h1 w s x t ho base e z bytes ht hinfo hzs hsz hb0 v xs n hn hv hown A m c ys hx hm hr hbytes hbase h
theorem info63r : (Try.prog.info? 63).map (fun i => (i.zero, i.size, i.bytes)) = some (some (.agg #[.int .i64 0, .int .i64 0, .int .i64 0, .int .i64 0]), 4, 32) := by kernel_rfl
/-- the trace that is built up -/
structure FR (w1 : World) (nB : Nat) (v : Value) (xs : List Op) (W : World) : Prop where
  own : Own encP 4 63 W nB v xs
  lo : Below nB w1 W
  sz : nB ≤ W.heap.size
theorem FR.rest {w1 W W' : World} {nB : Nat} {v : Value} {xs : List Op} (h : FR w1 nB v xs W) (hb : Below W.heap.size W W') : FR w1 nB v xs W' :=
  ⟨h.own.rest hb, h.lo.trans (hb.mono h.sz), Nat.le_trans h.sz hb.size⟩
theorem FR.app {w1 W W' : World} {nB : Nat} {v v' : Value} {xs xs' : List Op} (h : FR w1 nB v xs W) (ho : Own encP 4 63 W' nB v' xs') (hg : W.grownBy W' v.ownBlock) : FR w1 nB v' xs' W' :=
  ⟨ho, h.lo.grown hg h.sz (fun k e => (h.own.blk k e).1), Nat.le_trans h.sz hg.size⟩
theorem fence24_results (tmps : Array Value) (X : World) (v k : Value) (h4 : tmps[4]?.getD undef = v) (h5 : tmps[5]?.getD undef = k) : (results Try.f24 tmps).run Try.prog X = .ok (.tuple #[v, k]) X := by
  simp [results, Try.results24, go_sem, h4, h5]
def Fence24Post (c : Cf) (l : List Op) (w : World) (e : Ending) (w' : World) : Prop :=
  (chkF c l = 0 → ∃ v, e = .returned (.tuple #[v, .int .i64 0]) ∧ Own encP 4 63 w' w.heap.size v (fnF l).tr) ∧ (chkF c l ≠ 0 → e = .returned (.tuple #[.slice none 0 0, .int .i64 (chkF c l)])) ∧ Below w.heap.size w w'
theorem fence24_calls (c : Cf) (l : List Op) (hl2 : chkF c l = 0 → l.length ≤ 200) (A : Option Addr) (cp : Nat) (w : World) (hA : Rd encP 4 w A l) :
    Calls Try.prog 24 #[c.val, .slice A l.length cp] w (Fence24Post c l w) := by
  have hsm := hA.small
  obtain ⟨W, hW⟩ : ∃ W, w.alloc (.cells c.cells 23) = W := ⟨_, rfl⟩
  have hb : Below w.heap.size w W := by rw [← hW]; exact (Below.refl _ _).alloc (Nat.le_refl _) _
  have hcf : W.heap[w.heap.size]? = some (.cells c.cells 23 (0, 0)) := by rw [← hW]; exact Go.heap_alloc_new w _
  obtain ⟨n0, hn0⟩ : ∃ n, w.heap.size = n := ⟨_, rfl⟩
  have hck := checkR_calls c l A cp W (hA.below hb)
  rw [hn0] at hcf
  have x0 : W.cell? ⟨n0, 0, none⟩ = some (.int .i64 c.L) := by rw [cell_of_row _ _ _ _ _ _ hcf]; rfl
  have x1 : W.cell? ⟨n0, 1, none⟩ = some (.int .i64 c.W) := by rw [cell_of_row _ _ _ _ _ _ hcf]; rfl
  have x2 : W.cell? ⟨n0, 2, none⟩ = some (.int .i64 c.N) := by rw [cell_of_row _ _ _ _ _ _ hcf]; rfl
  have x3 : W.cell? ⟨n0, 3, none⟩ = some (.int .i64 c.H) := by rw [cell_of_row _ _ _ _ _ _ hcf]; rfl
  have HC := Lib.hid hck
  have HW := Lib.hid (And.intro hW hn0)
  have HX := Lib.hid (And.intro hb (And.intro hA hcf))
  have HO := Lib.hid (fun (u : World) (hu : Below w.heap.size w u) => hA.below hu)
  clear hck hW hn0 hb hcf hA
  go_enter Try.func24, Try.ntmps24
  go_upto_region 1 with fail
  rw [HW.out.1]
  try rw [HW.out.2]
  by_cases hk : chkF c l = 0
  · have hkc : (chkF c l != 0) = false := by rw [bne_eq_false_iff_eq]; exact hk
    obtain ⟨hcfk, hops⟩ := chk_parts hk
    obtain ⟨L, hLc⟩ : ∃ L : Nat, c.L = (L : Int) := ⟨c.L.toNat, by have := hcfk.1; omega⟩
    have hL8 : L ≤ 8 := by have := hcfk.2.1; omega
    have HG := Lib.hid (And.intro (show ∀ o ∈ l, gdO o from fun o ho => op_gd hcfk (hops o ho)) (And.intro hops (And.intro hLc (hl2 hk))))
    have HK := Lib.hid hk
    clear hk hcfk hops hl2 hLc
    go_upto_block 0 with ((with_reducible refine (HC.out).mono ?_); rintro e w1 ⟨rfl, hb1⟩; have H1 := Lib.hid (And.intro (HX.out.1.trans (hb1.mono HX.out.1.size)) ((hb1.block _ (blk_lt HX.out.2.2)).trans HX.out.2.2)); clear hb1)
    obtain ⟨nB, hnB⟩ : ∃ n, w1.heap.size = n := ⟨_, rfl⟩
    have hcL : ∀ u, Below nB w1 u → u.cell? ⟨n0, 0, none⟩ = some (.int .i64 (L : Int)) := fun u hu => by
      have h := (hu.block _ (by have := blk_lt H1.out.2; omega)).trans H1.out.2
      rw [cell_of_row _ _ _ _ _ _ h]; simp [HG.out.2.2.1]
    have hF0 : FR w1 nB (.slice none 0 0) [] w1 := ⟨⟨by simp, Or.inl ⟨rfl, rfl⟩⟩, Below.refl _ _, by omega⟩
    have hlw : ∀ u, Below nB w1 u → Below w.heap.size w u := fun u hu => H1.out.1.trans (hu.mono (by have := H1.out.1.size; omega))
    have HNB := Lib.hid hnB
    have HB := Lib.hid (And.intro hcL (And.intro hF0 hlw))
    clear x0 x1 x2 x3 hcL hF0 hnB hlw
    go_wp2_with fail
    go_loopg [7, 8, 9, 10, 11, 12, 13, 20, 21, 22, 23, 24, 25, 26, 27, 28, 29, 30, 31, 32, 33, 34, 35, 36, 37, 38, 39, 40, 41, 42, 43, 44, 45, 46, 47, 48, 49, 50, 51, 52, 53, 54, 55, 56, 57, 58, 59, 60, 61, 62, 63, 64, 65, 66, 67, 68, 69, 70, 71, 72, 73, 74, 75, 76, 77, 78, 79, 80, 81, 82, 83, 84, 85, 86, 87, 88, 89, 90, 91, 92, 93, 94, 95, 96, 97, 98, 99] l.length (fun gk v7 v8 v9 v10 v11 v12 v13 v20 v21 v22 v23 v24 v25 v26 v27 v28 v29 v30 v31 v32 v33 v34 v35 v36 v37 v38 v39 v40 v41 v42 v43 v44 v45 v46 v47 v48 v49 v50 v51 v52 v53 v54 v55 v56 v57 v58 v59 v60 v61 v62 v63 v64 v65 v66 v67 v68 v69 v70 v71 v72 v73 v74 v75 v76 v77 v78 v79 v80 v81 v82 v83 v84 v85 v86 v87 v88 v89 v90 v91 v92 v93 v94 v95 v96 v97 v98 v99 wr => ∃ i : Nat, i + gk = l.length ∧ v8 = .int .i64 (i : Int) ∧ FR w1 nB v7 (fnF (l.take i)).tr wr)
    case atStart => exact ⟨0, by omega, rfl, HB.out.2.1⟩
    case round =>
      obtain ⟨i, hi, rfl, hf⟩ := hrel
      by_cases hlt : i < l.length
      · have hd : decide (i < l.length) = true := decide_eq_true hlt
        have hiI : (i : Int) < (l.length : Int) := by omega
        obtain ⟨a, rfl, hca⟩ := (HO.out wr (HB.out.2.2 _ hf.lo)).cell i hlt
        obtain ⟨o, ho⟩ : ∃ o, l[i] = o := ⟨_, rfl⟩
        rw [ho] at hca
        have hof : o ∈ l := by rw [← ho]; exact List.getElem_mem hlt
        obtain ⟨s, hs⟩ : ∃ s, fnF (l.take i) = s := ⟨_, rfl⟩
        have hfn := fn_at HG.out.1 i
        have hop := fn_ok_at HG.out.2.1 i
        have hfe := fn_take hlt
        have hfn1 := (fn_at HG.out.1 (i + 1)).2.2
        rw [hs, ho] at hfe
        rw [hs] at hf hfn hop
        rw [hfe] at hfn1
        have hgo := HG.out.1 _ hof
        obtain ⟨oa, ok, op, ov⟩ := o
        have y0 := hca 0 _ rfl
        have y1 := hca 1 _ rfl
        have y2 := hca 2 _ rfl
        have y3 := hca 3 _ rfl
        rw [Nat.add_zero] at y0
        rw [add_field _ _ _ (by decide)] at y1 y2 y3
        obtain ⟨O, cO, rfl, _, hrO, _⟩ := hf.own.form lenP
        have HY := Lib.hid (fun (u : World) (hu : Below w.heap.size w u) => (show u.cell? (a.add (i * 4)) = some (.int .i64 oa) ∧ u.cell? ⟨(a.add (i * 4)).block, (a.add (i * 4)).off + 1, none⟩ = some (.int .i64 ok) ∧ u.cell? ⟨(a.add (i * 4)).block, (a.add (i * 4)).off + 2, none⟩ = some (.int .i64 op) ∧ u.cell? ⟨(a.add (i * 4)).block, (a.add (i * 4)).off + 3, none⟩ = some (.int .i64 ov) by
          obtain ⟨a2, ha2, hc2⟩ := (HO.out u hu).cell i hlt
          obtain rfl := Option.some.inj ha2
          rw [ho] at hc2
          have g0 := hc2 0 _ rfl
          have g1 := hc2 1 _ rfl
          have g2 := hc2 2 _ rfl
          have g3 := hc2 3 _ rfl
          rw [Nat.add_zero] at g0
          rw [add_field _ _ _ (by decide)] at g1 g2 g3
          exact ⟨g0, g1, g2, g3⟩))
        have hlen : s.tr.length ≤ 2000 := by have := hfn.2.2; have := HG.out.2.2.2; omega
        have hle2 : (feS s ⟨oa, ok, op, ov⟩).tr.length ≤ 2000 := by have := HG.out.2.2.2; omega
        have HS := Lib.hid (And.intro hfn.1 (And.intro hfn.2.1 (And.intro hop (And.intro hgo (And.intro hlen (And.intro hfe hle2))))))
        have HF := Lib.hid (And.intro hf hrO)
        clear hca hs hfn hop hgo hfe hfn1 hlen hle2 hf hrO ho hof y0 y1 y2 y3
        go_upto_region 8 with fail
        go_cut [9] from 26 to 34 (fun v9 wx => ∃ B cB, v9 = .slice B (s.tr.length + 1) cB ∧ Rd encP 4 wx B (s.tr ++ [⟨oa, ok, op, ov⟩]) ∧ Below wr.heap.size wr wx)
        case first =>
          refine wp_region_held_drew (S := (fun w' => w'.cell? (a.add (i * 4)) = some (.int .i64 oa) ∧ w'.cell? ⟨(a.add (i * 4)).block, (a.add (i * 4)).off + 1, none⟩ = some (.int .i64 ok) ∧ w'.cell? ⟨(a.add (i * 4)).block, (a.add (i * 4)).off + 2, none⟩ = some (.int .i64 op) ∧ w'.cell? ⟨(a.add (i * 4)).block, (a.add (i * 4)).off + 3, none⟩ = some (.int .i64 ov))) (by kernel_rfl) ?_ (fun hHelda => ?_)
          · (try dsimp only); exact HY.out _ (Below.trans (HB.out.2.2 _ HF.out.1.lo) ((bb_drew (Below.refl _ _)).mono (Below.size (HB.out.2.2 _ HF.out.1.lo))))
          obtain ⟨wd, hwd⟩ : ∃ u, wr.drew = u := ⟨_, rfl⟩
          have F0 := Lib.hid (show Below wr.heap.size wr wd by rw [← hwd]; exact bb_drew (Below.refl _ _))
          rw [hwd]
          rw [hwd] at hHelda
          clear hwd
          refine wpAnyH_take (i := 1) (oi := _) (v := ?va1) rfl (by kernel_rfl) (by kernel_rfl) (by kernel_rfl) (fun _ _ _ h => h) (Or.inl ⟨by rfl, ?hya1⟩) (by assumption) ?resta1
          case hya1 => (intro w hSw; (try dsimp only at hSw); go_simp; all_goals with_reducible rfl)
          try simp only [Act.put, List.getElem_toArray, List.getElem_cons_zero, List.getElem_cons_succ, List.setIfInBounds_toArray, List.set_cons_zero, List.set_cons_succ]
          refine wpAnyH_take (i := 3) (oi := _) (v := ?va2) rfl (by kernel_rfl) (by kernel_rfl) (by kernel_rfl) (fun _ _ _ h => h) (Or.inl ⟨by rfl, ?hya2⟩) (by assumption) ?resta2
          case hya2 => (intro w hSw; (try dsimp only at hSw); go_simp; all_goals with_reducible rfl)
          try simp only [Act.put, List.getElem_toArray, List.getElem_cons_zero, List.getElem_cons_succ, List.setIfInBounds_toArray, List.set_cons_zero, List.set_cons_succ]
          refine wpAnyH_take (i := 4) (oi := _) (v := ?va3) rfl (by kernel_rfl) (by kernel_rfl) (by kernel_rfl) (fun _ _ _ h => h) (Or.inl ⟨by rfl, ?hya3⟩) (by assumption) ?resta3
          case hya3 => (intro w hSw; (try dsimp only at hSw); go_simp; all_goals with_reducible rfl)
          try simp only [Act.put, List.getElem_toArray, List.getElem_cons_zero, List.getElem_cons_succ, List.setIfInBounds_toArray, List.set_cons_zero, List.set_cons_succ]
          refine wpAnyH_take (i := 5) (oi := _) (v := ?va4) rfl (by kernel_rfl) (by kernel_rfl) (by kernel_rfl) (fun _ _ _ h => h) (Or.inl ⟨by rfl, ?hya4⟩) (by assumption) ?resta4
          case hya4 => (intro w hSw; (try dsimp only at hSw); go_simp; all_goals with_reducible rfl)
          try simp only [Act.put, List.getElem_toArray, List.getElem_cons_zero, List.getElem_cons_succ, List.setIfInBounds_toArray, List.set_cons_zero, List.set_cons_succ]
          refine wpAnyH_take (i := 6) (oi := _) (v := ?va5) rfl (by kernel_rfl) (by kernel_rfl) (by kernel_rfl) (fun _ _ _ h => h) (Or.inl ⟨by rfl, ?hya5⟩) (by assumption) ?resta5
          case hya5 => (intro w hSw; (try dsimp only at hSw); go_simp; all_goals with_reducible rfl)
          try simp only [Act.put, List.getElem_toArray, List.getElem_cons_zero, List.getElem_cons_succ, List.setIfInBounds_toArray, List.set_cons_zero, List.set_cons_succ]
          refine wpAnyH_ready (rs := [0, 7]) (by kernel_rfl) (by simp) ?_
          refine AllReadyH.cons (o := _) rfl (fun K hK => ?_) ?_
          · go_simp
            obtain ⟨ua, hu⟩ : ∃ u, wd.alloc (.cells #[] 63) = u := ⟨_, rfl⟩
            have hbu : Below wd.heap.size wd ua := by rw [← hu]; exact (Below.refl _ _).alloc (Nat.le_refl _) _
            have hox : Own encP 4 63 ua wr.heap.size (.slice (some ⟨wd.heap.size, 0, none⟩) 0 0) [] := by rw [← hu]; exact Own.empty _ _ _ _ _ (Below.size (F0.out))
            obtain ⟨g0, hnb⟩ : ∃ nb, wd.heap.size = nb := ⟨_, rfl⟩
            rw [hu]
            try rw [hnb]
            rw [hnb] at hox
            have Fua := Lib.hid (And.intro (Below.trans (F0.out) (Below.mono hbu (Below.size (F0.out)))) (hox))
            clear hu hbu hox hnb
            refine hK.out _ _ ?_ (fun hHelda6 => ?_)
            · (try dsimp only); exact HY.out _ (Below.trans (HB.out.2.2 _ HF.out.1.lo) (Below.mono (Fua.out.1) (Below.size (HB.out.2.2 _ HF.out.1.lo))))
            clear hK K hHelda
            try simp only [Act.put, List.getElem_toArray, List.getElem_cons_zero, List.getElem_cons_succ, List.setIfInBounds_toArray, List.set_cons_zero, List.set_cons_succ]
            refine wpAnyH_ready (rs := [2, 7]) (by kernel_rfl) (by simp) ?_
            refine AllReadyH.cons (o := _) rfl (fun K hK => ?_) ?_
            · rw [if_pos (by rfl)]
              refine wp_append_rowN lenP oneP ua (.tmp 26) (.tmp 27) 24 rfl wr.heap.size 63 (.agg #[.int .i64 0, .int .i64 0, .int .i64 0, .int .i64 0]) 32 Try.underlying24 info63r rfl (by decide) (by decide) (.slice (some ⟨g0, 0, none⟩) 0 0) [] 0 rfl (by simp [Act.eval, Act.put]) (Fua.out.2) O (s.tr).length cO (s.tr) (by simp [Act.eval, Act.put]) rfl (Rd.below HF.out.2 (Fua.out.1)) (by have := (show (s.tr.length + 1) * 32 ≤ 140737488355328 by have := HS.out.2.2.2.2.1; omega); omega) (Below.size (Fua.out.1)) (s.tr).length (Nat.zero_add _) (s.tr) rfl ?_
              intro B2 c2 uab hA hB hL
              have Fuab := Lib.hid (And.intro (Below.trans (Fua.out.1) (Below.grown (Below.refl wr.heap.size ua) hB (Below.size (Fua.out.1)) (fun k hk => ((Own.blk (Fua.out.2)) k hk).1))) (hA))
              clear hA hB hL
              refine hK.out _ _ ?_ (fun hHelda7 => ?_)
              · (try dsimp only); exact HY.out _ (Below.trans (HB.out.2.2 _ HF.out.1.lo) (Below.mono (Fuab.out.1) (Below.size (HB.out.2.2 _ HF.out.1.lo))))
              clear hK K hHelda6
              try simp only [Act.put, List.getElem_toArray, List.getElem_cons_zero, List.getElem_cons_succ, List.setIfInBounds_toArray, List.set_cons_zero, List.set_cons_succ]
              refine wpAnyH_ready (rs := [7]) (by kernel_rfl) (by simp) ?_
              refine AllReadyH.cons (o := _) rfl (fun K hK => ?_) AllReadyH.nil
              go_simp
              obtain ⟨uabc, hu⟩ : ∃ u, uab.alloc (.cells #[.int .i64 oa, .int .i64 ok, .int .i64 op, .int .i64 ov] 63) = u := ⟨_, rfl⟩
              have hbu : Below uab.heap.size uab uabc := by rw [← hu]; exact (Below.refl _ _).alloc (Nat.le_refl _) _
              have hox : uabc.heap[uab.heap.size]? = some (.cells #[.int .i64 oa, .int .i64 ok, .int .i64 op, .int .i64 ov] 63 (0, 0)) := by rw [← hu]; exact Go.heap_alloc_new _ _
              obtain ⟨b7, hnb⟩ : ∃ nb, uab.heap.size = nb := ⟨_, rfl⟩
              rw [hu]
              try rw [hnb]
              rw [hnb] at hox
              have Fuabc := Lib.hid (And.intro (Below.trans (Fuab.out.1) (Below.mono hbu (Below.size (Fuab.out.1)))) (And.intro (Own.rest (Fuab.out.2) hbu) (hox)))
              clear hu hbu hox hnb
              refine hK.out _ _ ?_ (fun hHelda8 => ?_)
              · (try dsimp only); exact HY.out _ (Below.trans (HB.out.2.2 _ HF.out.1.lo) (Below.mono (Fuabc.out.1) (Below.size (HB.out.2.2 _ HF.out.1.lo))))
              clear hK K hHelda7
              try simp only [Act.put, List.getElem_toArray, List.getElem_cons_zero, List.getElem_cons_succ, List.setIfInBounds_toArray, List.set_cons_zero, List.set_cons_succ]
              refine wpAnyH_ready (rs := [8]) (by kernel_rfl) (by simp) ?_
              refine AllReadyH.cons (o := _) rfl (fun K hK => ?_) AllReadyH.nil
              rw [if_pos (by rfl)]
              refine wp_append_rowN lenP oneP uabc (.tmp 28) (.tmp 33) 24 rfl wr.heap.size 63 (.agg #[.int .i64 0, .int .i64 0, .int .i64 0, .int .i64 0]) 32 Try.underlying24 info63r rfl (by decide) (by decide) (.slice B2 (s.tr).length c2) (s.tr) (s.tr).length rfl (by simp [Act.eval, Act.put]) (Fuabc.out.2.1) (some ⟨b7, 0, none⟩) 1 1 [⟨oa, ok, op, ov⟩] (by simp [Act.eval, Act.put]) rfl (rd_blk encP 4 _ ⟨oa, ok, op, ov⟩ (Fuabc.out.2.2)) (show (s.tr.length + 1) * 32 ≤ 140737488355328 by have := HS.out.2.2.2.2.1; omega) (Below.size (Fuabc.out.1)) ((s.tr).length + 1) rfl ((s.tr) ++ [⟨oa, ok, op, ov⟩]) rfl ?_
              intro B8 c8 uabcd hA hB hL
              have Fuabcd := Lib.hid (And.intro (Below.trans (Fuabc.out.1) (Below.grown (Below.refl wr.heap.size uabc) hB (Below.size (Fuabc.out.1)) (fun k hk => ((Own.blk (Fuabc.out.2.1)) k hk).1))) (hA))
              clear hA hB hL
              refine hK.out _ _ ?_ (fun hHelda9 => ?_)
              · (try dsimp only); exact HY.out _ (Below.trans (HB.out.2.2 _ HF.out.1.lo) (Below.mono (Fuabcd.out.1) (Below.size (HB.out.2.2 _ HF.out.1.lo))))
              clear hK K hHelda8
              try simp only [Act.put, List.getElem_toArray, List.getElem_cons_zero, List.getElem_cons_succ, List.setIfInBounds_toArray, List.set_cons_zero, List.set_cons_succ]
              refine wpAnyH_take (i := 9) (oi := _) (v := ?va10) rfl (by kernel_rfl) (by kernel_rfl) (by kernel_rfl) (fun _ _ _ h => h) (Or.inl ⟨by rfl, ?hya10⟩) (by assumption) ?resta10
              case hya10 => (intro w hSw; (try dsimp only at hSw); go_simp; all_goals with_reducible rfl)
              try simp only [Act.put, List.getElem_toArray, List.getElem_cons_zero, List.getElem_cons_succ, List.setIfInBounds_toArray, List.set_cons_zero, List.set_cons_succ]
              refine wpAnyH_done (by kernel_rfl) ?_ _
              go_wp2_with fail
              go_meet
              obtain ⟨hlo8, ht8⟩ := Fuabcd.out
              exact ⟨B8, c8, rfl, (own_slice lenP ht8).2.2.1, hlo8⟩
            refine AllReadyH.cons (o := _) rfl (fun K hK => ?_) AllReadyH.nil
            go_simp
            obtain ⟨uac, hu⟩ : ∃ u, ua.alloc (.cells #[.int .i64 oa, .int .i64 ok, .int .i64 op, .int .i64 ov] 63) = u := ⟨_, rfl⟩
            have hbu : Below ua.heap.size ua uac := by rw [← hu]; exact (Below.refl _ _).alloc (Nat.le_refl _) _
            have hox : uac.heap[ua.heap.size]? = some (.cells #[.int .i64 oa, .int .i64 ok, .int .i64 op, .int .i64 ov] 63 (0, 0)) := by rw [← hu]; exact Go.heap_alloc_new _ _
            obtain ⟨b7, hnb⟩ : ∃ nb, ua.heap.size = nb := ⟨_, rfl⟩
            rw [hu]
            try rw [hnb]
            rw [hnb] at hox
            have Fuac := Lib.hid (And.intro (Below.trans (Fua.out.1) (Below.mono hbu (Below.size (Fua.out.1)))) (And.intro (Own.rest (Fua.out.2) hbu) (And.intro (hox) (show g0 ≠ b7 from Nat.ne_of_lt (by rw [← hnb]; exact ((Own.blk (Fua.out.2)) g0 rfl).2.1)))))
            clear hu hbu hox hnb
            refine hK.out _ _ ?_ (fun hHelda11 => ?_)
            · (try dsimp only); exact HY.out _ (Below.trans (HB.out.2.2 _ HF.out.1.lo) (Below.mono (Fuac.out.1) (Below.size (HB.out.2.2 _ HF.out.1.lo))))
            clear hK K hHelda6
            try simp only [Act.put, List.getElem_toArray, List.getElem_cons_zero, List.getElem_cons_succ, List.setIfInBounds_toArray, List.set_cons_zero, List.set_cons_succ]
            refine wpAnyH_ready (rs := [2]) (by kernel_rfl) (by simp) ?_
            refine AllReadyH.cons (o := _) rfl (fun K hK => ?_) AllReadyH.nil
            rw [if_pos (by rfl)]
            refine wp_append_rowN lenP oneP uac (.tmp 26) (.tmp 27) 24 rfl wr.heap.size 63 (.agg #[.int .i64 0, .int .i64 0, .int .i64 0, .int .i64 0]) 32 Try.underlying24 info63r rfl (by decide) (by decide) (.slice (some ⟨g0, 0, none⟩) 0 0) [] 0 rfl (by simp [Act.eval, Act.put]) (Fuac.out.2.1) O (s.tr).length cO (s.tr) (by simp [Act.eval, Act.put]) rfl (Rd.below HF.out.2 (Fuac.out.1)) (by have := (show (s.tr.length + 1) * 32 ≤ 140737488355328 by have := HS.out.2.2.2.2.1; omega); omega) (Below.size (Fuac.out.1)) (s.tr).length (Nat.zero_add _) (s.tr) rfl ?_
            intro B2 c2 uacb hA hB hL
            have Fuacb := Lib.hid (And.intro (Below.trans (Fuac.out.1) (Below.grown (Below.refl wr.heap.size uac) hB (Below.size (Fuac.out.1)) (fun k hk => ((Own.blk (Fuac.out.2.1)) k hk).1))) (And.intro (hA) ((hB.block _ (blk_lt (Fuac.out.2.2.1)) (fun e => (Fuac.out.2.2.2) (by simpa [Value.ownBlock] using e.symm))).trans (Fuac.out.2.2.1))))
            clear hA hB hL
            refine hK.out _ _ ?_ (fun hHelda12 => ?_)
            · (try dsimp only); exact HY.out _ (Below.trans (HB.out.2.2 _ HF.out.1.lo) (Below.mono (Fuacb.out.1) (Below.size (HB.out.2.2 _ HF.out.1.lo))))
            clear hK K hHelda11
            try simp only [Act.put, List.getElem_toArray, List.getElem_cons_zero, List.getElem_cons_succ, List.setIfInBounds_toArray, List.set_cons_zero, List.set_cons_succ]
            refine wpAnyH_ready (rs := [8]) (by kernel_rfl) (by simp) ?_
            refine AllReadyH.cons (o := _) rfl (fun K hK => ?_) AllReadyH.nil
            rw [if_pos (by rfl)]
            refine wp_append_rowN lenP oneP uacb (.tmp 28) (.tmp 33) 24 rfl wr.heap.size 63 (.agg #[.int .i64 0, .int .i64 0, .int .i64 0, .int .i64 0]) 32 Try.underlying24 info63r rfl (by decide) (by decide) (.slice B2 (s.tr).length c2) (s.tr) (s.tr).length rfl (by simp [Act.eval, Act.put]) (Fuacb.out.2.1) (some ⟨b7, 0, none⟩) 1 1 [⟨oa, ok, op, ov⟩] (by simp [Act.eval, Act.put]) rfl (rd_blk encP 4 _ ⟨oa, ok, op, ov⟩ (Fuacb.out.2.2)) (show (s.tr.length + 1) * 32 ≤ 140737488355328 by have := HS.out.2.2.2.2.1; omega) (Below.size (Fuacb.out.1)) ((s.tr).length + 1) rfl ((s.tr) ++ [⟨oa, ok, op, ov⟩]) rfl ?_
            intro B8 c8 uacbd hA hB hL
            have Fuacbd := Lib.hid (And.intro (Below.trans (Fuacb.out.1) (Below.grown (Below.refl wr.heap.size uacb) hB (Below.size (Fuacb.out.1)) (fun k hk => ((Own.blk (Fuacb.out.2.1)) k hk).1))) (hA))
            clear hA hB hL
            refine hK.out _ _ ?_ (fun hHelda13 => ?_)
            · (try dsimp only); exact HY.out _ (Below.trans (HB.out.2.2 _ HF.out.1.lo) (Below.mono (Fuacbd.out.1) (Below.size (HB.out.2.2 _ HF.out.1.lo))))
            clear hK K hHelda12
            try simp only [Act.put, List.getElem_toArray, List.getElem_cons_zero, List.getElem_cons_succ, List.setIfInBounds_toArray, List.set_cons_zero, List.set_cons_succ]
            refine wpAnyH_take (i := 9) (oi := _) (v := ?va14) rfl (by kernel_rfl) (by kernel_rfl) (by kernel_rfl) (fun _ _ _ h => h) (Or.inl ⟨by rfl, ?hya14⟩) (by assumption) ?resta14
            case hya14 => (intro w hSw; (try dsimp only at hSw); go_simp; all_goals with_reducible rfl)
            try simp only [Act.put, List.getElem_toArray, List.getElem_cons_zero, List.getElem_cons_succ, List.setIfInBounds_toArray, List.set_cons_zero, List.set_cons_succ]
            refine wpAnyH_done (by kernel_rfl) ?_ _
            go_wp2_with fail
            go_meet
            obtain ⟨hlo8, ht8⟩ := Fuacbd.out
            exact ⟨B8, c8, rfl, (own_slice lenP ht8).2.2.1, hlo8⟩
          refine AllReadyH.cons (o := _) rfl (fun K hK => ?_) AllReadyH.nil
          go_simp
          obtain ⟨uc, hu⟩ : ∃ u, wd.alloc (.cells #[.int .i64 oa, .int .i64 ok, .int .i64 op, .int .i64 ov] 63) = u := ⟨_, rfl⟩
          have hbu : Below wd.heap.size wd uc := by rw [← hu]; exact (Below.refl _ _).alloc (Nat.le_refl _) _
          have hox : uc.heap[wd.heap.size]? = some (.cells #[.int .i64 oa, .int .i64 ok, .int .i64 op, .int .i64 ov] 63 (0, 0)) := by rw [← hu]; exact Go.heap_alloc_new _ _
          obtain ⟨b7, hnb⟩ : ∃ nb, wd.heap.size = nb := ⟨_, rfl⟩
          rw [hu]
          try rw [hnb]
          rw [hnb] at hox
          have Fuc := Lib.hid (And.intro (Below.trans (F0.out) (Below.mono hbu (Below.size (F0.out)))) (hox))
          clear hu hbu hox hnb
          refine hK.out _ _ ?_ (fun hHelda15 => ?_)
          · (try dsimp only); exact HY.out _ (Below.trans (HB.out.2.2 _ HF.out.1.lo) (Below.mono (Fuc.out.1) (Below.size (HB.out.2.2 _ HF.out.1.lo))))
          clear hK K hHelda
          try simp only [Act.put, List.getElem_toArray, List.getElem_cons_zero, List.getElem_cons_succ, List.setIfInBounds_toArray, List.set_cons_zero, List.set_cons_succ]
          refine wpAnyH_ready (rs := [0]) (by kernel_rfl) (by simp) ?_
          refine AllReadyH.cons (o := _) rfl (fun K hK => ?_) AllReadyH.nil
          go_simp
          obtain ⟨uca, hu⟩ : ∃ u, uc.alloc (.cells #[] 63) = u := ⟨_, rfl⟩
          have hbu : Below uc.heap.size uc uca := by rw [← hu]; exact (Below.refl _ _).alloc (Nat.le_refl _) _
          have hox : Own encP 4 63 uca wr.heap.size (.slice (some ⟨uc.heap.size, 0, none⟩) 0 0) [] := by rw [← hu]; exact Own.empty _ _ _ _ _ (Below.size (Fuc.out.1))
          obtain ⟨g0, hnb⟩ : ∃ nb, uc.heap.size = nb := ⟨_, rfl⟩
          rw [hu]
          try rw [hnb]
          rw [hnb] at hox
          have Fuca := Lib.hid (And.intro (Below.trans (Fuc.out.1) (Below.mono hbu (Below.size (Fuc.out.1)))) (And.intro (hox) (And.intro ((hbu.block _ (blk_lt (Fuc.out.2))).trans (Fuc.out.2)) (show g0 ≠ b7 from Nat.ne_of_gt (by rw [← hnb]; exact blk_lt (Fuc.out.2))))))
          clear hu hbu hox hnb
          refine hK.out _ _ ?_ (fun hHelda16 => ?_)
          · (try dsimp only); exact HY.out _ (Below.trans (HB.out.2.2 _ HF.out.1.lo) (Below.mono (Fuca.out.1) (Below.size (HB.out.2.2 _ HF.out.1.lo))))
          clear hK K hHelda15
          try simp only [Act.put, List.getElem_toArray, List.getElem_cons_zero, List.getElem_cons_succ, List.setIfInBounds_toArray, List.set_cons_zero, List.set_cons_succ]
          refine wpAnyH_ready (rs := [2]) (by kernel_rfl) (by simp) ?_
          refine AllReadyH.cons (o := _) rfl (fun K hK => ?_) AllReadyH.nil
          rw [if_pos (by rfl)]
          refine wp_append_rowN lenP oneP uca (.tmp 26) (.tmp 27) 24 rfl wr.heap.size 63 (.agg #[.int .i64 0, .int .i64 0, .int .i64 0, .int .i64 0]) 32 Try.underlying24 info63r rfl (by decide) (by decide) (.slice (some ⟨g0, 0, none⟩) 0 0) [] 0 rfl (by simp [Act.eval, Act.put]) (Fuca.out.2.1) O (s.tr).length cO (s.tr) (by simp [Act.eval, Act.put]) rfl (Rd.below HF.out.2 (Fuca.out.1)) (by have := (show (s.tr.length + 1) * 32 ≤ 140737488355328 by have := HS.out.2.2.2.2.1; omega); omega) (Below.size (Fuca.out.1)) (s.tr).length (Nat.zero_add _) (s.tr) rfl ?_
          intro B2 c2 ucab hA hB hL
          have Fucab := Lib.hid (And.intro (Below.trans (Fuca.out.1) (Below.grown (Below.refl wr.heap.size uca) hB (Below.size (Fuca.out.1)) (fun k hk => ((Own.blk (Fuca.out.2.1)) k hk).1))) (And.intro (hA) ((hB.block _ (blk_lt (Fuca.out.2.2.1)) (fun e => (Fuca.out.2.2.2) (by simpa [Value.ownBlock] using e.symm))).trans (Fuca.out.2.2.1))))
          clear hA hB hL
          refine hK.out _ _ ?_ (fun hHelda17 => ?_)
          · (try dsimp only); exact HY.out _ (Below.trans (HB.out.2.2 _ HF.out.1.lo) (Below.mono (Fucab.out.1) (Below.size (HB.out.2.2 _ HF.out.1.lo))))
          clear hK K hHelda16
          try simp only [Act.put, List.getElem_toArray, List.getElem_cons_zero, List.getElem_cons_succ, List.setIfInBounds_toArray, List.set_cons_zero, List.set_cons_succ]
          refine wpAnyH_ready (rs := [8]) (by kernel_rfl) (by simp) ?_
          refine AllReadyH.cons (o := _) rfl (fun K hK => ?_) AllReadyH.nil
          rw [if_pos (by rfl)]
          refine wp_append_rowN lenP oneP ucab (.tmp 28) (.tmp 33) 24 rfl wr.heap.size 63 (.agg #[.int .i64 0, .int .i64 0, .int .i64 0, .int .i64 0]) 32 Try.underlying24 info63r rfl (by decide) (by decide) (.slice B2 (s.tr).length c2) (s.tr) (s.tr).length rfl (by simp [Act.eval, Act.put]) (Fucab.out.2.1) (some ⟨b7, 0, none⟩) 1 1 [⟨oa, ok, op, ov⟩] (by simp [Act.eval, Act.put]) rfl (rd_blk encP 4 _ ⟨oa, ok, op, ov⟩ (Fucab.out.2.2)) (show (s.tr.length + 1) * 32 ≤ 140737488355328 by have := HS.out.2.2.2.2.1; omega) (Below.size (Fucab.out.1)) ((s.tr).length + 1) rfl ((s.tr) ++ [⟨oa, ok, op, ov⟩]) rfl ?_
          intro B8 c8 ucabd hA hB hL
          have Fucabd := Lib.hid (And.intro (Below.trans (Fucab.out.1) (Below.grown (Below.refl wr.heap.size ucab) hB (Below.size (Fucab.out.1)) (fun k hk => ((Own.blk (Fucab.out.2.1)) k hk).1))) (hA))
          clear hA hB hL
          refine hK.out _ _ ?_ (fun hHelda18 => ?_)
          · (try dsimp only); exact HY.out _ (Below.trans (HB.out.2.2 _ HF.out.1.lo) (Below.mono (Fucabd.out.1) (Below.size (HB.out.2.2 _ HF.out.1.lo))))
          clear hK K hHelda17
          try simp only [Act.put, List.getElem_toArray, List.getElem_cons_zero, List.getElem_cons_succ, List.setIfInBounds_toArray, List.set_cons_zero, List.set_cons_succ]
          refine wpAnyH_take (i := 9) (oi := _) (v := ?va19) rfl (by kernel_rfl) (by kernel_rfl) (by kernel_rfl) (fun _ _ _ h => h) (Or.inl ⟨by rfl, ?hya19⟩) (by assumption) ?resta19
          case hya19 => (intro w hSw; (try dsimp only at hSw); go_simp; all_goals with_reducible rfl)
          try simp only [Act.put, List.getElem_toArray, List.getElem_cons_zero, List.getElem_cons_succ, List.setIfInBounds_toArray, List.set_cons_zero, List.set_cons_succ]
          refine wpAnyH_done (by kernel_rfl) ?_ _
          go_wp2_with fail
          go_meet
          obtain ⟨hlo8, ht8⟩ := Fucabd.out
          exact ⟨B8, c8, rfl, (own_slice lenP ht8).2.2.1, hlo8⟩
        case rest =>
          obtain ⟨B0, c0, rfl, hR0, hb0⟩ := hcut
          have HN0 := Lib.hid (And.intro (HF.out.1.rest hb0) (And.intro hR0 hb0))
          clear hR0 hb0
          obtain ⟨gB, hgB⟩ : ∃ g, anK s ⟨oa, ok, op, ov⟩ L = g := ⟨_, rfl⟩
          have HGB := Lib.hid hgB
          clear hgB
          go_upto_block 2 with fail
          go_cut [7, 9, 10, 11, 12, 13] from 35 to 79 (fun v7 _ v10 _ _ _ wx => v10 = .bool gB ∧ FR w1 nB v7 (fe1 s ⟨oa, ok, op, ov⟩).tr wx)
          case first =>
            have hL0 : (0 : Int) ≤ (L : Int) := by omega
            go_wp2_with fail
            go_loopg [7, 9, 10, 11, 12, 13, 35, 36, 37, 38, 39, 40, 41, 42, 43, 44, 45, 46, 47, 48, 49, 50, 51, 52, 53, 54, 55, 56, 57, 58, 59, 60, 61, 62, 63, 64, 65, 66, 67, 68, 69, 70, 71, 72, 73, 74, 75, 76, 77, 78, 79] L (fun gk v7 v9 v10 v11 v12 v13 v35 v36 v37 v38 v39 v40 v41 v42 v43 v44 v45 v46 v47 v48 v49 v50 v51 v52 v53 v54 v55 v56 v57 v58 v59 v60 v61 v62 v63 v64 v65 v66 v67 v68 v69 v70 v71 v72 v73 v74 v75 v76 v77 v78 v79 wr => ∃ (al : Nat) (t : List Op), al + gk = L ∧ v11 = .int .i64 (al : Int) ∧ v10 = .bool (anK s ⟨oa, ok, op, ov⟩ al) ∧ (sK s ⟨oa, ok, op, ov⟩ al).tr = t ∧ FR w1 nB v7 t wr ∧ ∃ B cB, v9 = .slice B (t.length + 1) cB ∧ Rd encP 4 wr B (t ++ [⟨oa, ok, op, ov⟩]))
            case atStart => exact ⟨0, s.tr, by omega, rfl, rfl, rfl, HN0.out.1, B0, c0, rfl, HN0.out.2.1⟩
            case round =>
              obtain ⟨al, t, hal, rfl, rfl, ht, hf, B, cB, rfl, hRn⟩ := hrel
              obtain ⟨an, han⟩ : ∃ an, anK s ⟨oa, ok, op, ov⟩ al = an := ⟨_, rfl⟩
              rw [han]
              have xL := HB.out.1 _ hf.lo
              by_cases hlt2 : al < L
              · have hd2 : decide (al < L) = true := decide_eq_true hlt2
                have halI : (al : Int) < (L : Int) := by omega
                obtain ⟨O2, cO2, rfl, _, hrO2, _⟩ := hf.own.form lenP
                obtain ⟨bB, rfl, -⟩ := hRn.cell 0 (by simp)
                have htl : t.length ≤ 2008 := by rw [← ht]; have := sK_len s ⟨oa, ok, op, ov⟩ al; have := HS.out.2.2.2.2.1; omega
                have hsmt := hRn.small
                have hwK := wiK_all HS.out.1 HS.out.2.1 HS.out.2.2.2.1 al al
                rw [ht] at hwK
                have hsu := sK_succ s ⟨oa, ok, op, ov⟩ al
                have hanu := anK_succ s ⟨oa, ok, op, ov⟩ al
                rw [han] at hanu
                have HT := Lib.hid (And.intro hf (And.intro hRn (And.intro hwK (And.intro hsu (And.intro hanu (And.intro ht hrO2))))))
                obtain ⟨wq, hwq⟩ : ∃ wq : World, wq = wr := ⟨_, rfl⟩
                subst hwq
                clear hf hRn hwK hsu hanu ht hrO2 han
                go_wp2_with fail
                clear xL
                go_loopg [12, 13, 41, 42, 43, 44, 45, 46, 47, 48, 49, 50, 51, 52, 53, 54, 55, 56, 57, 58, 59, 60, 61, 62, 63, 64] t.length (fun gk v12 v13 v41 v42 v43 v44 v45 v46 v47 v48 v49 v50 v51 v52 v53 v54 v55 v56 v57 v58 v59 v60 v61 v62 v63 v64 wr => ∃ k : Nat, k + gk = t.length ∧ v13 = .int .i64 (k : Int) ∧ v12 = .bool (wiK t ⟨oa, ok, op, ov⟩ al k) ∧ Below wq.heap.size wq wr)
                case atStart => exact ⟨0, by omega, rfl, rfl, Below.refl _ _⟩
                case round =>
                  obtain ⟨k, hk, rfl, rfl, hb⟩ := hrel
                  by_cases hkt : k < t.length
                  · have hd3 : decide (k < t.length) = true := decide_eq_true hkt
                    have hkI : (k : Int) < (t.length : Int) := by omega
                    have hkI1 : (k : Int) < (t.length : Int) + 1 := by omega
                    have hkN1 : k < t.length + 1 := by omega
                    have hks := wiK_succ t ⟨oa, ok, op, ov⟩ al k
                    cases hw : wiK t ⟨oa, ok, op, ov⟩ al k with
                    | true =>
                      rw [hw, Bool.true_or] at hks
                      have HE := Lib.hid (And.intro hks hb)
                      clear hks hw hb
                      go_wp2_with fail
                      go_roundg (t.length - (k + 1))
                      case measure => omega
                      case rel => exact ⟨k + 1, by omega, by go_num, by rw [HE.out.1], HE.out.2⟩
                    | false =>
                      rw [hw, Bool.false_or] at hks
                      obtain ⟨bB', hbB', hcz⟩ := (HT.out.2.1.below hb).cell k (by simp; omega)
                      obtain rfl := Option.some.inj hbB'
                      rw [List.getElem_append_left hkt] at hcz
                      obtain ⟨z, hz⟩ : ∃ z, t[k] = z := ⟨_, rfl⟩
                      rw [hz] at hcz
                      rw [getD_at _ _ hkt, hz] at hks
                      obtain ⟨za, zk, zp, zv⟩ := z
                      simp only at hks
                      have r0 := hcz 0 _ rfl
                      rw [Nat.add_zero] at r0
                      by_cases hza : za = (al : Int)
                      · have b1 : (za == (al : Int)) = true := by simpa using hza
                        have hr := racesR_calls (t ++ [⟨oa, ok, op, ov⟩]) k t.length hkt (by simp) (some bB) cB wr (HT.out.2.1.below hb)
                        simp only [List.length_append, List.length_cons, List.length_nil, Nat.zero_add] at hr
                        rw [decide_eq_true hza, Bool.true_and] at hks
                        obtain ⟨rb, hrb⟩ : ∃ rb, racB (t ++ [⟨oa, ok, op, ov⟩]) k t.length = rb := ⟨_, rfl⟩
                        rw [hrb] at hr hks
                        have HR := Lib.hid hr
                        have HE := Lib.hid (And.intro hks hb)
                        clear hr hks hb hrb hza hcz hz hw
                        go_wp2_with ((with_reducible refine (HR.out).mono ?_); rintro e w2 ⟨rfl, hb2⟩; have H2 := Lib.hid (HE.out.2.trans (hb2.mono HE.out.2.size)); clear hb2)
                        go_roundg (t.length - (k + 1))
                        case measure => omega
                        case rel => exact ⟨k + 1, by omega, by go_num, by rw [HE.out.1], H2.out⟩
                      · have b1 : (za == (al : Int)) = false := by simpa using hza
                        rw [decide_eq_false hza, Bool.false_and] at hks
                        have HE := Lib.hid (And.intro hks hb)
                        clear hks hb hza hcz hz hw
                        go_wp2_with fail
                        go_roundg (t.length - (k + 1))
                        case measure => omega
                        case rel => exact ⟨k + 1, by omega, by go_num, by rw [HE.out.1], HE.out.2⟩
                  · have hd3 : decide (k < t.length) = false := decide_eq_false hkt
                    obtain rfl : k = t.length := by omega
                    rw [HT.out.2.2.1]
                    have HFq := Lib.hid (HT.out.1.rest hb)
                    have HRq := Lib.hid (HT.out.2.1.below hb)
                    clear hb
                    cases hw : wiB s ⟨oa, ok, op, ov⟩ al with
                    | false =>
                      have e1 := HT.out.2.2.2.1.trans (if_neg (by rw [hw]; simp))
                      have e2 := HT.out.2.2.2.2.1
                      rw [hw, Bool.or_false] at e2
                      have HE := Lib.hid (And.intro e1 e2)
                      clear e1 e2 hw
                      go_wp2_with fail
                      go_roundg (L - (al + 1))
                      case measure => omega
                      case rel => exact ⟨al + 1, t, by omega, by go_num, by rw [HE.out.2], by rw [HE.out.1]; exact HT.out.2.2.2.2.2.1, HFq.out, some bB, cB, rfl, HRq.out⟩
                    | true =>
                      have e1 := HT.out.2.2.2.1.trans (if_pos hw)
                      have e2 := HT.out.2.2.2.2.1
                      rw [hw, Bool.or_true] at e2
                      have HE := Lib.hid (And.intro e1 e2)
                      have hal8 : (t.length + 1) * 32 ≤ 140737488355328 := by omega
                      have HA8 := Lib.hid hal8
                      clear e1 e2 hw hal8
                      obtain ⟨wc7, hwc7⟩ : ∃ u, wr.alloc (.cells #[.int .i64 (al : Int), .int .i64 4, .int .i64 0, .int .i64 0] 63) = u := ⟨_, rfl⟩
                      have hbc7 : Below wr.heap.size wr wc7 := by rw [← hwc7]; exact (Below.refl _ _).alloc (Nat.le_refl _) _
                      have HC7 := Lib.hid (HFq.out.rest hbc7)
                      have HW7 := Lib.hid hwc7
                      have HRc := Lib.hid (rd_one encP 4 wr (⟨(al : Int), 4, 0, 0⟩ : Op) 63 #[.int .i64 (al : Int), .int .i64 4, .int .i64 0, .int .i64 0] rfl _ rfl)
                      clear hwc7 hbc7
                      go_upto_region 21 with (at_builtin; go_must (refine wpList_append_told lenP oneP _ rfl (.tmp 66) (.tmp 69) 24 rfl nB 63 _ 32 Try.underlying24 info63r rfl (by decide) (by decide) (.slice O2 t.length cO2) t t.length rfl rfl (by rw [HW7.out]; exact HC7.out.own) ⟨wr.heap.size, 0, none⟩ 1 1 [⟨(al : Int), 4, 0, 0⟩] rfl rfl (by decide) HRc.out HA8.out (by rw [HW7.out]; exact HC7.out.sz) ?_); intro g3 cap3 w7 hown7 hgr7 hl7; rw [HW7.out] at hgr7; have H7 := Lib.hid (HC7.out.app hown7 hgr7); clear hown7 hgr7 hl7)
                      have htl7 : (sK s ⟨oa, ok, op, ov⟩ (al + 1)).tr = t ++ [⟨(al : Int), 4, 0, 0⟩] := by rw [HE.out.1]; show (sK s ⟨oa, ok, op, ov⟩ al).tr ++ [relO al] = _; rw [HT.out.2.2.2.2.2.1]; rfl
                      have HTL := Lib.hid htl7
                      have hrd7 : Rd encP 4 w7 (some ⟨g3, 0, none⟩) (t ++ [⟨(al : Int), 4, 0, 0⟩]) := (own_slice lenP H7.out.own).2.2.1
                      have HRD := Lib.hid hrd7
                      obtain ⟨xs7, hxs7⟩ : ∃ xs, t ++ [⟨(al : Int), 4, 0, 0⟩] = xs := ⟨_, rfl⟩
                      have hxl7 : t.length + 1 = xs7.length := by rw [← hxs7]; simp
                      rw [hxs7] at H7 HRD HTL
                      rw [hxl7]
                      rw [hxl7] at H7
                      have hb7 : (xs7.length + 1) * 32 ≤ 140737488355328 := by omega
                      have HB7 := Lib.hid hb7
                      clear htl7 hrd7 hxs7 hb7
                      refine wp_region_held_drew (S := (fun w' => w'.cell? (a.add (i * 4)) = some (.int .i64 oa) ∧ w'.cell? ⟨(a.add (i * 4)).block, (a.add (i * 4)).off + 1, none⟩ = some (.int .i64 ok) ∧ w'.cell? ⟨(a.add (i * 4)).block, (a.add (i * 4)).off + 2, none⟩ = some (.int .i64 op) ∧ w'.cell? ⟨(a.add (i * 4)).block, (a.add (i * 4)).off + 3, none⟩ = some (.int .i64 ov))) (by kernel_rfl) ?_ (fun hHeldb => ?_)
                      · (try dsimp only); exact HY.out _ (Below.trans (HB.out.2.2 _ H7.out.lo) ((bb_drew (Below.refl _ _)).mono (Below.size (HB.out.2.2 _ H7.out.lo))))
                      obtain ⟨wd, hwd⟩ : ∃ u, w7.drew = u := ⟨_, rfl⟩
                      have F0 := Lib.hid (show Below w7.heap.size w7 wd by rw [← hwd]; exact bb_drew (Below.refl _ _))
                      rw [hwd]
                      rw [hwd] at hHeldb
                      clear hwd
                      refine wpAnyH_take (i := 1) (oi := _) (v := ?vb1) rfl (by kernel_rfl) (by kernel_rfl) (by kernel_rfl) (fun _ _ _ h => h) (Or.inl ⟨by rfl, ?hyb1⟩) (by assumption) ?restb1
                      case hyb1 => (intro w hSw; (try dsimp only at hSw); go_simp; all_goals with_reducible rfl)
                      try simp only [Act.put, List.getElem_toArray, List.getElem_cons_zero, List.getElem_cons_succ, List.setIfInBounds_toArray, List.set_cons_zero, List.set_cons_succ]
                      refine wpAnyH_take (i := 3) (oi := _) (v := ?vb2) rfl (by kernel_rfl) (by kernel_rfl) (by kernel_rfl) (fun _ _ _ h => h) (Or.inl ⟨by rfl, ?hyb2⟩) (by assumption) ?restb2
                      case hyb2 => (intro w hSw; (try dsimp only at hSw); go_simp; all_goals with_reducible rfl)
                      try simp only [Act.put, List.getElem_toArray, List.getElem_cons_zero, List.getElem_cons_succ, List.setIfInBounds_toArray, List.set_cons_zero, List.set_cons_succ]
                      refine wpAnyH_take (i := 4) (oi := _) (v := ?vb3) rfl (by kernel_rfl) (by kernel_rfl) (by kernel_rfl) (fun _ _ _ h => h) (Or.inl ⟨by rfl, ?hyb3⟩) (by assumption) ?restb3
                      case hyb3 => (intro w hSw; (try dsimp only at hSw); go_simp; all_goals with_reducible rfl)
                      try simp only [Act.put, List.getElem_toArray, List.getElem_cons_zero, List.getElem_cons_succ, List.setIfInBounds_toArray, List.set_cons_zero, List.set_cons_succ]
                      refine wpAnyH_take (i := 5) (oi := _) (v := ?vb4) rfl (by kernel_rfl) (by kernel_rfl) (by kernel_rfl) (fun _ _ _ h => h) (Or.inl ⟨by rfl, ?hyb4⟩) (by assumption) ?restb4
                      case hyb4 => (intro w hSw; (try dsimp only at hSw); go_simp; all_goals with_reducible rfl)
                      try simp only [Act.put, List.getElem_toArray, List.getElem_cons_zero, List.getElem_cons_succ, List.setIfInBounds_toArray, List.set_cons_zero, List.set_cons_succ]
                      refine wpAnyH_take (i := 6) (oi := _) (v := ?vb5) rfl (by kernel_rfl) (by kernel_rfl) (by kernel_rfl) (fun _ _ _ h => h) (Or.inl ⟨by rfl, ?hyb5⟩) (by assumption) ?restb5
                      case hyb5 => (intro w hSw; (try dsimp only at hSw); go_simp; all_goals with_reducible rfl)
                      try simp only [Act.put, List.getElem_toArray, List.getElem_cons_zero, List.getElem_cons_succ, List.setIfInBounds_toArray, List.set_cons_zero, List.set_cons_succ]
                      refine wpAnyH_ready (rs := [0, 7]) (by kernel_rfl) (by simp) ?_
                      refine AllReadyH.cons (o := _) rfl (fun K hK => ?_) ?_
                      · go_simp
                        obtain ⟨ua, hu⟩ : ∃ u, wd.alloc (.cells #[] 63) = u := ⟨_, rfl⟩
                        have hbu : Below wd.heap.size wd ua := by rw [← hu]; exact (Below.refl _ _).alloc (Nat.le_refl _) _
                        have hox : Own encP 4 63 ua w7.heap.size (.slice (some ⟨wd.heap.size, 0, none⟩) 0 0) [] := by rw [← hu]; exact Own.empty _ _ _ _ _ (Below.size (F0.out))
                        obtain ⟨g0, hnb⟩ : ∃ nb, wd.heap.size = nb := ⟨_, rfl⟩
                        rw [hu]
                        try rw [hnb]
                        rw [hnb] at hox
                        have Fua := Lib.hid (And.intro (Below.trans (F0.out) (Below.mono hbu (Below.size (F0.out)))) (hox))
                        clear hu hbu hox hnb
                        refine hK.out _ _ ?_ (fun hHeldb6 => ?_)
                        · (try dsimp only); exact HY.out _ (Below.trans (HB.out.2.2 _ H7.out.lo) (Below.mono (Fua.out.1) (Below.size (HB.out.2.2 _ H7.out.lo))))
                        clear hK K hHeldb
                        try simp only [Act.put, List.getElem_toArray, List.getElem_cons_zero, List.getElem_cons_succ, List.setIfInBounds_toArray, List.set_cons_zero, List.set_cons_succ]
                        refine wpAnyH_ready (rs := [2, 7]) (by kernel_rfl) (by simp) ?_
                        refine AllReadyH.cons (o := _) rfl (fun K hK => ?_) ?_
                        · rw [if_pos (by rfl)]
                          refine wp_append_rowN lenP oneP ua (.tmp 71) (.tmp 72) 24 rfl w7.heap.size 63 (.agg #[.int .i64 0, .int .i64 0, .int .i64 0, .int .i64 0]) 32 Try.underlying24 info63r rfl (by decide) (by decide) (.slice (some ⟨g0, 0, none⟩) 0 0) [] 0 rfl (by simp [Act.eval, Act.put]) (Fua.out.2) (some ⟨g3, 0, none⟩) (xs7).length cap3 (xs7) (by simp [Act.eval, Act.put]) rfl (Rd.below HRD.out (Fua.out.1)) (by have := HB7.out; omega) (Below.size (Fua.out.1)) (xs7).length (Nat.zero_add _) (xs7) rfl ?_
                          intro B2 c2 uab hA hB hL
                          have Fuab := Lib.hid (And.intro (Below.trans (Fua.out.1) (Below.grown (Below.refl w7.heap.size ua) hB (Below.size (Fua.out.1)) (fun k hk => ((Own.blk (Fua.out.2)) k hk).1))) (hA))
                          clear hA hB hL
                          refine hK.out _ _ ?_ (fun hHeldb7 => ?_)
                          · (try dsimp only); exact HY.out _ (Below.trans (HB.out.2.2 _ H7.out.lo) (Below.mono (Fuab.out.1) (Below.size (HB.out.2.2 _ H7.out.lo))))
                          clear hK K hHeldb6
                          try simp only [Act.put, List.getElem_toArray, List.getElem_cons_zero, List.getElem_cons_succ, List.setIfInBounds_toArray, List.set_cons_zero, List.set_cons_succ]
                          refine wpAnyH_ready (rs := [7]) (by kernel_rfl) (by simp) ?_
                          refine AllReadyH.cons (o := _) rfl (fun K hK => ?_) AllReadyH.nil
                          go_simp
                          obtain ⟨uabc, hu⟩ : ∃ u, uab.alloc (.cells #[.int .i64 oa, .int .i64 ok, .int .i64 op, .int .i64 ov] 63) = u := ⟨_, rfl⟩
                          have hbu : Below uab.heap.size uab uabc := by rw [← hu]; exact (Below.refl _ _).alloc (Nat.le_refl _) _
                          have hox : uabc.heap[uab.heap.size]? = some (.cells #[.int .i64 oa, .int .i64 ok, .int .i64 op, .int .i64 ov] 63 (0, 0)) := by rw [← hu]; exact Go.heap_alloc_new _ _
                          obtain ⟨b7, hnb⟩ : ∃ nb, uab.heap.size = nb := ⟨_, rfl⟩
                          rw [hu]
                          try rw [hnb]
                          rw [hnb] at hox
                          have Fuabc := Lib.hid (And.intro (Below.trans (Fuab.out.1) (Below.mono hbu (Below.size (Fuab.out.1)))) (And.intro (Own.rest (Fuab.out.2) hbu) (hox)))
                          clear hu hbu hox hnb
                          refine hK.out _ _ ?_ (fun hHeldb8 => ?_)
                          · (try dsimp only); exact HY.out _ (Below.trans (HB.out.2.2 _ H7.out.lo) (Below.mono (Fuabc.out.1) (Below.size (HB.out.2.2 _ H7.out.lo))))
                          clear hK K hHeldb7
                          try simp only [Act.put, List.getElem_toArray, List.getElem_cons_zero, List.getElem_cons_succ, List.setIfInBounds_toArray, List.set_cons_zero, List.set_cons_succ]
                          refine wpAnyH_ready (rs := [8]) (by kernel_rfl) (by simp) ?_
                          refine AllReadyH.cons (o := _) rfl (fun K hK => ?_) AllReadyH.nil
                          rw [if_pos (by rfl)]
                          refine wp_append_rowN lenP oneP uabc (.tmp 73) (.tmp 78) 24 rfl w7.heap.size 63 (.agg #[.int .i64 0, .int .i64 0, .int .i64 0, .int .i64 0]) 32 Try.underlying24 info63r rfl (by decide) (by decide) (.slice B2 (xs7).length c2) (xs7) (xs7).length rfl (by simp [Act.eval, Act.put]) (Fuabc.out.2.1) (some ⟨b7, 0, none⟩) 1 1 [⟨oa, ok, op, ov⟩] (by simp [Act.eval, Act.put]) rfl (rd_blk encP 4 _ ⟨oa, ok, op, ov⟩ (Fuabc.out.2.2)) HB7.out (Below.size (Fuabc.out.1)) ((xs7).length + 1) rfl ((xs7) ++ [⟨oa, ok, op, ov⟩]) rfl ?_
                          intro B8 c8 uabcd hA hB hL
                          have Fuabcd := Lib.hid (And.intro (Below.trans (Fuabc.out.1) (Below.grown (Below.refl w7.heap.size uabc) hB (Below.size (Fuabc.out.1)) (fun k hk => ((Own.blk (Fuabc.out.2.1)) k hk).1))) (hA))
                          clear hA hB hL
                          refine hK.out _ _ ?_ (fun hHeldb9 => ?_)
                          · (try dsimp only); exact HY.out _ (Below.trans (HB.out.2.2 _ H7.out.lo) (Below.mono (Fuabcd.out.1) (Below.size (HB.out.2.2 _ H7.out.lo))))
                          clear hK K hHeldb8
                          try simp only [Act.put, List.getElem_toArray, List.getElem_cons_zero, List.getElem_cons_succ, List.setIfInBounds_toArray, List.set_cons_zero, List.set_cons_succ]
                          refine wpAnyH_take (i := 9) (oi := _) (v := ?vb10) rfl (by kernel_rfl) (by kernel_rfl) (by kernel_rfl) (fun _ _ _ h => h) (Or.inl ⟨by rfl, ?hyb10⟩) (by assumption) ?restb10
                          case hyb10 => (intro w hSw; (try dsimp only at hSw); go_simp; all_goals with_reducible rfl)
                          try simp only [Act.put, List.getElem_toArray, List.getElem_cons_zero, List.getElem_cons_succ, List.setIfInBounds_toArray, List.set_cons_zero, List.set_cons_succ]
                          refine wpAnyH_done (by kernel_rfl) ?_ _
                          obtain ⟨hlo8, ht8⟩ := Fuabcd.out
                          have HR9 := Lib.hid (And.intro (own_slice lenP ht8).2.2.1 (H7.out.rest hlo8))
                          clear hlo8 ht8
                          go_wp2_with fail
                          go_roundg (L - (al + 1))
                          case measure => omega
                          case rel => exact ⟨al + 1, xs7, by omega, by go_num, by rw [HE.out.2], HTL.out, HR9.out.2, B8, c8, rfl, HR9.out.1⟩
                        refine AllReadyH.cons (o := _) rfl (fun K hK => ?_) AllReadyH.nil
                        go_simp
                        obtain ⟨uac, hu⟩ : ∃ u, ua.alloc (.cells #[.int .i64 oa, .int .i64 ok, .int .i64 op, .int .i64 ov] 63) = u := ⟨_, rfl⟩
                        have hbu : Below ua.heap.size ua uac := by rw [← hu]; exact (Below.refl _ _).alloc (Nat.le_refl _) _
                        have hox : uac.heap[ua.heap.size]? = some (.cells #[.int .i64 oa, .int .i64 ok, .int .i64 op, .int .i64 ov] 63 (0, 0)) := by rw [← hu]; exact Go.heap_alloc_new _ _
                        obtain ⟨b7, hnb⟩ : ∃ nb, ua.heap.size = nb := ⟨_, rfl⟩
                        rw [hu]
                        try rw [hnb]
                        rw [hnb] at hox
                        have Fuac := Lib.hid (And.intro (Below.trans (Fua.out.1) (Below.mono hbu (Below.size (Fua.out.1)))) (And.intro (Own.rest (Fua.out.2) hbu) (And.intro (hox) (show g0 ≠ b7 from Nat.ne_of_lt (by rw [← hnb]; exact ((Own.blk (Fua.out.2)) g0 rfl).2.1)))))
                        clear hu hbu hox hnb
                        refine hK.out _ _ ?_ (fun hHeldb11 => ?_)
                        · (try dsimp only); exact HY.out _ (Below.trans (HB.out.2.2 _ H7.out.lo) (Below.mono (Fuac.out.1) (Below.size (HB.out.2.2 _ H7.out.lo))))
                        clear hK K hHeldb6
                        try simp only [Act.put, List.getElem_toArray, List.getElem_cons_zero, List.getElem_cons_succ, List.setIfInBounds_toArray, List.set_cons_zero, List.set_cons_succ]
                        refine wpAnyH_ready (rs := [2]) (by kernel_rfl) (by simp) ?_
                        refine AllReadyH.cons (o := _) rfl (fun K hK => ?_) AllReadyH.nil
                        rw [if_pos (by rfl)]
                        refine wp_append_rowN lenP oneP uac (.tmp 71) (.tmp 72) 24 rfl w7.heap.size 63 (.agg #[.int .i64 0, .int .i64 0, .int .i64 0, .int .i64 0]) 32 Try.underlying24 info63r rfl (by decide) (by decide) (.slice (some ⟨g0, 0, none⟩) 0 0) [] 0 rfl (by simp [Act.eval, Act.put]) (Fuac.out.2.1) (some ⟨g3, 0, none⟩) (xs7).length cap3 (xs7) (by simp [Act.eval, Act.put]) rfl (Rd.below HRD.out (Fuac.out.1)) (by have := HB7.out; omega) (Below.size (Fuac.out.1)) (xs7).length (Nat.zero_add _) (xs7) rfl ?_
                        intro B2 c2 uacb hA hB hL
                        have Fuacb := Lib.hid (And.intro (Below.trans (Fuac.out.1) (Below.grown (Below.refl w7.heap.size uac) hB (Below.size (Fuac.out.1)) (fun k hk => ((Own.blk (Fuac.out.2.1)) k hk).1))) (And.intro (hA) ((hB.block _ (blk_lt (Fuac.out.2.2.1)) (fun e => (Fuac.out.2.2.2) (by simpa [Value.ownBlock] using e.symm))).trans (Fuac.out.2.2.1))))
                        clear hA hB hL
                        refine hK.out _ _ ?_ (fun hHeldb12 => ?_)
                        · (try dsimp only); exact HY.out _ (Below.trans (HB.out.2.2 _ H7.out.lo) (Below.mono (Fuacb.out.1) (Below.size (HB.out.2.2 _ H7.out.lo))))
                        clear hK K hHeldb11
                        try simp only [Act.put, List.getElem_toArray, List.getElem_cons_zero, List.getElem_cons_succ, List.setIfInBounds_toArray, List.set_cons_zero, List.set_cons_succ]
                        refine wpAnyH_ready (rs := [8]) (by kernel_rfl) (by simp) ?_
                        refine AllReadyH.cons (o := _) rfl (fun K hK => ?_) AllReadyH.nil
                        rw [if_pos (by rfl)]
                        refine wp_append_rowN lenP oneP uacb (.tmp 73) (.tmp 78) 24 rfl w7.heap.size 63 (.agg #[.int .i64 0, .int .i64 0, .int .i64 0, .int .i64 0]) 32 Try.underlying24 info63r rfl (by decide) (by decide) (.slice B2 (xs7).length c2) (xs7) (xs7).length rfl (by simp [Act.eval, Act.put]) (Fuacb.out.2.1) (some ⟨b7, 0, none⟩) 1 1 [⟨oa, ok, op, ov⟩] (by simp [Act.eval, Act.put]) rfl (rd_blk encP 4 _ ⟨oa, ok, op, ov⟩ (Fuacb.out.2.2)) HB7.out (Below.size (Fuacb.out.1)) ((xs7).length + 1) rfl ((xs7) ++ [⟨oa, ok, op, ov⟩]) rfl ?_
                        intro B8 c8 uacbd hA hB hL
                        have Fuacbd := Lib.hid (And.intro (Below.trans (Fuacb.out.1) (Below.grown (Below.refl w7.heap.size uacb) hB (Below.size (Fuacb.out.1)) (fun k hk => ((Own.blk (Fuacb.out.2.1)) k hk).1))) (hA))
                        clear hA hB hL
                        refine hK.out _ _ ?_ (fun hHeldb13 => ?_)
                        · (try dsimp only); exact HY.out _ (Below.trans (HB.out.2.2 _ H7.out.lo) (Below.mono (Fuacbd.out.1) (Below.size (HB.out.2.2 _ H7.out.lo))))
                        clear hK K hHeldb12
                        try simp only [Act.put, List.getElem_toArray, List.getElem_cons_zero, List.getElem_cons_succ, List.setIfInBounds_toArray, List.set_cons_zero, List.set_cons_succ]
                        refine wpAnyH_take (i := 9) (oi := _) (v := ?vb14) rfl (by kernel_rfl) (by kernel_rfl) (by kernel_rfl) (fun _ _ _ h => h) (Or.inl ⟨by rfl, ?hyb14⟩) (by assumption) ?restb14
                        case hyb14 => (intro w hSw; (try dsimp only at hSw); go_simp; all_goals with_reducible rfl)
                        try simp only [Act.put, List.getElem_toArray, List.getElem_cons_zero, List.getElem_cons_succ, List.setIfInBounds_toArray, List.set_cons_zero, List.set_cons_succ]
                        refine wpAnyH_done (by kernel_rfl) ?_ _
                        obtain ⟨hlo8, ht8⟩ := Fuacbd.out
                        have HR9 := Lib.hid (And.intro (own_slice lenP ht8).2.2.1 (H7.out.rest hlo8))
                        clear hlo8 ht8
                        go_wp2_with fail
                        go_roundg (L - (al + 1))
                        case measure => omega
                        case rel => exact ⟨al + 1, xs7, by omega, by go_num, by rw [HE.out.2], HTL.out, HR9.out.2, B8, c8, rfl, HR9.out.1⟩
                      refine AllReadyH.cons (o := _) rfl (fun K hK => ?_) AllReadyH.nil
                      go_simp
                      obtain ⟨uc, hu⟩ : ∃ u, wd.alloc (.cells #[.int .i64 oa, .int .i64 ok, .int .i64 op, .int .i64 ov] 63) = u := ⟨_, rfl⟩
                      have hbu : Below wd.heap.size wd uc := by rw [← hu]; exact (Below.refl _ _).alloc (Nat.le_refl _) _
                      have hox : uc.heap[wd.heap.size]? = some (.cells #[.int .i64 oa, .int .i64 ok, .int .i64 op, .int .i64 ov] 63 (0, 0)) := by rw [← hu]; exact Go.heap_alloc_new _ _
                      obtain ⟨b7, hnb⟩ : ∃ nb, wd.heap.size = nb := ⟨_, rfl⟩
                      rw [hu]
                      try rw [hnb]
                      rw [hnb] at hox
                      have Fuc := Lib.hid (And.intro (Below.trans (F0.out) (Below.mono hbu (Below.size (F0.out)))) (hox))
                      clear hu hbu hox hnb
                      refine hK.out _ _ ?_ (fun hHeldb15 => ?_)
                      · (try dsimp only); exact HY.out _ (Below.trans (HB.out.2.2 _ H7.out.lo) (Below.mono (Fuc.out.1) (Below.size (HB.out.2.2 _ H7.out.lo))))
                      clear hK K hHeldb
                      try simp only [Act.put, List.getElem_toArray, List.getElem_cons_zero, List.getElem_cons_succ, List.setIfInBounds_toArray, List.set_cons_zero, List.set_cons_succ]
                      refine wpAnyH_ready (rs := [0]) (by kernel_rfl) (by simp) ?_
                      refine AllReadyH.cons (o := _) rfl (fun K hK => ?_) AllReadyH.nil
                      go_simp
                      obtain ⟨uca, hu⟩ : ∃ u, uc.alloc (.cells #[] 63) = u := ⟨_, rfl⟩
                      have hbu : Below uc.heap.size uc uca := by rw [← hu]; exact (Below.refl _ _).alloc (Nat.le_refl _) _
                      have hox : Own encP 4 63 uca w7.heap.size (.slice (some ⟨uc.heap.size, 0, none⟩) 0 0) [] := by rw [← hu]; exact Own.empty _ _ _ _ _ (Below.size (Fuc.out.1))
                      obtain ⟨g0, hnb⟩ : ∃ nb, uc.heap.size = nb := ⟨_, rfl⟩
                      rw [hu]
                      try rw [hnb]
                      rw [hnb] at hox
                      have Fuca := Lib.hid (And.intro (Below.trans (Fuc.out.1) (Below.mono hbu (Below.size (Fuc.out.1)))) (And.intro (hox) (And.intro ((hbu.block _ (blk_lt (Fuc.out.2))).trans (Fuc.out.2)) (show g0 ≠ b7 from Nat.ne_of_gt (by rw [← hnb]; exact blk_lt (Fuc.out.2))))))
                      clear hu hbu hox hnb
                      refine hK.out _ _ ?_ (fun hHeldb16 => ?_)
                      · (try dsimp only); exact HY.out _ (Below.trans (HB.out.2.2 _ H7.out.lo) (Below.mono (Fuca.out.1) (Below.size (HB.out.2.2 _ H7.out.lo))))
                      clear hK K hHeldb15
                      try simp only [Act.put, List.getElem_toArray, List.getElem_cons_zero, List.getElem_cons_succ, List.setIfInBounds_toArray, List.set_cons_zero, List.set_cons_succ]
                      refine wpAnyH_ready (rs := [2]) (by kernel_rfl) (by simp) ?_
                      refine AllReadyH.cons (o := _) rfl (fun K hK => ?_) AllReadyH.nil
                      rw [if_pos (by rfl)]
                      refine wp_append_rowN lenP oneP uca (.tmp 71) (.tmp 72) 24 rfl w7.heap.size 63 (.agg #[.int .i64 0, .int .i64 0, .int .i64 0, .int .i64 0]) 32 Try.underlying24 info63r rfl (by decide) (by decide) (.slice (some ⟨g0, 0, none⟩) 0 0) [] 0 rfl (by simp [Act.eval, Act.put]) (Fuca.out.2.1) (some ⟨g3, 0, none⟩) (xs7).length cap3 (xs7) (by simp [Act.eval, Act.put]) rfl (Rd.below HRD.out (Fuca.out.1)) (by have := HB7.out; omega) (Below.size (Fuca.out.1)) (xs7).length (Nat.zero_add _) (xs7) rfl ?_
                      intro B2 c2 ucab hA hB hL
                      have Fucab := Lib.hid (And.intro (Below.trans (Fuca.out.1) (Below.grown (Below.refl w7.heap.size uca) hB (Below.size (Fuca.out.1)) (fun k hk => ((Own.blk (Fuca.out.2.1)) k hk).1))) (And.intro (hA) ((hB.block _ (blk_lt (Fuca.out.2.2.1)) (fun e => (Fuca.out.2.2.2) (by simpa [Value.ownBlock] using e.symm))).trans (Fuca.out.2.2.1))))
                      clear hA hB hL
                      refine hK.out _ _ ?_ (fun hHeldb17 => ?_)
                      · (try dsimp only); exact HY.out _ (Below.trans (HB.out.2.2 _ H7.out.lo) (Below.mono (Fucab.out.1) (Below.size (HB.out.2.2 _ H7.out.lo))))
                      clear hK K hHeldb16
                      try simp only [Act.put, List.getElem_toArray, List.getElem_cons_zero, List.getElem_cons_succ, List.setIfInBounds_toArray, List.set_cons_zero, List.set_cons_succ]
                      refine wpAnyH_ready (rs := [8]) (by kernel_rfl) (by simp) ?_
                      refine AllReadyH.cons (o := _) rfl (fun K hK => ?_) AllReadyH.nil
                      rw [if_pos (by rfl)]
                      refine wp_append_rowN lenP oneP ucab (.tmp 73) (.tmp 78) 24 rfl w7.heap.size 63 (.agg #[.int .i64 0, .int .i64 0, .int .i64 0, .int .i64 0]) 32 Try.underlying24 info63r rfl (by decide) (by decide) (.slice B2 (xs7).length c2) (xs7) (xs7).length rfl (by simp [Act.eval, Act.put]) (Fucab.out.2.1) (some ⟨b7, 0, none⟩) 1 1 [⟨oa, ok, op, ov⟩] (by simp [Act.eval, Act.put]) rfl (rd_blk encP 4 _ ⟨oa, ok, op, ov⟩ (Fucab.out.2.2)) HB7.out (Below.size (Fucab.out.1)) ((xs7).length + 1) rfl ((xs7) ++ [⟨oa, ok, op, ov⟩]) rfl ?_
                      intro B8 c8 ucabd hA hB hL
                      have Fucabd := Lib.hid (And.intro (Below.trans (Fucab.out.1) (Below.grown (Below.refl w7.heap.size ucab) hB (Below.size (Fucab.out.1)) (fun k hk => ((Own.blk (Fucab.out.2.1)) k hk).1))) (hA))
                      clear hA hB hL
                      refine hK.out _ _ ?_ (fun hHeldb18 => ?_)
                      · (try dsimp only); exact HY.out _ (Below.trans (HB.out.2.2 _ H7.out.lo) (Below.mono (Fucabd.out.1) (Below.size (HB.out.2.2 _ H7.out.lo))))
                      clear hK K hHeldb17
                      try simp only [Act.put, List.getElem_toArray, List.getElem_cons_zero, List.getElem_cons_succ, List.setIfInBounds_toArray, List.set_cons_zero, List.set_cons_succ]
                      refine wpAnyH_take (i := 9) (oi := _) (v := ?vb19) rfl (by kernel_rfl) (by kernel_rfl) (by kernel_rfl) (fun _ _ _ h => h) (Or.inl ⟨by rfl, ?hyb19⟩) (by assumption) ?restb19
                      case hyb19 => (intro w hSw; (try dsimp only at hSw); go_simp; all_goals with_reducible rfl)
                      try simp only [Act.put, List.getElem_toArray, List.getElem_cons_zero, List.getElem_cons_succ, List.setIfInBounds_toArray, List.set_cons_zero, List.set_cons_succ]
                      refine wpAnyH_done (by kernel_rfl) ?_ _
                      obtain ⟨hlo8, ht8⟩ := Fucabd.out
                      have HR9 := Lib.hid (And.intro (own_slice lenP ht8).2.2.1 (H7.out.rest hlo8))
                      clear hlo8 ht8
                      go_wp2_with fail
                      go_roundg (L - (al + 1))
                      case measure => omega
                      case rel => exact ⟨al + 1, xs7, by omega, by go_num, by rw [HE.out.2], HTL.out, HR9.out.2, B8, c8, rfl, HR9.out.1⟩
              · have hd2 : decide (al < L) = false := decide_eq_false hlt2
                obtain rfl : al = L := by omega
                have hfe1 := fe1_sK HS.out.2.2.1 (o := ⟨oa, ok, op, ov⟩) HG.out.2.2.1 hL8
                have HE := Lib.hid (And.intro hf (And.intro ht (And.intro hfe1 han)))
                clear hf ht hfe1 han hRn
                go_wp2_with fail
                go_meet
                exact ⟨by rw [← HGB.out, HE.out.2.2.2], by rw [HE.out.2.2.1, HE.out.2.1]; exact HE.out.1⟩
          case rest =>
            obtain ⟨rfl, hf1⟩ := hcut
            obtain ⟨O3, cO3, rfl, _, _, _⟩ := hf1.own.form lenP
            have hn2 : (fe1 s ⟨oa, ok, op, ov⟩).tr.length ≤ 2008 := by rw [fe1_sK HS.out.2.2.1 (o := ⟨oa, ok, op, ov⟩) HG.out.2.2.1 hL8]; have := sK_len s ⟨oa, ok, op, ov⟩ L; have := HS.out.2.2.2.2.1; omega
            have HF1 := Lib.hid hf1
            have HN2 := Lib.hid (show ((fe1 s ⟨oa, ok, op, ov⟩).tr.length + 1) * 32 ≤ 140737488355328 by omega)
            clear hf1 hn2
            go_upto_if 80 with fail
            go_cut [7] from 81 to 89 (fun v7 wx => FR w1 nB v7 (fe2 s ⟨oa, ok, op, ov⟩).tr wx)
            case first =>
              cases gB with
              | false =>
                have he : fe2 s ⟨oa, ok, op, ov⟩ = fe1 s ⟨oa, ok, op, ov⟩ := by
                  unfold fe2
                  exact if_neg (fun h => by have := (anK_all HS.out.2.2.1 HG.out.2.2.1).2 h; rw [HGB.out] at this; cases this)
                have HE := Lib.hid he
                clear he
                go_wp2_with fail
                go_meet
                rw [HE.out]
                exact HF1.out
              | true =>
                have he : (fe2 s ⟨oa, ok, op, ov⟩).tr = (fe1 s ⟨oa, ok, op, ov⟩).tr ++ [⟨oa, 3, 0, 0⟩] := by
                  unfold fe2
                  rw [if_pos ((anK_all HS.out.2.2.1 HG.out.2.2.1).1 HGB.out)]
                  rfl
                have HE := Lib.hid he
                obtain ⟨r0, -, -, -⟩ := HY.out wc (HB.out.2.2 _ HF1.out.lo)
                obtain ⟨wc7, hwc7⟩ : ∃ u, wc.alloc (.cells #[.int .i64 oa, .int .i64 3, .int .i64 0, .int .i64 0] 63) = u := ⟨_, rfl⟩
                have hbc7 : Below wc.heap.size wc wc7 := by rw [← hwc7]; exact (Below.refl _ _).alloc (Nat.le_refl _) _
                have HC7 := Lib.hid (HF1.out.rest hbc7)
                have HW7 := Lib.hid hwc7
                have HRc := Lib.hid (rd_one encP 4 wc (⟨oa, 3, 0, 0⟩ : Op) 63 #[.int .i64 oa, .int .i64 3, .int .i64 0, .int .i64 0] rfl _ rfl)
                clear hwc7 hbc7 he
                go_wp2_with (at_builtin; go_must (refine wpList_append_told lenP oneP _ rfl (.tmp 81) (.tmp 88) 24 rfl nB 63 _ 32 Try.underlying24 info63r rfl (by decide) (by decide) (.slice O3 (fe1 s ⟨oa, ok, op, ov⟩).tr.length cO3) (fe1 s ⟨oa, ok, op, ov⟩).tr (fe1 s ⟨oa, ok, op, ov⟩).tr.length rfl rfl (by rw [HW7.out]; exact HC7.out.own) ⟨wc.heap.size, 0, none⟩ 1 1 [⟨oa, 3, 0, 0⟩] rfl rfl (by decide) HRc.out HN2.out (by rw [HW7.out]; exact HC7.out.sz) ?_); intro g3 cap3 w7 hown7 hgr7 hl7; rw [HW7.out] at hgr7; have H7 := Lib.hid (HC7.out.app hown7 hgr7); clear hown7 hgr7 hl7)
                go_meet
                rw [HE.out]
                exact H7.out
            case rest =>
              have hf2 := hcut
              obtain ⟨O4, cO4, rfl, _, _, _⟩ := hf2.own.form lenP
              have hn3 : (fe2 s ⟨oa, ok, op, ov⟩).tr.length + 1 ≤ 2000 := by
                have := HS.out.2.2.2.2.2.2
                simpa [feS, addF] using this
              have hfe : (fnF (l.take (i + 1))).tr = (fe2 s ⟨oa, ok, op, ov⟩).tr ++ [⟨oa, ok, op, ov⟩] := by rw [HS.out.2.2.2.2.2.1]; rfl
              obtain ⟨wc', hwc'⟩ : ∃ u : World, u = wc := ⟨_, rfl⟩
              have HFE := Lib.hid hfe
              have HF2 := Lib.hid hf2
              have hxl : ∃ xs, (fe2 s ⟨oa, ok, op, ov⟩).tr = xs := ⟨_, rfl⟩
              obtain ⟨xs, hxs⟩ := hxl
              rw [hxs] at HF2 HFE hn3
              rw [hxs]
              have HN3 := Lib.hid (show (xs.length + 1) * 32 ≤ 140737488355328 by omega)
              have hgt : decide (2000 < xs.length + 1) = false := decide_eq_false (by omega)
              have hgtI : ¬ ((2000 : Int) < (xs.length : Int) + 1) := by omega
              clear hf2 hfe hcut hxs hwc'
              obtain ⟨r0, r1, r2, r3⟩ := HY.out _ (HB.out.2.2 _ HF2.out.lo)
              obtain ⟨wc7, hwc7⟩ : ∃ u, wc.alloc (.cells #[.int .i64 oa, .int .i64 ok, .int .i64 op, .int .i64 ov] 63) = u := ⟨_, rfl⟩
              have hbc7 : Below wc.heap.size wc wc7 := by rw [← hwc7]; exact (Below.refl _ _).alloc (Nat.le_refl _) _
              have HC7 := Lib.hid (HF2.out.rest hbc7)
              have HW7 := Lib.hid hwc7
              have HRc := Lib.hid (rd_one encP 4 wc (⟨oa, ok, op, ov⟩ : Op) 63 #[.int .i64 oa, .int .i64 ok, .int .i64 op, .int .i64 ov] rfl _ rfl)
              clear hwc7 hbc7
              go_wp2_with (at_builtin; go_must (refine wpList_append_told lenP oneP _ rfl (.tmp 90) (.tmp 95) 24 rfl nB 63 _ 32 Try.underlying24 info63r rfl (by decide) (by decide) (.slice O4 xs.length cO4) xs xs.length rfl rfl (by rw [HW7.out]; exact HC7.out.own) ⟨wc.heap.size, 0, none⟩ 1 1 [⟨oa, ok, op, ov⟩] rfl rfl (by decide) HRc.out HN3.out (by rw [HW7.out]; exact HC7.out.sz) ?_); intro g3 cap3 w7 hown7 hgr7 hl7; rw [HW7.out] at hgr7; have H7 := Lib.hid (HC7.out.app hown7 hgr7); clear hown7 hgr7 hl7)
              go_roundg (l.length - (i + 1))
              case measure => omega
              case rel => exact ⟨i + 1, by omega, by go_num, by rw [HFE.out]; exact H7.out⟩
      · have hd : decide (i < l.length) = false := decide_eq_false hlt
        obtain rfl : i = l.length := by omega
        have HF := Lib.hid hf
        clear hf
        go_wp2_with fail
        refine bodyPost_ret (fence24_results _ _ _ _ rfl rfl) rfl ?_
        refine ⟨fun _ => ⟨_, rfl, ?_⟩, fun h => absurd HK.out h, HB.out.2.2 _ HF.out.lo⟩
        have ho := HF.out.own
        rw [List.take_length] at ho
        exact own_down ho (by have := H1.out.1.size; have := HNB.out; omega)
  · have hkc : (chkF c l != 0) = true := by rw [bne_iff_ne]; exact hk
    have HK := Lib.hid hk
    clear hk hl2
    go_wp2_with ((with_reducible refine (HC.out).mono ?_); rintro e w1 ⟨rfl, hb1⟩; have H1 := Lib.hid (HX.out.1.trans (hb1.mono HX.out.1.size)); clear hb1)
    refine bodyPost_ret (fence24_results _ _ _ _ rfl rfl) rfl ?_
    exact ⟨fun h => absurd h HK.out, fun _ => rfl, H1.out⟩
end Go.Proofs.Ytggidakiflnhhaa
