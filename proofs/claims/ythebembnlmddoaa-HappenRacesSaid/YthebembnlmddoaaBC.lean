import Derived.Test.YthebembnlmddoaaBB
namespace Go.Proofs.Ythebembnlmddoaa
open Go.RowKit
set_option maxHeartbeats 16000000
set_option maxRecDepth 100000
set_option linter.unusedSimpArgs false
set_option linter.unusedVariables false

theorem eq74 (d : Nat) (a0 a1 b0 b1 : Int) (w : World) : (Op.equalIn (d + 2) 74 (.agg #[.int .i64 a0, .int .i64 a1]) (.agg #[.int .i64 b0, .int .i64 b1])).run Try.prog w = .ok (a0 == b0 && a1 == b1) w := by
  have hag : ∀ w, (isAgg 3).run Try.prog w = .ok false w := by
    intro w
    unfold isAgg
    rw [Sem.run_bind, run_underlying Try.underlying3 w]
    rfl
  rw [run_equalIn_struct (P := Try.prog) w (d + 1) 74 _ _ Try.underlying74 (by kernel_rfl)]
  have hf : (Try.prog.fieldsOf 74).toList.map (fun f => (f.name, f.type, f.offset)) = [("First", 3, 0), ("Second", 3, 1)] := by kernel_rfl
  generalize (Try.prog.fieldsOf 74).toList = fs at hf ⊢
  have hl : fs.length = 2 := by have := congrArg List.length hf; simpa using this
  match fs, hl with
  | [f0, f1], _ =>
    simp at hf
    obtain ⟨⟨n0, t0, o0⟩, ⟨n1, t1, o1⟩⟩ := hf
    simp only [Op.eqFields, n0, n1, t0, t1, o0, o1]
    simp [part, hag, run_equalIn_int _ _ 3 .i64 .i64 _ _ Try.underlying3]
    by_cases e0 : a0 = b0 <;> by_cases e1 : a1 = b1 <;> simp [e0, e1]
theorem run_eq74 (x y : Nat × Nat) (w : World) : (binOp .eql 74 (.agg #[.int .i64 (x.1 : Int), .int .i64 (x.2 : Int)]) (.agg #[.int .i64 (y.1 : Int), .int .i64 (y.2 : Int)])).run Try.prog w = .ok (.bool (decide (x = y))) w := by
  rw [run_eql_struct, eq74 9998]
  simp only [Result.andThen_ok]
  congr 2
  obtain ⟨a, b⟩ := x
  obtain ⟨c, d⟩ := y
  rw [Bool.eq_iff_iff]
  simp only [Bool.and_eq_true, beq_iff_eq, decide_eq_true_eq, Prod.mk.injEq]
  omega
theorem any_take {α : Type} (p : α → Bool) (xs : List α) (k : Nat) (h : k < xs.length) : (xs.take (k + 1)).any p = ((xs.take k).any p || p xs[k]) := by
  rw [take_snoc xs k h, List.any_append]
  simp
theorem wt_own (l : List Ev) (i j x : Nat) (hij : i < j) (hno : bfB l i j = false) (h : wtB l i j x = true) : x ≠ i ∧ x ≠ j := by
  unfold wtB at h
  simp only [Bool.or_eq_true] at h
  refine ⟨?_, ?_⟩
  · rintro rfl
    rcases h with h | h
    · have := bf_lt l _ _ h; omega
    · rw [hno] at h; cases h
  · rintro rfl
    rcases h with h | h
    · have := bf_lt l _ _ h; omega
    · have := bf_lt l _ _ h; omega
theorem witnessR_calls (l : List Ev) (h80 : l.length ≤ 80) (r1 r2 : Int) (A : Option Addr) (c : Nat) (w : World) (hA : Rd encE 11 w A l) :
    Calls Try.prog 36 #[.slice A l.length c, .agg #[.int .i64 r1, .int .i64 r2]] w (WtPost l r1 r2 w) := by
  have hsm := hA.small
  obtain ⟨W1, hW1⟩ : ∃ W1, w.alloc (.cells #[.int .i64 r1, .int .i64 r2] 74) = W1 := ⟨_, rfl⟩
  have hb1 : Below w.heap.size w W1 := by rw [← hW1]; exact (Below.refl _ w).alloc (Nat.le_refl _) _
  have hbx : W1.heap[w.heap.size]? = some (.cells #[.int .i64 r1, .int .i64 r2] 74 (0, 0)) := by rw [← hW1]; exact Go.heap_alloc_new w _
  have hck := checkR_calls l A c W1 (hA.below hb1)
  obtain ⟨bx, hbx0⟩ : ∃ bx, w.heap.size = bx := ⟨_, rfl⟩
  have HC := Lib.hid hck
  have HR := Lib.hid hA
  have HW := Lib.hid (And.intro hW1 hbx0)
  have HX := Lib.hid (And.intro hb1 (by rw [hbx0] at hbx; exact hbx : W1.heap[bx]? = some (.cells #[.int .i64 r1, .int .i64 r2] 74 (0, 0))))
  clear hA hck hW1 hbx0 hb1 hbx
  go_enter Try.func36, Try.ntmps36
  go_upto_region 1 with fail
  rw [HW.out.1, HW.out.2]
  go_wp2_with fail
  (with_reducible refine (HC.out).mono ?_); rintro e w2 ⟨rfl, hb2⟩
  have hlo2 := HX.out.1.trans (hb2.mono HX.out.1.size)
  have hbx2 := (hb2.block _ (Array.getElem?_eq_some_iff.1 HX.out.2).1).trans HX.out.2
  have H2 := Lib.hid (And.intro hlo2 hbx2)
  clear hb2 hlo2 hbx2
  by_cases hk : chkF l = 0
  · have hkc : (chkF l != 0) = false := by rw [bne_eq_false_iff_eq]; exact hk
    have HK := Lib.hid (And.intro hk (chk_zero l hk))
    clear hk
    have y0 := cell_of_row _ bx 0 _ _ _ H2.out.2
    have y1 := cell_of_row _ bx 1 _ _ _ H2.out.2
    simp at y0 y1
    by_cases hin : 0 ≤ r1 ∧ r1 < (l.length : Int) ∧ 0 ≤ r2 ∧ r2 < (l.length : Int)
    · obtain ⟨i, rfl⟩ : ∃ i : Nat, r1 = (i : Int) := ⟨r1.toNat, by omega⟩
      obtain ⟨j, rfl⟩ : ∃ j : Nat, r2 = (j : Int) := ⟨r2.toNat, by omega⟩
      have hil : i < l.length := by omega
      have hjl : j < l.length := by omega
      have d1 : decide ((i : Int) < 0) = false := decide_eq_false (by omega)
      have d2 : decide ((j : Int) < 0) = false := decide_eq_false (by omega)
      have d3 : decide (l.length ≤ i) = false := decide_eq_false (by omega)
      have d4 : decide (l.length ≤ j) = false := decide_eq_false (by omega)
      have hii : (i : Int) < (l.length : Int) := by omega
      have hjj : (j : Int) < (l.length : Int) := by omega
      have hlw2 : Below w.heap.size w w2 := H2.out.1
      have hal := all_calls l HK.out.2.2 HK.out.2.1 A c w2 (HR.out.below hlw2)
      have HN := Lib.hid hal
      have hwe : witE l (i : Int) (j : Int) = if raI l i j = true then 0 else 1 := by
        unfold witE
        rw [if_pos HK.out.1, if_pos ⟨by omega, by omega, by omega, by omega⟩]
      have hra : raI l i j = true ↔ (i, j) ∈ racesF l := by
        unfold raI
        rw [racesF_mem]
        simp only [Int.toNat_natCast, Bool.and_eq_true, decide_eq_true_eq]
        constructor
        · rintro ⟨h1, h2⟩; exact ⟨by omega, hjl, h2⟩
        · rintro ⟨h1, _, h2⟩; exact ⟨by omega, h2⟩
      have HE := Lib.hid (And.intro hwe hra)
      clear hal hin hwe hra hlw2
      go_wp2_with fail
      (with_reducible refine (HN.out).mono ?_); rintro e w3 ⟨S3, c3, rfl, ho3, hb3⟩
      have hlo3 := H2.out.1.trans (hb3.mono H2.out.1.size)
      have hbx3 := (hb3.block _ (Array.getElem?_eq_some_iff.1 H2.out.2).1).trans H2.out.2
      obtain ⟨S', c', hv, _, hrd, _⟩ := ho3.form lenRC
      obtain ⟨rfl, _, rfl⟩ := Value.slice.inj hv
      clear hv ho3
      obtain ⟨xs, hxs⟩ : ∃ xs, racesF l = xs := ⟨_, rfl⟩
      rw [hxs] at HE hrd ⊢
      have hxl := hrd.small
      have H3 := Lib.hid (And.intro hlo3 (And.intro hbx3 hrd))
      have HXS := Lib.hid hxs
      clear hxs hlo3 hrd hb3 y0 y1
      have y0 := cell_of_row _ bx 0 _ _ _ hbx3
      have y1 := cell_of_row _ bx 1 _ _ _ hbx3
      simp at y0 y1
      clear hbx3
      go_upto_region 9 with fail
      go_wp2_with fail
      go_loopg [8, 9, 43, 44, 45, 46, 47, 48, 49, 50, 51, 52, 53, 54, 55, 56, 57] xs.length (fun gk v8 v9 v43 v44 v45 v46 v47 v48 v49 v50 v51 v52 v53 v54 v55 v56 v57 wr => ∃ k : Nat, k + gk = xs.length ∧ v9 = .int .i64 (k : Int) ∧ v8 = .bool ((xs.take k).any (fun x => decide (x = (i, j)))) ∧ Below w3.heap.size w3 wr)
      case atStart => exact ⟨0, by omega, rfl, rfl, Below.refl _ _⟩
      case round =>
        obtain ⟨k, hk, rfl, rfl, hbl⟩ := hrel
        by_cases hkl : k < xs.length
        · have hd : decide (k < xs.length) = true := decide_eq_true hkl
          obtain ⟨a, rfl, hc⟩ := (H3.out.2.2.below hbl).cell k hkl
          have c0 := hc 0 _ rfl
          have c1 := hc 1 _ rfl
          rw [Nat.add_zero] at c0
          rw [add_field _ _ _ (by decide)] at c1
          have z0 := (hbl.cell (World.block_lt_of_cell? _ _ y0)).trans y0
          have z1 := (hbl.cell (World.block_lt_of_cell? _ _ y1)).trans y1
          have hat := any_take (fun x => decide (x = (i, j))) xs k hkl
          have heq := fun w => run_eq74 xs[k] (i, j) w
          dsimp only at heq
          generalize xs[k] = x at *
          obtain ⟨b1, hb1⟩ : ∃ b, (xs.take k).any (fun x => decide (x = (i, j))) = b := ⟨_, rfl⟩
          rw [hb1] at hat ⊢
          obtain ⟨b2, hb2⟩ : ∃ b, decide (x = (i, j)) = b := ⟨_, rfl⟩
          rw [hb2] at hat heq
          have HL := Lib.hid (And.intro hbl hat)
          have hki : (k : Int) < (xs.length : Int) := by omega
          clear hc hbl hat hb1 hb2
          go_upto_region 11 with fail
          cases b1 with
          | true =>
            go_quiet (fail)
            go_wp2_with fail
            go_roundg (gk - 1)
            case measure => omega
            case rel => exact ⟨k + 1, by omega, by go_num, by rw [HL.out.2]; rfl, drewN_below HL.out.1 _⟩
          | false =>
            go_quiet (fail)
            go_wp2_with fail
            go_roundg (gk - 1)
            case measure => omega
            case rel => exact ⟨k + 1, by omega, by go_num, by rw [HL.out.2]; rfl, drewN_below HL.out.1 _⟩
        · have hd : decide (k < xs.length) = false := decide_eq_false hkl
          obtain rfl : k = xs.length := by omega
          rw [List.take_length]
          have hmem : xs.any (fun x => decide (x = (i, j))) = true ↔ (i, j) ∈ xs := by
            rw [List.any_eq_true]
            simp
          obtain ⟨wo, hwo⟩ : ∃ wo, wo = wr := ⟨_, rfl⟩
          subst hwo
          have hbxo := (hbl.block _ (Array.getElem?_eq_some_iff.1 H3.out.2.1).1).trans H3.out.2.1
          have hloo := H3.out.1.trans (hbl.mono H3.out.1.size)
          obtain ⟨is, his⟩ : ∃ b, xs.any (fun x => decide (x = (i, j))) = b := ⟨_, rfl⟩
          rw [his] at hmem ⊢
          have HO := Lib.hid (And.intro hbxo (And.intro hloo hmem))
          clear hbxo hloo hmem hbl his y0 y1
          cases is with
          | false =>
            have hw1 : witE l (i : Int) (j : Int) = 1 := by
              rw [HE.out.1, if_neg]
              rw [HE.out.2, ← HO.out.2.2]
              simp
            have HV := Lib.hid hw1
            clear hw1
            go_wp2_with fail
            go_ret2
            exact ⟨_, by rw [HV.out]; rfl, by rw [HV.out]; exact World.ownsRow_nil _ _ _ _, HO.out.2.1⟩
          | true =>
            have hin := HO.out.2.2.1 rfl
            have hw0 : witE l (i : Int) (j : Int) = 0 := by rw [HE.out.1, if_pos (HE.out.2.2 hin)]
            rw [← HXS.out] at hin
            obtain ⟨hij, _, hrab⟩ := (racesF_mem l i j).1 hin
            have hno := ((raB_iff l i j).1 hrab).2.2.2
            have hah := ahead_calls l HK.out.2.2 HK.out.2.1 A c wo (HR.out.below HO.out.2.1)
            have HV := Lib.hid (And.intro hw0 (And.intro hij hno))
            have HAH := Lib.hid hah
            clear hin hw0 hij hrab hno hah
            go_wp2_with fail
            (with_reducible refine (HAH.out).mono ?_); rintro e w5 ⟨ST, cT, rfl, htab, hb5⟩
            have hbx5 := (hb5.block _ (Array.getElem?_eq_some_iff.1 HO.out.1).1).trans HO.out.1
            have hlo5 := HO.out.2.1.trans (hb5.mono HO.out.2.1.size)
            obtain ⟨W6, hW6⟩ : ∃ W6, (w5.alloc (.cells #[] 3)).alloc (.cells #[] 3) = W6 := ⟨_, rfl⟩
            have hb6 : Below w5.heap.size w5 W6 := by rw [← hW6]; exact ((Below.refl _ _).alloc (Nat.le_refl _) _).alloc (by simp) _
            have hwi : WI l i j 0 w5.heap.size w5 (some ⟨w5.heap.size, 0, none⟩) (some ⟨w5.heap.size + 1, 0, none⟩) 0 0 W6 := by
              have h1 := Own.empty encN 1 3 w5 w5.heap.size (Nat.le_refl _)
              have h2 := Own.empty encN 1 3 (w5.alloc (.cells #[] 3)) w5.heap.size (by simp)
              rw [hW6] at h2
              rw [show (w5.alloc (.cells #[] 3)).heap.size = w5.heap.size + 1 by simp] at h2
              refine ⟨?_, h2, fun k hk => ?_, hb6⟩
              · have hb : Below (w5.alloc (.cells #[] 3)).heap.size (w5.alloc (.cells #[] 3)) W6 := by rw [← hW6]; exact (Below.refl _ _).alloc (Nat.le_refl _) _
                exact h1.rest hb
              · have e1 : w5.heap.size = k := by simpa [Value.ownBlock] using hk
                subst e1
                simp [Value.ownBlock]
            obtain ⟨B5, hB5⟩ : ∃ B5, w5.heap.size = B5 := ⟨_, rfl⟩
            have hs5 : (w5.alloc (.cells #[] 3)).heap.size = w5.heap.size + 1 := by simp
            rw [hB5] at hwi
            have HW6 := Lib.hid (And.intro hW6 (And.intro hB5 hs5))
            have H5 := Lib.hid (And.intro hbx5 (And.intro hlo5 (And.intro htab hwi)))
            clear hbx5 hlo5 htab hwi hb5 hb6 hW6 hB5 hs5
            go_upto_region 16 with fail
            rw [HW6.out.1]
            try rw [HW6.out.2.1]
            go_wp2_with fail
            go_loopg [11, 12, 13, 64, 65, 66, 67, 68, 69, 70, 71, 72, 73, 74, 75, 76, 77, 78, 79, 80, 81, 82, 83, 84, 85, 86, 87, 88, 89, 90, 91, 92, 93, 94, 95, 96, 97, 98, 99, 100, 101, 102, 103, 104, 105] l.length (fun gk v11 v12 v13 v64 v65 v66 v67 v68 v69 v70 v71 v72 v73 v74 v75 v76 v77 v78 v79 v80 v81 v82 v83 v84 v85 v86 v87 v88 v89 v90 v91 v92 v93 v94 v95 v96 v97 v98 v99 v100 v101 v102 v103 v104 v105 wr => ∃ (k : Nat) (SA SC : Option Addr) (ca cc : Nat), k + gk = l.length ∧ v13 = .int .i64 (k : Int) ∧ v11 = .slice SA (wtA l i j k).length ca ∧ v12 = .slice SC (wtC l i j k).length cc ∧ WI l i j k B5 w5 SA SC ca cc wr ∧ ∃ sc, SC = some sc)
            case atStart => exact ⟨0, some ⟨B5, 0, none⟩, some ⟨B5 + 1, 0, none⟩, 0, 0, by omega, rfl, rfl, rfl, H5.out.2.2.2, _, rfl⟩
            case round =>
              obtain ⟨k, SA, SC, ca, cc, hk, rfl, rfl, rfl, hwi, hsm2⟩ := hrel
              obtain ⟨wq, hwq⟩ : ∃ wq, wq = wr := ⟨_, rfl⟩
              subst hwq
              have hszq : B5 ≤ wq.heap.size := by have := hwi.low.size; have := HW6.out.2.1; omega
              have hlw : Below w5.heap.size w5 wq := by rw [HW6.out.2.1]; exact hwi.low
              have hbx6 := (hlw.block bx (Array.getElem?_eq_some_iff.1 H5.out.1).1).trans H5.out.1
              have y0 := cell_of_row _ bx 0 _ _ _ hbx6
              have y1 := cell_of_row _ bx 1 _ _ _ hbx6
              simp at y0 y1
              by_cases hkl : k < l.length
              · have hd : decide (k < l.length) = true := decide_eq_true hkl
                obtain ⟨aT, gi, ci, rfl, t1, t2⟩ := (H5.out.2.2.1.below hlw) i hil
                obtain ⟨aT', gj, cj, e0, t3, t4⟩ := (H5.out.2.2.1.below hlw) j hjl
                cases e0
                have s1 := t2 k hkl
                have s2 := t4 k hkl
                have HZ := Lib.hid (And.intro hwi hszq)
                have HSM := Lib.hid hsm2
                have hwb : wtB l i j k = (bfB l k i || bfB l k j) := rfl
                have how := wt_own l i j k HV.out.2.1 HV.out.2.2
                obtain ⟨b1, hb1⟩ : ∃ b, bfB l k i = b := ⟨_, rfl⟩
                obtain ⟨b2, hb2⟩ : ∃ b, bfB l k j = b := ⟨_, rfl⟩
                rw [hb1] at s1 hwb
                rw [hb2] at s2 hwb
                have hkk : (k : Int) < (l.length : Int) := by omega
                clear t2 t4 hwi hszq hlw hbx6 hsm2 hb1 hb2
                cases b1 with
                | true =>
                  have hbt : wtB l i j k = true := by rw [hwb]; rfl
                  have HK := Lib.hid (how hbt)
                  have HBT := Lib.hid hbt
                  have HWB := Lib.hid (show (!(decide (k = i) || decide (k = j))) = true by simp [HK.out.1, HK.out.2])
                  clear hbt hwb how
                  go_upto_region 20 with fail
                  clear s1 s2 t1 t3 y0 y1
                  have hb7 : Below wq.heap.size wq (wq.alloc (.cells #[.int .i64 (k : Int)] 3)) := (Below.refl _ _).alloc (Nat.le_refl _) _
                  have HY := Lib.hid (And.intro (HZ.out.1.rest HZ.out.2 hb7) (And.intro (Nat.le_trans HZ.out.2 hb7.size) (show ((wtA l i j k).length + 1) * 8 ≤ 140737488355328 by have := wt_lenA l i j k; omega)))
                  clear hb7
                  go_wp2_with (at_builtin; go_must (refine wpList_append_told lenN oneN _ rfl (.tmp 88) (.tmp 90) 33 rfl B5 3 _ 8 Try.underlying33 info3 rfl (by decide) (by decide) (.slice SA (wtA l i j k).length ca) (wtA l i j k) (wtA l i j k).length rfl rfl HY.out.1.oa ⟨wq.heap.size, 0, none⟩ 1 1 [k] rfl rfl (by decide) (rd_one encN 1 _ k 3 _ rfl _ rfl) HY.out.2.2 HY.out.2.1 ?_); intro g3 cap3 w7 hown7 hgr7 hl7; have HGG := Lib.hid (And.intro hown7 (And.intro hgr7 hl7)); clear hown7 hgr7 hl7)
                  go_roundg (gk - 1)
                  case measure => omega
                  case rel =>
                    have h9 := HY.out.1.ahead HY.out.2.1 HK.out.1 HK.out.2 HBT.out HGG.out.1 HGG.out.2.1 HGG.out.2.2
                    exact ⟨k + 1, some ⟨g3, 0, none⟩, SC, cap3, cc, by omega, by go_num, by rw [(wt_succ l i j k).1, HWB.out, HBT.out]; simp, by rw [(wt_succ l i j k).2, HWB.out, HBT.out]; simp, h9, HSM.out⟩
                | false =>
                  cases b2 with
                  | true =>
                    have hbt : wtB l i j k = true := by rw [hwb]; rfl
                    have HK := Lib.hid (how hbt)
                    have HBT := Lib.hid hbt
                    have HWB := Lib.hid (show (!(decide (k = i) || decide (k = j))) = true by simp [HK.out.1, HK.out.2])
                    clear hbt hwb how
                    go_upto_region 20 with fail
                    clear s1 s2 t1 t3 y0 y1
                    have hb7 : Below wq.heap.size wq (wq.alloc (.cells #[.int .i64 (k : Int)] 3)) := (Below.refl _ _).alloc (Nat.le_refl _) _
                    have HY := Lib.hid (And.intro (HZ.out.1.rest HZ.out.2 hb7) (And.intro (Nat.le_trans HZ.out.2 hb7.size) (show ((wtA l i j k).length + 1) * 8 ≤ 140737488355328 by have := wt_lenA l i j k; omega)))
                    clear hb7
                    go_wp2_with (at_builtin; go_must (refine wpList_append_told lenN oneN _ rfl (.tmp 88) (.tmp 90) 33 rfl B5 3 _ 8 Try.underlying33 info3 rfl (by decide) (by decide) (.slice SA (wtA l i j k).length ca) (wtA l i j k) (wtA l i j k).length rfl rfl HY.out.1.oa ⟨wq.heap.size, 0, none⟩ 1 1 [k] rfl rfl (by decide) (rd_one encN 1 _ k 3 _ rfl _ rfl) HY.out.2.2 HY.out.2.1 ?_); intro g3 cap3 w7 hown7 hgr7 hl7; have HGG := Lib.hid (And.intro hown7 (And.intro hgr7 hl7)); clear hown7 hgr7 hl7)
                    go_roundg (gk - 1)
                    case measure => omega
                    case rel =>
                      have h9 := HY.out.1.ahead HY.out.2.1 HK.out.1 HK.out.2 HBT.out HGG.out.1 HGG.out.2.1 HGG.out.2.2
                      exact ⟨k + 1, some ⟨g3, 0, none⟩, SC, cap3, cc, by omega, by go_num, by rw [(wt_succ l i j k).1, HWB.out, HBT.out]; simp, by rw [(wt_succ l i j k).2, HWB.out, HBT.out]; simp, h9, HSM.out⟩
                  | false =>
                    have hbt : wtB l i j k = false := by rw [hwb]; rfl
                    have HBT := Lib.hid hbt
                    clear hbt hwb how
                    by_cases hki : k = i
                    · have g1 : (k != i) = false := by simp [hki]
                      have g2 : ((k : Int) != (i : Int)) = false := by simp [hki]
                      have HKI := Lib.hid hki
                      clear hki
                      go_wp2_with fail
                      go_roundg (gk - 1)
                      case measure => omega
                      case rel =>
                        have h9 := HZ.out.1.skip (.inl HKI.out)
                        exact ⟨k + 1, _, _, _, _, by omega, by go_num, by rw [(wt_succ l i j k).1, HKI.out]; simp, by rw [(wt_succ l i j k).2, HKI.out]; simp, h9, HSM.out⟩
                    · have g1 : (k != i) = true := by simpa using hki
                      have g2 : ((k : Int) != (i : Int)) = true := by rw [bne_iff_ne]; omega
                      by_cases hkj : k = j
                      · have g3 : (k != j) = false := by simp [hkj]
                        have g4 : ((k : Int) != (j : Int)) = false := by simp [hkj]
                        have HKI := Lib.hid hkj
                        clear hki hkj
                        go_wp2_with fail
                        go_roundg (gk - 1)
                        case measure => omega
                        case rel =>
                          have h9 := HZ.out.1.skip (.inr HKI.out)
                          exact ⟨k + 1, _, _, _, _, by omega, by go_num, by rw [(wt_succ l i j k).1, HKI.out]; simp, by rw [(wt_succ l i j k).2, HKI.out]; simp, h9, HSM.out⟩
                      · have g3 : (k != j) = true := by simpa using hkj
                        have g4 : ((k : Int) != (j : Int)) = true := by rw [bne_iff_ne]; omega
                        have HK := Lib.hid (And.intro hki hkj)
                        have HWB := Lib.hid (show (!(decide (k = i) || decide (k = j))) = true by simp [hki, hkj])
                        clear hki hkj
                        go_upto_region 22 with fail
                        clear s1 s2 t1 t3 y0 y1 g1 g2 g3 g4
                        have hb7 : Below wq.heap.size wq (wq.alloc (.cells #[.int .i64 (k : Int)] 3)) := (Below.refl _ _).alloc (Nat.le_refl _) _
                        have HY := Lib.hid (And.intro (HZ.out.1.rest HZ.out.2 hb7) (And.intro (Nat.le_trans HZ.out.2 hb7.size) (show ((wtC l i j k).length + 1) * 8 ≤ 140737488355328 by have := wt_lenC l i j k; omega)))
                        clear hb7
                        go_wp2_with (at_builtin; go_must (refine wpList_append_told lenN oneN _ rfl (.tmp 102) (.tmp 104) 33 rfl B5 3 _ 8 Try.underlying33 info3 rfl (by decide) (by decide) (.slice SC (wtC l i j k).length cc) (wtC l i j k) (wtC l i j k).length rfl rfl HY.out.1.oc ⟨wq.heap.size, 0, none⟩ 1 1 [k] rfl rfl (by decide) (rd_one encN 1 _ k 3 _ rfl _ rfl) HY.out.2.2 HY.out.2.1 ?_); intro g3 cap3 w7 hown7 hgr7 hl7; have HGG := Lib.hid (And.intro hown7 (And.intro hgr7 hl7)); clear hown7 hgr7 hl7)
                        go_roundg (gk - 1)
                        case measure => omega
                        case rel =>
                          have h9 := HY.out.1.behind HY.out.2.1 HK.out.1 HK.out.2 HBT.out HGG.out.1 HGG.out.2.1 HGG.out.2.2
                          exact ⟨k + 1, SA, some ⟨g3, 0, none⟩, ca, cap3, by omega, by go_num, by rw [(wt_succ l i j k).1, HWB.out, HBT.out]; simp, by rw [(wt_succ l i j k).2, HWB.out, HBT.out]; simp, h9, ⟨_, rfl⟩⟩
              · have hd : decide (k < l.length) = false := decide_eq_false hkl
                obtain rfl : k = l.length := by omega
                obtain ⟨sc, rfl⟩ := hsm2
                have hsum := wt_sum l i j l.length
                obtain ⟨W7, hW7⟩ : ∃ W7, wq.alloc (.cells #[.int .i64 (i : Int), .int .i64 (j : Int)] 3) = W7 := ⟨_, rfl⟩
                have hb7 : Below wq.heap.size wq W7 := by rw [← hW7]; exact (Below.refl _ _).alloc (Nat.le_refl _) _
                have hr2 : Rd encN 1 W7 (some ⟨wq.heap.size, 0, none⟩) [i, j] := by
                  refine ⟨by simp, fun q hq => ⟨_, rfl, fun y v hv => ?_⟩⟩
                  have h0 := Go.heap_alloc_new wq (.cells #[.int .i64 (i : Int), .int .i64 (j : Int)] 3)
                  rw [hW7] at h0
                  rw [add_at, cell_of_row _ _ _ _ _ _ h0]
                  have hq2 : q < 2 := by simpa using hq
                  rcases (show q = 0 ∨ q = 1 by omega) with rfl | rfl
                  · cases y with
                    | zero => simpa using hv
                    | succ y => simp at hv
                  · cases y with
                    | zero => simpa using hv
                    | succ y => simp at hv
                obtain ⟨S', c', hv', _, hrc, _⟩ := hwi.oc.form lenN
                obtain ⟨e0, hq1, hq2⟩ := Value.slice.inj hv'
                rw [← e0] at hrc
                clear hq1 hq2
                have hoa := hwi.oa.rest hb7
                have hrc7 := hrc.below hb7
                have hap := hwi.ap
                have hlo7 : Below B5 w5 W7 := hwi.low.trans (hb7.mono hszq)
                have HF := Lib.hid (And.intro hoa (And.intro hr2 (And.intro hrc7 (And.intro hlo7 (And.intro (Nat.le_trans hszq hb7.size) (And.intro hap (hwi.oc.rest hb7)))))))
                have HW7 := Lib.hid hW7
                have hla := wt_lenA l i j l.length
                have hb81 : ((wtA l i j l.length).length + 2) * 8 ≤ 140737488355328 := by omega
                have hb82 : ((wtA l i j l.length ++ [i, j]).length + (wtC l i j l.length).length) * 8 ≤ 140737488355328 := by rw [List.length_append]; simp only [List.length_cons, List.length_nil]; omega
                have HBY := Lib.hid (And.intro hb81 hb82)
                clear hwi hszq hlw hbx6 hb7 hr2 hv' e0 hrc hoa hrc7 hap hlo7 hW7 hsum hla hb81 hb82
                go_wp2_with (at_builtin; first | (refine wpList_append_told lenN oneN _ rfl (.tmp 106) (.tmp 111) 33 rfl B5 3 _ 8 Try.underlying33 info3 rfl (by decide) (by decide) (.slice SA (wtA l i j l.length).length ca) (wtA l i j l.length) (wtA l i j l.length).length rfl rfl (by have := HF.out.1; rw [← HW7.out] at this; exact this) ⟨wq.heap.size, 0, none⟩ 2 2 [i, j] rfl rfl (by decide) (by have := HF.out.2.1; rw [← HW7.out] at this; exact this) HBY.out.1 (by have := HF.out.2.2.2.2.1; rw [← HW7.out] at this; exact this) ?_; intro g3 cap3 w9 hown9 hgr9 hl9; rw [HW7.out] at hgr9; have HGG := Lib.hid (And.intro hown9 (And.intro hgr9 (HF.out.2.2.2.2.2.2.beside (n := (wtA l i j l.length).length + 2) (c := cap3) HF.out.2.2.2.2.2.1 hgr9 (by rw [HW7.out] at hl9; exact hl9)))); clear hown9 hgr9 hl9) | (refine wpList_append_typed lenN oneN _ rfl (.tmp 112) (.tmp 113) 33 rfl B5 3 _ 8 Try.underlying33 info3 rfl (by decide) (by decide) _ (wtA l i j l.length ++ [i, j]) rfl HGG.out.1 sc (wtC l i j l.length).length cc (wtC l i j l.length) rfl rfl (by obtain ⟨S', c', hv', _, hrc, _⟩ := HGG.out.2.2.1.form lenN; obtain ⟨e0, _, _⟩ := Value.slice.inj hv'; rw [← e0] at hrc; exact hrc) HBY.out.2 (Nat.le_trans HF.out.2.2.2.2.1 HGG.out.2.1.size) ?_; intro v' w10 ho10 hg10; have H10 := Lib.hid (And.intro ho10 hg10); clear ho10 hg10))
                go_ret2
                have h5 : Below w.heap.size w w5 := H5.out.2.1
                have h9 : Below B5 w5 w9 := HF.out.2.2.2.1.grown HGG.out.2.1 HF.out.2.2.2.2.1 (fun b hb => (HF.out.1.blk b hb).1)
                have h10 : Below B5 w5 w10 := h9.grown H10.out.2 (Nat.le_trans HF.out.2.2.2.2.1 HGG.out.2.1.size) (fun b hb => (HGG.out.1.blk b hb).1)
                refine ⟨_, by rw [HV.out.1]; rfl, ?_, h5.trans ((show Below w5.heap.size w5 w10 by rw [HW6.out.2.1]; exact h10).mono h5.size)⟩
                rw [HV.out.1]
                have ho : Own encN 1 3 w10 B5 _ (witL l i j) := H10.out.1
                exact ho.down (by have := h5.size; have := HW6.out.2.1; omega)
    · have hwe : witE l r1 r2 = 4 := by
        unfold witE
        rw [if_pos HK.out.1, if_neg hin]
      have HE := Lib.hid hwe
      have hcs : r1 < 0 ∨ (0 ≤ r1 ∧ r2 < 0) ∨ (0 ≤ r1 ∧ 0 ≤ r2 ∧ (l.length : Int) ≤ r1) ∨ (0 ≤ r1 ∧ 0 ≤ r2 ∧ r1 < (l.length : Int) ∧ (l.length : Int) ≤ r2) := by omega
      have fin : ∀ v : Value, v = .slice none 0 0 → WtPost l r1 r2 w (.returned (.tuple #[.slice none 0 0, .int .i64 4])) w2 := fun v hv => ⟨_, by rw [HE.out], by rw [HE.out]; exact World.ownsRow_nil _ _ _ _, H2.out.1⟩
      have HFn := Lib.hid fin
      clear hin hwe fin
      rcases hcs with h | ⟨h1, h2⟩ | ⟨h1, h2, h3⟩ | ⟨h1, h2, h3, h4⟩
      · have d1 : decide (r1 < 0) = true := decide_eq_true h
        go_wp2_with fail
        go_ret2
        exact HFn.out _ rfl
      · have d1 : decide (r1 < 0) = false := decide_eq_false (by omega)
        have d2 : decide (r2 < 0) = true := decide_eq_true h2
        go_wp2_with fail
        go_ret2
        exact HFn.out _ rfl
      · have d1 : decide (r1 < 0) = false := decide_eq_false (by omega)
        have d2 : decide (r2 < 0) = false := decide_eq_false (by omega)
        have d3 : decide ((l.length : Int) ≤ r1) = true := decide_eq_true h3
        go_wp2_with fail
        go_ret2
        exact HFn.out _ rfl
      · have d1 : decide (r1 < 0) = false := decide_eq_false (by omega)
        have d2 : decide (r2 < 0) = false := decide_eq_false (by omega)
        have d3 : decide ((l.length : Int) ≤ r1) = false := decide_eq_false (by omega)
        have d4 : decide ((l.length : Int) ≤ r2) = true := decide_eq_true h4
        go_wp2_with fail
        go_ret2
        exact HFn.out _ rfl
  · have hkc : (chkF l != 0) = true := by rw [bne_iff_ne]; exact hk
    have hwe : witE l r1 r2 = chkF l := by
      unfold witE
      rw [if_neg hk]
    have HE := Lib.hid (And.intro hwe hk)
    clear hk hwe
    go_wp2_with fail
    go_ret2
    exact ⟨_, by rw [HE.out.1]; rfl, by rw [HE.out.1, if_neg HE.out.2]; exact World.ownsRow_nil _ _ _ _, H2.out.1⟩
end Go.Proofs.Ythebembnlmddoaa
