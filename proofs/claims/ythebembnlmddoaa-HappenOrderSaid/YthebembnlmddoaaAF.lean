import Derived.Test.YthebembnlmddoaaAE
namespace Go.Proofs.Ythebembnlmddoaa
open Go.RowKit
set_option maxHeartbeats 16000000
set_option maxRecDepth 100000
set_option linter.unusedSimpArgs false
set_option linter.unusedVariables false

theorem order_calls (l : List Ev) (hok : ∀ e ∈ l, e.ok) (A : Option Addr) (c : Nat) (w : World) (hA : Rd encE 11 w A l) (hb : l.length * 88 ≤ 140737488351232) :
    Calls Try.prog 7 #[.slice A l.length c] w fun e w' => e = .returned (.bool true) ∧ Below w.heap.size w w' := by
  have hsm := hA.small
  have hg := given_calls l hok A c w hA hb
  have HG := Lib.hid hg
  have HOK := Lib.hid hok
  have ha := fun w => awake_calls w
  have HA := Lib.hid ha
  clear ha hg hA hok hb
  go_enter Try.func7, Try.ntmps7
  go_wp2_with fail
  (with_reducible refine (HG.out).mono ?_); rintro e w1 ⟨v, rfl, hown, hb1⟩
  obtain ⟨B, cp, rfl, hbc, hrd, hbb⟩ := hown.form lenE
  have H1 := Lib.hid (And.intro hb1 hrd)
  clear hown hb1 hrd hbb hbc
  cases hgv : gvB l with
  | false =>
    go_wp2_with fail
    (with_reducible refine (HA.out _).mono ?_); rintro e w2 ⟨rfl, hb2⟩
    have H2 := Lib.hid (H1.out.1.trans (hb2.mono H1.out.1.size))
    clear hb2
    go_wp2_with fail
    go_ret
    exact ⟨rfl, H2.out⟩
  | true =>
    obtain ⟨h40, hck⟩ := gv_yes l hgv
    have hz := chk_zero l hck
    have hcl := clocks_calls l HOK.out hck B cp w1 H1.out.2
    have HC := Lib.hid hcl
    have HV := Lib.hid (And.intro hck hz.2)
    clear hgv hck hcl hz
    go_wp2_with fail
    (with_reducible refine (HC.out).mono ?_); rintro e w2 ⟨SA, ca, rfl, hclk, hb2⟩
    have hlow2 : Below w.heap.size w w2 := H1.out.1.trans (hb2.mono H1.out.1.size)
    have hrd2 := H1.out.2.below hb2
    obtain ⟨i1, hi1, hz1, hs1, hbb1⟩ := info_parts info3
    obtain ⟨W3, hmk, hown3, hg3⟩ := run_makeSlice_full (P := Try.prog) (w := w2) w2.heap.size 33 3 i1 _ 1 Try.underlying33 hi1 hz1 hs1 .i64 .i64 l.length (by omega) (by rw [hbb1]; omega) (by simp [maxLen]; omega) (Nat.le_refl _)
    rw [made_int] at hown3
    have hN3 : Own encI 1 3 W3 w2.heap.size (.slice (some ⟨w2.heap.size, 0, none⟩) l.length l.length) (numF l l.length 0) := by rw [numF_zero]; unfold Own; rw [List.length_replicate]; exact hown3
    have b23 : Below w2.heap.size w2 W3 := (Below.refl _ w2).grown hg3 (Nat.le_refl _) (fun b hb => by cases hb)
    have hmk' : (Instr.makeSlice 33 (.int .i64 (l.length : Int)) (.int .i64 (l.length : Int))).run Try.prog w2 = .ok (.slice (some ⟨w2.heap.size, 0, none⟩) l.length l.length) W3 := hmk
    have hmm := @run_makeMap Try.prog
    obtain ⟨W4, hW4⟩ : ∃ W4, W3.alloc (.map #[] 0) = W4 := ⟨_, rfl⟩
    have hb4 : Below W3.heap.size W3 W4 := by rw [← hW4]; exact (Below.refl _ _).alloc (Nat.le_refl _) _
    have hcm : CnM W4 W3.heap.size 0 (fun _ => 0) := by rw [← hW4]; exact CnM.made W3
    have hO0 : O1 l.length w2 w2.heap.size W3.heap.size 0 (.slice none 0 0) [] (numF l l.length 0) (fun t => cnt l 0 t) (.slice none 0 0) [] W4 :=
      ⟨World.ownsRow_nil _ _ _ _, hN3.rest hb4, hcm, World.ownsRow_nil _ _ _ _, b23.trans (hb4.mono b23.size), Apt.none _, (Apt.none _).symm, (Apt.none _).symm⟩
    obtain ⟨nb, hnb⟩ : ∃ nb, w2.heap.size = nb := ⟨_, rfl⟩
    obtain ⟨mb, hmb⟩ : ∃ mb, W3.heap.size = mb := ⟨_, rfl⟩
    have hnm : nb ≤ mb := by rw [← hnb, ← hmb]; exact b23.size
    rw [hnb] at hmk' hO0
    rw [hmb] at hO0
    have H2 := Lib.hid (And.intro hlow2 (And.intro hrd2 (And.intro hclk hnb)))
    have H4 := Lib.hid (And.intro hO0 hnm)
    have HM := Lib.hid (And.intro hmb hW4)
    clear hlow2 hrd2 hclk hb2 hi1 hz1 hs1 hbb1 hmk hown3 hN3 hg3 b23 hW4 hb4 hcm hO0 hmb hnm i1 hnb
    go_upto_region 10 with fail
    clear hmk'
    go_upto_region 12 with fail
    rw [HM.out.1]
    clear hmm
    rw [HM.out.2]
    go_wp2_with fail
    go_loopg [8, 11, 12, 13, 52, 53, 54, 55, 56, 57, 58, 59, 60, 61, 62, 63, 64, 65, 66, 67, 68, 69, 70, 71, 72, 73, 74, 75, 76, 77, 78, 79, 80, 81, 82, 83, 84, 85, 86, 87] l.length (fun gk v8 v11 v12 v13 v52 v53 v54 v55 v56 v57 v58 v59 v60 v61 v62 v63 v64 v65 v66 v67 v68 v69 v70 v71 v72 v73 v74 v75 v76 v77 v78 v79 v80 v81 v82 v83 v84 v85 v86 v87 wr => ∃ (k : Nat) (S1 : Option Addr) (c1 : Nat) (S2 : Option Addr) (c2 : Nat), k + gk = l.length ∧ v52 = .int .i64 (k : Int) ∧ v8 = .slice S1 (tkF (l.take k)).length c1 ∧ v11 = .slice S2 k c2 ∧ O1 l.length w2 nb mb k (.slice S1 (tkF (l.take k)).length c1) (tkF (l.take k)) (numF l l.length k) (fun t => cnt l k t) (.slice S2 k c2) (List.range k) wr)
    case atStart => exact ⟨0, none, 0, none, 0, by omega, rfl, rfl, rfl, H4.out.1⟩
    case round =>
      obtain ⟨k, S1, c1, S2, c2, hk, rfl, rfl, rfl, hO⟩ := hrel
      obtain ⟨wo, hwo⟩ : ∃ wo, wo = wr := ⟨_, rfl⟩
      subst hwo
      have hszo : nb ≤ wo.heap.size := by have := hO.low.size; have := H2.out.2.2.2; omega
      by_cases hkl : k < l.length
      · have hd : decide (k < l.length) = true := decide_eq_true hkl
        have hRA := H2.out.2.1.below (by have := hO.low; rw [← H2.out.2.2.2] at this; exact this)
        cases B with
        | none =>
          exfalso
          obtain ⟨a, ha, _⟩ := hRA.cell k hkl
          cases ha
        | some a =>
        have hcs := ev_cells hRA k hkl
        have hto := (HOK.out _ (List.getElem_mem hkl)).t
        have hev := evA_eq l k hkl
        rw [← hev] at hcs hto
        have htk := tkF_take l k hkl
        have hcf := cnt_fun l k hkl
        have hcn := cnt_succ l k hkl (evA l k).t
        rw [if_pos rfl] at hcn
        have hns := numF_set l l.length k
        generalize evA l k = e at *
        obtain ⟨ts, hts⟩ : ∃ ts, tkF (l.take k) = ts := ⟨_, rfl⟩
        rw [hts] at htk hO
        rw [hts]
        have hln : ts.length ≤ k := by rw [← hts]; have := tkF_len (l.take k); rw [List.length_take] at this; omega
        obtain ⟨W5, hW5⟩ : ∃ W5, wo.alloc (.cells e.cells 42) = W5 := ⟨_, rfl⟩
        have hb5 : Below wo.heap.size wo W5 := by rw [← hW5]; exact (Below.refl _ _).alloc (Nat.le_refl _) _
        have hbox : W5.heap[wo.heap.size]? = some (.cells e.cells 42 (0, 0)) := by rw [← hW5]; exact Go.heap_alloc_new wo _
        have hO5 := hO.rest hszo hb5
        obtain ⟨S1', c1', hv, _, hrdT, _⟩ := hO5.own.form lenI
        obtain ⟨rfl, _, rfl⟩ := Value.slice.inj hv
        clear hv
        have hct := contains_calls ts e.t S1 c1 W5 hrdT
        rw [any_mem] at hct
        obtain ⟨bx, hbx⟩ : ∃ bx, wo.heap.size = bx := ⟨_, rfl⟩
        rw [hbx] at hbox
        have y1 : W5.cell? ⟨bx, 1, none⟩ = some (.int .i64 e.t) := by rw [cell_of_row _ _ _ _ _ _ hbox]; rfl
        have hsz5 : nb ≤ W5.heap.size := Nat.le_trans hszo hb5.size
        have hbxl : nb ≤ bx ∧ bx < W5.heap.size := by rw [← hbx]; exact ⟨hszo, by have := (Array.getElem?_eq_some_iff.1 hbox).1; rw [hbx]; exact this⟩
        have HX := Lib.hid (And.intro hcs (And.intro hbx hW5))
        have HO := Lib.hid (And.intro hO5 (And.intro hsz5 (And.intro hbxl hbox)))
        have HT := Lib.hid (And.intro htk (And.intro hcf (And.intro hcn (And.intro hns (And.intro hto hts)))))
        have HCT := Lib.hid hct
        clear hcs hbx hW5 hb5 hO5 hO hsz5 hbxl hbox htk hcf hcn hns hto hts hct hrdT hRA hev
        go_upto_region 15 with (refine wpList_load_ev rfl _ 42 (Or.inl rfl) rfl (a.add (k * 11)) e rfl HX.out.1 ?_)
        try rw [HX.out.2.1]
        try rw [HX.out.2.2]
        go_upto_if 62 with ((with_reducible refine (HCT.out).mono ?_); rintro e w6 ⟨rfl, rfl⟩)
        go_cut [8] (fun s8 wx => ∃ (S : Option Addr) (c8 : Nat), s8 = .slice S (tkS ts e).length c8 ∧ O1 l.length w2 nb mb k (.slice S (tkS ts e).length c8) (tkS ts e) (numF l l.length k) (fun t => cnt l k t) (.slice S2 k c2) (List.range k) wx ∧ nb ≤ wx.heap.size ∧ wx.heap[bx]? = some (.cells e.cells 42 (0, 0)))
        case first =>
          cases hm : decide (e.t ∈ ts) with
          | true =>
            have he : tkS ts e = ts := by unfold tkS; rw [if_pos (of_decide_eq_true hm)]
            have HE := Lib.hid he
            clear he hm
            go_wp2_with fail
            go_meet
            exact ⟨S1, c1, by rw [HE.out], by rw [HE.out]; exact HO.out.1, HO.out.2.1, HO.out.2.2.2⟩
          | false =>
            have he : tkS ts e = ts ++ [e.t] := by unfold tkS; rw [if_neg (of_decide_eq_false hm)]
            have hb6 : Below w6.heap.size w6 (w6.alloc (.cells #[.int .i64 e.t] 3)) := (Below.refl _ _).alloc (Nat.le_refl _) _
            have HE := Lib.hid he
            have HU := Lib.hid (And.intro (HO.out.1.rest HO.out.2.1 hb6) (And.intro (Nat.le_trans HO.out.2.1 hb6.size) (And.intro (show (ts.length + 1) * 8 ≤ 140737488355328 by omega) ((hb6.block bx HO.out.2.2.1.2).trans HO.out.2.2.2))))
            clear he hm hb6
            go_wp2_with (at_builtin; refine wpList_append_told lenI oneI _ rfl (.tmp 63) (.tmp 67) 33 rfl nb 3 _ 8 Try.underlying33 info3 rfl (by decide) (by decide) (.slice S1 ts.length c1) ts ts.length rfl rfl HU.out.1.own ⟨w6.heap.size, 0, none⟩ 1 1 [e.t] rfl rfl (by decide) (rd_one encI 1 _ e.t 3 _ rfl _ rfl) HU.out.2.2.1 HU.out.2.1 ?_; intro g3 cap3 w7 hown7 hgr7 hl7; have HGG := Lib.hid (And.intro hown7 (And.intro hgr7 hl7)); clear hown7 hgr7 hl7)
            go_meet
            refine ⟨_, cap3, by rw [HE.out, List.length_append]; rfl, ?_, Nat.le_trans HU.out.2.1 HGG.out.2.1.size, ?_⟩
            · rw [HE.out, List.length_append]
              exact HU.out.1.tasks HU.out.2.1 HGG.out.1 HGG.out.2.1 HGG.out.2.2
            · exact (HGG.out.2.1.block bx (Array.getElem?_eq_some_iff.1 HU.out.2.2.2).1 (own_apart HU.out.1.own HU.out.2.2.2 (by decide))).trans HU.out.2.2.2
        case rest =>
          obtain ⟨S3, c3, rfl, hO3, hsz3, hbx3⟩ := hcut
          have z1 : wc.cell? ⟨bx, 1, none⟩ = some (.int .i64 e.t) := by rw [cell_of_row _ _ _ _ _ _ hbx3]; rfl
          obtain ⟨cn, hcn⟩ : ∃ cn, cnt l k e.t = cn := ⟨_, rfl⟩
          have hcn1 : cnt l (k + 1) e.t = cn + 1 := by rw [HT.out.2.2.1, hcn]
          have hcnb : cn ≤ 40 := by rw [← hcn]; unfold cnt; refine Nat.le_trans (List.countP_le_length) ?_; rw [List.length_take]; omega
          have hlk : (Instr.lookup 68 (.map (some mb)) (.int .i64 e.t) false).run Try.prog wc = .ok (.int .i64 (cn : Int)) wc := by rw [hO3.map.look e.t HT.out.2.2.2.2.1, hcn]
          obtain ⟨W7, hup0, hcm0, hg7⟩ := hO3.map.put (by omega) e.t HT.out.2.2.2.2.1 (cn + 1)
          have hup : (Instr.mapUpdate 68 (.map (some mb)) (.int .i64 e.t) (.int .i64 ((cn : Int) + 1))).run Try.prog wc = .ok () W7 := hup0
          have hcm7 : CnM W7 mb (k + 1) (fun t => cnt l (k + 1) t) := hcm0.congr (fun t => by have := HT.out.2.1 t; rw [hcn] at this; exact this)
          have hO7 := hO3.count hsz3 H4.out.2 hcm7 hg7
          have hsz7 : nb ≤ W7.heap.size := Nat.le_trans hsz3 hg7.size
          have hlk7 : (Instr.lookup 68 (.map (some mb)) (.int .i64 e.t) false).run Try.prog W7 = .ok (.int .i64 ((cn : Int) + 1)) W7 := by rw [hcm7.look e.t HT.out.2.2.2.2.1, hcn1]; rfl
          have hbx7 := (hg7.block bx (Array.getElem?_eq_some_iff.1 hbx3).1 (by
            intro e0
            cases e0
            obtain ⟨f, cnt', h1, _⟩ := hO3.map
            obtain ⟨es, ck, h2⟩ := h1.obj
            rw [hbx3] at h2; cases h2)).trans hbx3
          have x1 : W7.cell? ⟨bx, 1, none⟩ = some (.int .i64 e.t) := by rw [cell_of_row _ _ _ _ _ _ hbx7]; rfl
          obtain ⟨tc, tf⟩ := hO7.num.cell lenI (numF_len _ _ _) k (by rw [numF_len]; exact hkl) 0 _ rfl
          have hO8 := hO7.number hsz7 (numF_len _ _ _) k hkl ((cn : Int) + 1)
          rw [show ((cn : Int) + 1) = (cnt l (k + 1) e.t : Int) by rw [hcn1]; rfl, HT.out.2.2.2.1] at hO8
          rw [show (cnt l (k + 1) e.t : Int) = ((cn : Int) + 1) by rw [hcn1]; rfl] at hO8
          simp only [Nat.mul_one, Nat.add_zero] at tc tf
          rw [numF_at, if_neg (by omega)] at tc
          obtain ⟨W8, hW8⟩ : ∃ W8, W7.setCell ⟨nb, k, none⟩ (.int .i64 ((cn : Int) + 1)) = W8 := ⟨_, rfl⟩
          rw [hW8] at hO8
          have hsz8 : nb ≤ W8.heap.size := by rw [← hW8]; simpa using hsz7
          have hb9 : Below W8.heap.size W8 (W8.alloc (.cells #[.int .i64 (k : Int)] 3)) := (Below.refl _ _).alloc (Nat.le_refl _) _
          have HU := Lib.hid (And.intro (hO8.rest hsz8 hb9) (And.intro (Nat.le_trans hsz8 hb9.size) (show (k + 1) * 8 ≤ 140737488355328 by omega)))
          clear hcn hcn1 hup0 hcm0 hg7 hcm7 hO7 hO3 hsz3 hbx3 hsz7 hbx7 hO8 hsz8 hb9 HCT y1
          go_upto_region 18 with fail
          clear hlk hup z1
          go_upto_region 19 with fail
          try rw [hW8]
          clear hW8 hlk7 tc tf x1
          go_wp2_with (at_builtin; refine wpList_append_told lenN oneN _ rfl (.tmp 83) (.tmp 85) 33 rfl nb 3 _ 8 Try.underlying33 info3 rfl (by decide) (by decide) (.slice S2 k c2) (List.range k) k (by simp) rfl HU.out.1.ord ⟨W8.heap.size, 0, none⟩ 1 1 [k] rfl rfl (by decide) (rd_one encN 1 _ k 3 _ rfl _ rfl) HU.out.2.2 HU.out.2.1 ?_; intro g3 cap3 w7 hown7 hgr7 hl7; have HGG := Lib.hid (And.intro hown7 (And.intro hgr7 hl7)); clear hown7 hgr7 hl7)
          go_roundg (gk - 1)
          case measure => omega
          case rel =>
            have h9 := HU.out.1.order HU.out.2.1 HGG.out.1 HGG.out.2.1 HGG.out.2.2
            rw [← List.range_succ] at h9
            exact ⟨k + 1, S3, c3, _, _, by omega, by go_num, by rw [HT.out.1], rfl, by rw [HT.out.1]; exact h9⟩
      · have hd : decide (k < l.length) = false := decide_eq_false hkl
        obtain rfl : k = l.length := by omega
        rw [List.take_length] at hO
        rw [List.take_length]
        have hlow : Below w2.heap.size w2 wo := by have := hO.low; rw [← H2.out.2.2.2] at this; exact this
        obtain ⟨S1', c1', hv1, _, hrT, _⟩ := hO.own.form lenI
        obtain ⟨rfl, hq1, rfl⟩ := Value.slice.inj hv1
        obtain ⟨SN, cN, hvN, _, hrN, _⟩ := hO.num.form lenI
        obtain ⟨rfl, hqN, rfl⟩ := Value.slice.inj hvN
        obtain ⟨S2', c2', hv2, hcap2, hrO, _⟩ := hO.ord.form lenN
        obtain ⟨rfl, hq2, rfl⟩ := Value.slice.inj hv2
        have hKl := tkF_len l
        obtain ⟨i1, hi1, hz1, hs1, hbb1⟩ := info_parts info71
        obtain ⟨W10, hmk, hown10, hg10⟩ := run_makeSlice_full (P := Try.prog) (w := wo) wo.heap.size 70 71 i1 _ 1 Try.underlying70 hi1 hz1 hs1 .i64 .i64 l.length (by omega) (by rw [hbb1]; omega) (by simp [maxLen]; omega) (Nat.le_refl _)
        rw [made_slices] at hown10
        have hV10 : Own encV 1 71 W10 wo.heap.size (.slice (some ⟨wo.heap.size, 0, none⟩) l.length l.length) (List.replicate l.length (.slice none 0 0)) := by unfold Own; rw [List.length_replicate]; exact hown10
        have b10 : Below wo.heap.size wo W10 := (Below.refl _ wo).grown hg10 (Nat.le_refl _) (fun b hb => by cases hb)
        have hmk' : (Instr.makeSlice 70 (.int .i64 (l.length : Int)) (.int .i64 (l.length : Int))).run Try.prog wo = .ok (.slice (some ⟨wo.heap.size, 0, none⟩) l.length l.length) W10 := hmk
        obtain ⟨bb, hbb⟩ : ∃ bb, wo.heap.size = bb := ⟨_, rfl⟩
        have hbbl : bb < W10.heap.size := by rw [hbb] at hV10; exact (hV10.blk bb rfl).2.1
        rw [hbb] at hmk' hV10 b10
        have H5 := Lib.hid (And.intro hlow (And.intro hrT (And.intro hrN (And.intro hrO (And.intro hcap2 hbb)))))
        have H6 := Lib.hid (And.intro hV10 (And.intro b10 hbbl))
        clear hq1 hqN hq2 hlow hrT hrN hrO hcap2 hbb hV10 b10 hmk hown10 hg10 hi1 hz1 hs1 hbb1 i1 hO hv1 hvN hv2 hszo hd hbbl
        go_upto_region 22 with fail
        clear hmk'
        go_wp2_with fail
        go_loopg [15, 16, 17, 18, 19, 91, 92, 93, 94, 95, 96, 97, 98, 99, 100, 101, 102, 103, 104, 105, 106, 107, 108, 109, 110, 111, 112, 113, 114, 115, 116, 117, 118, 119, 120, 121, 122, 123, 124, 125, 126, 127, 128, 129, 130, 131, 132, 133, 134, 135, 136, 137, 138, 139, 140, 141, 142, 143, 144, 145, 146, 147, 148, 149, 150, 151, 152, 153, 154, 155, 156, 157, 158, 159, 160, 161, 162, 163] l.length (fun gk v15 v16 v17 v18 v19 v91 v92 v93 v94 v95 v96 v97 v98 v99 v100 v101 v102 v103 v104 v105 v106 v107 v108 v109 v110 v111 v112 v113 v114 v115 v116 v117 v118 v119 v120 v121 v122 v123 v124 v125 v126 v127 v128 v129 v130 v131 v132 v133 v134 v135 v136 v137 v138 v139 v140 v141 v142 v143 v144 v145 v146 v147 v148 v149 v150 v151 v152 v153 v154 v155 v156 v157 v158 v159 v160 v161 v162 v163 wr => ∃ (i : Nat) (vs : List Value), i + gk = l.length ∧ v91 = .int .i64 (i : Int) ∧ vs.length = l.length ∧ Own encV 1 71 wr bb (.slice (some ⟨bb, 0, none⟩) l.length l.length) vs ∧ (∀ q, i ≤ q → q < l.length → vs[q]? = some (.slice none 0 0)) ∧ (∀ q, q < i → ∃ v, vs[q]? = some v ∧ DoneR wr wr.heap.size bb l q v) ∧ Below bb wo wr ∧ bb < wr.heap.size)
        case atStart => exact ⟨0, _, by omega, rfl, by simp, H6.out.1, fun q _ hq => by simp [hq], fun q hq => by omega, H6.out.2⟩
        case round =>
          obtain ⟨i, vs, hi, rfl, hvl, hV, hnil, hdone, hbl, hbbl⟩ := hrel
          obtain ⟨g1, hg1⟩ : ∃ g1, g1 = gk := ⟨_, rfl⟩
          subst hg1
          obtain ⟨wi, hwi⟩ : ∃ wi, wi = wr := ⟨_, rfl⟩
          subst hwi
          clear H6
          by_cases hil : i < l.length
          · have hd : decide (i < l.length) = true := decide_eq_true hil
            obtain ⟨BI, hBI⟩ : ∃ BI, wi.heap.size = BI := ⟨_, rfl⟩
            rw [hBI] at hdone hbbl
            have hVi : Own encV 1 71 wi bb (.slice (some ⟨bb, 0, none⟩) l.length l.length) (vs.set i (.slice none 0 0)) := by
              have : vs.set i (.slice none 0 0) = vs := by
                have h1 := hnil i (Nat.le_refl _) hil
                obtain ⟨h2, h3⟩ := List.getElem?_eq_some_iff.1 h1
                rw [← h3]; exact List.set_getElem_self h2
              rw [this]; exact hV
            have HI := Lib.hid (And.intro hVi (And.intro hdone (And.intro hbl hbbl)))
            have HJ := Lib.hid (And.intro hvl (And.intro hnil hBI))
            clear hV hVi hdone hbl hbbl hvl hnil
            go_upto_region 25 with fail
            go_wp2_with fail
            go_loopg [16, 17, 18, 19, 95, 96, 97, 98, 99, 100, 101, 102, 103, 104, 105, 106, 107, 108, 109, 110, 111, 112, 113, 114, 115, 116, 117, 118, 119, 120, 121, 122, 123, 124, 125, 126, 127, 128, 129, 130, 131, 132, 133, 134, 135, 136, 137, 138, 139, 140, 141, 142, 143, 144, 145, 146, 147, 148, 149, 150, 151, 152, 153, 154, 155, 156, 157, 158, 159, 160, 161, 162] l.length (fun gk v16 v17 v18 v19 v95 v96 v97 v98 v99 v100 v101 v102 v103 v104 v105 v106 v107 v108 v109 v110 v111 v112 v113 v114 v115 v116 v117 v118 v119 v120 v121 v122 v123 v124 v125 v126 v127 v128 v129 v130 v131 v132 v133 v134 v135 v136 v137 v138 v139 v140 v141 v142 v143 v144 v145 v146 v147 v148 v149 v150 v151 v152 v153 v154 v155 v156 v157 v158 v159 v160 v161 v162 wr => ∃ (j : Nat) (vi : Value), j + gk = l.length ∧ v95 = .int .i64 (j : Int) ∧ Own encB 1 4 wr BI vi ((List.range j).map (bfB l i)) ∧ Own encV 1 71 wr bb (.slice (some ⟨bb, 0, none⟩) l.length l.length) (vs.set i vi) ∧ (∀ q, q < i → ∃ v, vs[q]? = some v ∧ DoneR wr BI bb l q v) ∧ Below bb wo wr ∧ BI ≤ wr.heap.size)
            case atStart => exact ⟨0, .slice none 0 0, by omega, rfl, World.ownsRow_nil _ _ _ _, HI.out.1, HI.out.2.1, HI.out.2.2.1, by rw [HJ.out.2.2]; exact Nat.le_refl _⟩
            case round =>
              obtain ⟨j, vi, hj, rfl, hB, hV, hdone, hbl, hsz⟩ := hrel
              obtain ⟨wj, hwj⟩ : ∃ wj, wj = wr := ⟨_, rfl⟩
              subst hwj
              by_cases hjl : j < l.length
              · have hd : decide (j < l.length) = true := decide_eq_true hjl
                obtain ⟨SI, cI, hvi, _, _, _⟩ := hB.form lenB
                rw [List.length_map, List.length_range] at hvi
                subst hvi
                have hlowj : Below w2.heap.size w2 wj := H5.out.1.trans ((show Below wo.heap.size wo wj by rw [H5.out.2.2.2.2.2]; exact hbl).mono H5.out.1.size)
                have hrdj := H2.out.2.1.below hlowj
                cases B with
                | none =>
                  exfalso
                  obtain ⟨a, ha, _⟩ := hrdj.cell j hjl
                  cases ha
                | some a =>
                have hbf := Before_calls l HOK.out HV.out.1 i j hil hjl (some a) cp wj hrdj
                obtain ⟨b, hbb⟩ : ∃ b, bfB l i j = b := ⟨_, rfl⟩
                rw [hbb] at hbf
                obtain ⟨sa, gj, cg, hSA, hc1, hc2⟩ := H2.out.2.2.1 j hjl
                subst hSA
                have HBF := Lib.hid hbf
                have HBB := Lib.hid hbb
                have HX := Lib.hid (And.intro hB (And.intro hV (And.intro hdone (And.intro hbl (And.intro hsz (And.intro hlowj (And.intro hc1 hc2)))))))
                clear hB hV hdone hbl hsz hlowj hrdj hbf hbb hc1 hc2
                go_upto_region 29 with ((with_reducible refine (HBF.out).mono ?_); rintro e w6 ⟨rfl, hb6⟩)
                have hlow6 := HX.out.2.2.2.2.2.1.trans (hb6.mono HX.out.2.2.2.2.2.1.size)
                have x1 : w6.cell? (sa.add j) = some (.slice (some ⟨gj, 0, none⟩) (tkF l).length cg) := (hlow6.cell (World.block_lt_of_cell? _ _ HX.out.2.2.2.2.2.2.1)).trans HX.out.2.2.2.2.2.2.1
                have H6 := Lib.hid (And.intro hb6 hlow6)
                clear hb6 hlow6
                go_cut [124] (fun s124 wx => s124 = .bool false ∧ wx = w6)
                case first =>
                  cases b with
                  | true =>
                    have hij := bf_lt l i j HBB.out
                    have d5 : decide (j ≤ i) = false := decide_eq_false (by omega)
                    have d6 : decide ((j : Int) ≤ (i : Int)) = false := decide_eq_false (by omega)
                    clear hij
                    go_wp2_with fail
                    go_meet
                    exact ⟨rfl, rfl⟩
                  | false =>
                    go_wp2_with fail
                    go_meet
                    exact ⟨rfl, rfl⟩
                case rest =>
                  obtain ⟨rfl, rfl⟩ := hcut
                  have hsz6 : BI ≤ wc.heap.size := Nat.le_trans HX.out.2.2.2.2.1 H6.out.1.size
                  have b6 : Below BI wj wc := H6.out.1.mono HX.out.2.2.2.2.1
                  have b7 : Below wc.heap.size wc (wc.alloc (.cells #[.bool b] 4)) := (Below.refl _ _).alloc (Nat.le_refl _) _
                  have hB7 := (HX.out.1.rest H6.out.1).rest b7
                  have hV7 := (HX.out.2.1.rest H6.out.1).rest b7
                  have b67 : Below BI wj (wc.alloc (.cells #[.bool b] 4)) := b6.trans (b7.mono hsz6)
                  have hVs : (vs.set i (.slice SI j cI)).length = l.length := by rw [List.length_set]; exact HJ.out.1
                  obtain ⟨tc0, _⟩ := (HX.out.2.1.rest H6.out.1).cell lenV hVs i (by rw [hVs]; exact hil) 0 _ rfl
                  simp only [Nat.mul_one, Nat.add_zero, List.getElem_set_self] at tc0
                  have hne : some bb ≠ (Value.slice SI j cI).ownBlock := fun e0 => by have := (hB7.blk bb e0.symm).1; have := HI.out.2.2.2; omega
                  have HU := Lib.hid (And.intro hB7 (And.intro hV7 (And.intro b67 (And.intro (Nat.le_trans hsz6 b7.size) (And.intro hVs (And.intro hne (show (j + 1) * 1 ≤ 140737488355328 by omega)))))))
                  clear hsz6 b6 b7 hB7 hV7 b67 hVs hne
                  go_upto_region 32 with (at_builtin; refine wpList_append_told lenB oneB _ rfl (.tmp 130) (.tmp 132) 71 rfl BI 4 _ 1 Try.underlying71 info4 rfl (by decide) (by decide) (.slice SI j cI) ((List.range j).map (bfB l i)) j (by simp) rfl HU.out.1 ⟨wc.heap.size, 0, none⟩ 1 1 [b] rfl rfl (by decide) (rd_one encB 1 _ b 4 _ rfl _ rfl) HU.out.2.2.2.2.2.2 HU.out.2.2.2.1 ?_; intro g3 cap3 w9 hown9 hgr9 hl9; obtain ⟨tc, tf⟩ := (HU.out.2.1.grown hgr9 (.inr (fun e0 => HU.out.2.2.2.2.2.1 e0))).cell lenV HU.out.2.2.2.2.1 i (by rw [HU.out.2.2.2.2.1]; exact hil) 0 _ rfl; simp only [Nat.mul_one, Nat.add_zero, List.getElem_set_self] at tc tf; have HGG := Lib.hid (And.intro hown9 (And.intro hgr9 hl9)); clear hown9 hgr9 hl9)
                  obtain ⟨W10, hW10⟩ : ∃ W10, w9.setCell ⟨bb, i, none⟩ (.slice (some ⟨g3, 0, none⟩) (j + 1) cap3) = W10 := ⟨_, rfl⟩
                  have hV9 := HU.out.2.1.grown HGG.out.2.1 (.inr (fun e0 => HU.out.2.2.2.2.2.1 e0))
                  have hst := hV9.set lenV HU.out.2.2.2.2.1 i (by rw [HU.out.2.2.2.2.1]; exact hil) 0 (by decide) (.slice (some ⟨g3, 0, none⟩) (j + 1) cap3) (.slice (some ⟨g3, 0, none⟩) (j + 1) cap3) rfl
                  simp only [Nat.mul_one, Nat.add_zero, List.set_set] at hst
                  have hBg : BI ≤ g3 := (HGG.out.1.blk g3 rfl).1
                  have hB10 := HGG.out.1.grown hst.2 (.inr (fun e0 => by have e1 : g3 = bb := Option.some.inj e0; have := HI.out.2.2.2; omega))
                  have b69 : Below BI wj w9 := HU.out.2.2.1.grown HGG.out.2.1 HU.out.2.2.2.1 (fun q hq => (HU.out.1.blk q hq).1)
                  have hd10 : ∀ q, q < i → ∃ v, vs[q]? = some v ∧ DoneR W10 BI bb l q v := fun q hq => by
                    obtain ⟨v, v1, v2⟩ := HX.out.2.2.1 q hq
                    exact ⟨v, v1, by rw [← hW10]; exact (v2.below b69).set _ _⟩
                  have hbBI : bb ≤ BI := Nat.le_of_lt HI.out.2.2.2
                  have hbW : Below bb wo W10 := by rw [← hW10]; exact (HX.out.2.2.2.1.trans (b69.mono hbBI)).setCell (Nat.le_refl _) _
                  have hszW : BI ≤ W10.heap.size := by rw [← hW10, World.size_setCell]; exact Nat.le_trans HU.out.2.2.2.1 HGG.out.2.1.size
                  rw [hW10] at hst hB10
                  have hbW2 : Below w2.heap.size w2 W10 := H5.out.1.trans ((show Below wo.heap.size wo W10 by rw [H5.out.2.2.2.2.2]; exact hbW).mono H5.out.1.size)
                  have hbWo : Below wo.heap.size wo W10 := by rw [H5.out.2.2.2.2.2]; exact hbW
                  have hrT := H5.out.2.1.below hbWo
                  obtain ⟨an, han, hnc⟩ := (H5.out.2.2.1.below hbWo).int i (by rw [numF_len]; exact hil)
                  cases han
                  rw [numF_at, if_pos hil, add_at] at hnc
                  obtain ⟨_, z1, _⟩ := ev_eleven (ev_cells (H2.out.2.1.below hbW2) i hil)
                  rw [← evA_eq l i hil] at z1
                  have hmem := evA_mem l i hil
                  have hix := index_calls (tkF l) (evA l i).t S1 c1 W10 hrT
                  rw [idxF_idxOf _ _ hmem] at hix
                  have hidx : (tkF l).idxOf (evA l i).t < (tkF l).length := List.idxOf_lt_length_of_mem hmem
                  have x1' : W10.cell? (sa.add j) = some (.slice (some ⟨gj, 0, none⟩) (tkF l).length cg) := (hbW2.cell (World.block_lt_of_cell? _ _ HX.out.2.2.2.2.2.2.1)).trans HX.out.2.2.2.2.2.2.1
                  have x2' := HX.out.2.2.2.2.2.2.2 _ hidx
                  have x2'' := (hbW2.cell (World.block_lt_of_cell? _ _ x2')).trans x2'
                  have hcmp : i ≠ j → decide ((cnt l (i + 1) (evA l i).t : Int) ≤ clkN l j ((tkF l).idxOf (evA l i).t)) = b := fun hne => by rw [← bf_count l HV.out.2 i j hil hjl hne, HBB.out]
                  generalize (evA l i).t = ti at *
                  generalize cnt l (i + 1) ti = num at *
                  generalize (tkF l).idxOf ti = ix at *
                  generalize clkN l j ix = ck at *
                  have HIX := Lib.hid hix
                  have HW := Lib.hid hW10
                  have HF := Lib.hid (And.intro hst.1 (And.intro hB10 (And.intro hd10 (And.intro hbW (And.intro hszW hbW2)))))
                  clear hV9 hst hBg hB10 b69 hd10 hbBI hbW hszW hbW2 hbWo hrT hmem hix x2' tc tf x1 tc0
                  rw [HW.out]
                  clear hW10
                  have hixi : (ix : Int) < ((tkF l).length : Int) := by omega
                  have hii : (i : Int) < (l.length : Int) := by omega
                  have hjj : (j : Int) < (l.length : Int) := by omega
                  go_upto_region 33 with ((with_reducible refine (HIX.out).mono ?_); rintro e w11 ⟨rfl, rfl⟩)
                  by_cases hij : i = j
                  · have e1 : (i != j) = false := by simp [hij]
                    have e2 : ((i : Int) != (j : Int)) = false := by simp [hij]
                    clear hij hcmp
                    go_quiet (fail)
                    go_wp2_with fail
                    go_roundg (gk - 1)
                    case measure => omega
                    case rel => exact ⟨j + 1, _, by omega, by go_num, by
                      rw [List.range_succ, List.map_append, List.map_singleton, HBB.out]
                      exact HF.out.2.1.rest (drewN_below (Below.refl _ _) _), HF.out.1.rest (drewN_below (Below.refl _ _) _), fun q hq => by
                        obtain ⟨v, v1, v2⟩ := HF.out.2.2.1 q hq
                        exact ⟨v, v1, v2.below (drewN_below (Below.refl _ _) _)⟩, drewN_below HF.out.2.2.2.1 _, HF.out.2.2.2.2.1⟩
                  · have e1 : (i != j) = true := by simpa using hij
                    have e2 : ((i : Int) != (j : Int)) = true := by rw [bne_iff_ne]; omega
                    have hcmp := hcmp hij
                    clear hij
                    go_quiet (fail)
                    go_wp2_with fail
                    go_roundg (gk - 1)
                    case measure => omega
                    case rel => exact ⟨j + 1, _, by omega, by go_num, by
                      rw [List.range_succ, List.map_append, List.map_singleton, HBB.out]
                      exact HF.out.2.1.rest (drewN_below (Below.refl _ _) _), HF.out.1.rest (drewN_below (Below.refl _ _) _), fun q hq => by
                        obtain ⟨v, v1, v2⟩ := HF.out.2.2.1 q hq
                        exact ⟨v, v1, v2.below (drewN_below (Below.refl _ _) _)⟩, drewN_below HF.out.2.2.2.1 _, HF.out.2.2.2.2.1⟩
              · have hd : decide (j < l.length) = false := decide_eq_false hjl
                obtain rfl : j = l.length := by omega
                have hvi := hB.row lenB (by rw [List.length_map, List.length_range]; omega)
                rw [List.length_map, List.length_range] at hvi
                obtain ⟨gi, ci, rfl, hgi, hgs, hri⟩ := hvi
                have hdi : DoneR wj wj.heap.size bb l i (.slice (some ⟨gi, 0, none⟩) l.length ci) := ⟨gi, ci, rfl, by have := HI.out.2.2.2; omega, hgs, fun x hx => by
                  obtain ⟨a, ha, hc⟩ := hri.cell x (by rw [List.length_map, List.length_range]; exact hx)
                  cases ha
                  have := hc 0 _ rfl
                  rw [Nat.mul_one, Nat.add_zero, add_at] at this
                  rw [this]
                  simp⟩
                have HE := Lib.hid (And.intro hdi (And.intro hV (And.intro hdone (And.intro hbl hsz))))
                clear hB hV hdone hbl hsz hri hgi hgs hdi
                go_wp2_with fail
                go_roundg (g1 - 1)
                case measure => omega
                case rel =>
                  refine ⟨i + 1, _, by omega, by go_num, by rw [List.length_set]; exact HJ.out.1, HE.out.2.1, fun q h1 h2 => ?_, fun q hq => ?_, HE.out.2.2.2.1, Nat.lt_of_lt_of_le HI.out.2.2.2 HE.out.2.2.2.2⟩
                  · rw [List.getElem?_set_ne (by omega)]
                    exact HJ.out.2.1 q (by omega) h2
                  · by_cases e0 : q = i
                    · subst e0
                      exact ⟨_, List.getElem?_set_self (by rw [HJ.out.1]; exact hil), HE.out.1⟩
                    · obtain ⟨v, v1, v2⟩ := HE.out.2.2.1 q (by omega)
                      exact ⟨v, by rw [List.getElem?_set_ne (by omega)]; exact v1, v2.mono HE.out.2.2.2.2⟩
          · have hd : decide (i < l.length) = false := decide_eq_false hil
            obtain rfl : i = l.length := by omega
            have htab : ∀ q, q < l.length → ∃ g c, wi.cell? ⟨bb, q, none⟩ = some (.slice (some ⟨g, 0, none⟩) l.length c) ∧ ∀ x, x < l.length → wi.cell? ⟨g, x, none⟩ = some (.bool (bfB l q x)) := fun q hq => by
              obtain ⟨v, v1, g, c, rfl, _, _, v2⟩ := hdone q hq
              obtain ⟨h1, h2⟩ := List.getElem?_eq_some_iff.1 v1
              obtain ⟨tc, _⟩ := hV.cell lenV hvl q h1 0 _ rfl
              simp only [Nat.mul_one, Nat.add_zero, h2] at tc
              exact ⟨g, c, tc, v2⟩
            have hbWo : Below wo.heap.size wo wi := by rw [H5.out.2.2.2.2.2]; exact hbl
            have hbW2 : Below w2.heap.size w2 wi := H5.out.1.trans (hbWo.mono H5.out.1.size)
            have hro := reorder_calls l HOK.out HV.out.1 h40 (List.range l.length) (fun j hj => by simpa using hj) List.nodup_range (by simp) B cp S2 c2 H5.out.2.2.2.2.1 wi (H2.out.2.1.below hbW2) (H5.out.2.2.2.1.below hbWo)
            unfold RoPost at hro
            rw [pm_id, if_pos rfl, if_pos rfl, map_id, List.length_range] at hro
            have HTb := Lib.hid htab
            have HRO := Lib.hid hro
            have HEND := Lib.hid (And.intro hbW2 (H2.out.2.1.below hbW2))
            clear htab hbWo hbW2 hro hV hnil hdone hbl hbbl hvl
            go_upto_region 38 with fail
            go_wp2_with fail
            go_loopg [20, 21, 22, 165, 166, 167, 168, 169, 170, 171, 172, 173, 174, 175, 176, 177, 178, 179, 180, 181, 182, 183, 184, 185, 186, 187, 188, 189, 190, 191, 192, 193, 194, 195, 196, 197, 198, 199, 200, 201, 202, 203, 204] l.length (fun gk v20 v21 v22 v165 v166 v167 v168 v169 v170 v171 v172 v173 v174 v175 v176 v177 v178 v179 v180 v181 v182 v183 v184 v185 v186 v187 v188 v189 v190 v191 v192 v193 v194 v195 v196 v197 v198 v199 v200 v201 v202 v203 v204 wr => ∃ a : Nat, a + gk = l.length ∧ v165 = .int .i64 (a : Int) ∧ wi = wr)
            case atStart => exact ⟨0, by omega, rfl, rfl⟩
            case round =>
              obtain ⟨a, ha, rfl, rfl⟩ := hrel
              obtain ⟨g2, hg2⟩ : ∃ g2, g2 = gk := ⟨_, rfl⟩
              subst hg2
              by_cases hal : a < l.length
              · have hd : decide (a < l.length) = true := decide_eq_true hal
                go_upto_region 41 with fail
                go_wp2_with fail
                go_loopg [21, 22, 169, 170, 171, 172, 173, 174, 175, 176, 177, 178, 179, 180, 181, 182, 183, 184, 185, 186, 187, 188, 189, 190, 191, 192, 193, 194, 195, 196, 197, 198, 199, 200, 201, 202, 203] l.length (fun gk v21 v22 v169 v170 v171 v172 v173 v174 v175 v176 v177 v178 v179 v180 v181 v182 v183 v184 v185 v186 v187 v188 v189 v190 v191 v192 v193 v194 v195 v196 v197 v198 v199 v200 v201 v202 v203 wr => ∃ b : Nat, b + gk = l.length ∧ v169 = .int .i64 (b : Int) ∧ wi = wr)
                case atStart => exact ⟨0, by omega, rfl, rfl⟩
                case round =>
                  obtain ⟨b, hb, rfl, rfl⟩ := hrel
                  obtain ⟨g3, hg3⟩ : ∃ g3, g3 = gk := ⟨_, rfl⟩
                  subst hg3
                  by_cases hbl : b < l.length
                  · have hd : decide (b < l.length) = true := decide_eq_true hbl
                    go_upto_region 44 with fail
                    go_wp2_with fail
                    go_loopg [22, 173, 174, 175, 176, 177, 178, 179, 180, 181, 182, 183, 184, 185, 186, 187, 188, 189, 190, 191, 192, 193, 194, 195, 196, 197, 198, 199, 200, 201, 202] l.length (fun gk v22 v173 v174 v175 v176 v177 v178 v179 v180 v181 v182 v183 v184 v185 v186 v187 v188 v189 v190 v191 v192 v193 v194 v195 v196 v197 v198 v199 v200 v201 v202 wr => ∃ c : Nat, c + gk = l.length ∧ v173 = .int .i64 (c : Int) ∧ wi = wr)
                    case atStart => exact ⟨0, by omega, rfl, rfl⟩
                    case round =>
                      obtain ⟨c', hc, rfl, rfl⟩ := hrel
                      by_cases hcl : c' < l.length
                      · have hd : decide (c' < l.length) = true := decide_eq_true hcl
                        obtain ⟨ga, ca, r1, r2⟩ := HTb.out a hal
                        obtain ⟨gb, cb, r3, r4⟩ := HTb.out b hbl
                        have s1 := r2 b hbl
                        have s2 := r4 c' hcl
                        have s3 := r2 c' hcl
                        have htr := bf_trans l HV.out.2 a b c' hcl
                        clear r2 r4
                        generalize bfB l a b = p at *
                        generalize bfB l b c' = q at *
                        generalize bfB l a c' = r at *
                        have hai : (a : Int) < (l.length : Int) := by omega
                        have hbi : (b : Int) < (l.length : Int) := by omega
                        have hci : (c' : Int) < (l.length : Int) := by omega
                        cases p with
                        | false =>
                          clear htr
                          go_wp2_with fail
                          go_roundg (gk - 1)
                          case measure => omega
                          case rel => exact ⟨c' + 1, by omega, by go_num, rfl⟩
                        | true =>
                          cases q with
                          | false =>
                            clear htr
                            go_wp2_with fail
                            go_roundg (gk - 1)
                            case measure => omega
                            case rel => exact ⟨c' + 1, by omega, by go_num, rfl⟩
                          | true =>
                            obtain rfl : r = true := htr rfl rfl
                            clear htr
                            go_wp2_with fail
                            go_roundg (gk - 1)
                            case measure => omega
                            case rel => exact ⟨c' + 1, by omega, by go_num, rfl⟩
                      · have hd : decide (c' < l.length) = false := decide_eq_false hcl
                        go_wp2_with fail
                        go_roundg (g3 - 1)
                        case measure => omega
                        case rel => exact ⟨b + 1, by omega, by go_num, rfl⟩
                  · have hd : decide (b < l.length) = false := decide_eq_false hbl
                    go_wp2_with fail
                    go_roundg (g2 - 1)
                    case measure => omega
                    case rel => exact ⟨a + 1, by omega, by go_num, rfl⟩
              · have hd : decide (a < l.length) = false := decide_eq_false hal
                go_wp2_with fail
                (with_reducible refine (HRO.out).mono ?_); rintro e w20 ⟨v, rfl, hov, hb20⟩
                obtain ⟨SX, cX, rfl, _, hrX, _⟩ := hov.form lenE
                have hlow := HEND.out.1.trans (hb20.mono HEND.out.1.size)
                have heq := equalE_calls l SX B cX cp w20 hrX (HEND.out.2.below hb20)
                have HEQ := Lib.hid heq
                have HL := Lib.hid (H2.out.1.trans (hlow.mono H2.out.1.size))
                clear hov hb20 hrX hlow heq
                go_wp2_with fail
                (with_reducible refine (HEQ.out).mono ?_); rintro e w21 ⟨rfl, hb21⟩
                have HL2 := Lib.hid (HL.out.trans (hb21.mono HL.out.size))
                clear hb21
                go_wp2_with fail
                (with_reducible refine (HA.out _).mono ?_); rintro e w22 ⟨rfl, hb22⟩
                have HL3 := Lib.hid (HL2.out.trans (hb22.mono HL2.out.size))
                clear hb22
                go_wp2_with fail
                go_ret
                exact ⟨rfl, HL3.out⟩
end Go.Proofs.Ythebembnlmddoaa
