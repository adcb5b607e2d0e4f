import Derived.Test.YthpcipfloofbcaaBL
namespace Go.Proofs.Ythpcipfloofbcaa
open Go.RowKit
set_option maxHeartbeats 8000000
set_option maxRecDepth 100000
set_option linter.unusedSimpArgs false
set_option linter.unusedVariables false

theorem plays_calls (s : St) (A : Option Addr) (c : Nat) (B : Option Addr) (d : Nat) (M : Option Addr) (ms : List Mov) (cm : Nat) (waves : Int) (w : World) (h : RdS w A B s) (hM : Rd encV 3 w M ms) :
    Calls Try.prog 4 #[s.v A c B d, .slice M ms.length cm, .int .i64 waves] w fun e w' => e = .returned (.bool true) ∧ Below w.heap.size w w' := by
  have hae := awake_calls
  have HAE := Lib.hid hae
  obtain ⟨W, hW⟩ : ∃ W, w.alloc (.cells (cellsS s (.slice A s.ms.length c) (.slice B s.fl.length d)) 44) = W := ⟨_, rfl⟩
  have hb : Below w.heap.size w W := by rw [← hW]; exact (Below.refl _ _).alloc (Nat.le_refl _) _
  have hr0 : W.heap[w.heap.size]? = some (.cells (cellsS s (.slice A s.ms.length c) (.slice B s.fl.length d)) 44 (0, 0)) := by rw [← hW]; exact heap_alloc_new w _
  obtain ⟨z0, z1, z2, z3, z4, z5, z6, z7, z8⟩ := nineT hr0
  have hl1 := h.ms.small
  have hl2 := h.fl.small
  have hl3 := hM.small
  have HW := Lib.hid (And.intro hW (And.intro hb (And.intro hr0 (And.intro (h.below hb) (hM.below hb)))))
  clear hae hW hr0 hb h hM
  go_enter Try.func4, Try.ntmps4
  go_upto_region 1 with fail
  rw [HW.out.1]
  go_cut [28] (fun s28 wx => s28 = .bool (decide (12 < s.ms.length) || decide (102 < s.fl.length) || decide (100 < ms.length)) ∧ W = wx)
  case first =>
    by_cases h1 : (12 : Int) < (s.ms.length : Int)
    · go_wp2_with fail
      all_goals go_meet
      all_goals exact ⟨congrArg Value.bool (by simp; omega), rfl⟩
    · by_cases h2 : (102 : Int) < (s.fl.length : Int)
      · go_wp2_with fail
        all_goals go_meet
        all_goals exact ⟨congrArg Value.bool (by simp; omega), rfl⟩
      · by_cases h3 : (100 : Int) < (ms.length : Int)
        · go_wp2_with fail
          all_goals go_meet
          all_goals exact ⟨congrArg Value.bool (by simp; omega), rfl⟩
        · go_wp2_with fail
          all_goals go_meet
          all_goals exact ⟨congrArg Value.bool (by simp; omega), rfl⟩
  case rest =>
    obtain ⟨rfl, rfl⟩ := hcut
    cases hg : (decide (12 < s.ms.length) || decide (102 < s.fl.length) || decide (100 < ms.length)) with
    | true =>
      clear hg
      go_wp2_with fail
      refine (HAE.out _).mono ?_
      rintro e w6 ⟨rfl, hb6⟩
      have HB6 := Lib.hid hb6
      clear hb6
      go_wp2_with fail
      go_ret
      exact ⟨rfl, HW.out.2.1.trans (HB6.out.mono HW.out.2.1.size)⟩
    | false =>
      have hgd : s.ms.length ≤ 12 ∧ s.fl.length ≤ 102 ∧ ms.length ≤ 100 := by simp at hg; omega
      have HG := Lib.hid hgd
      have hgv := given_calls s A c B d W HW.out.2.2.2.1 (by omega)
      have HGV := Lib.hid hgv
      clear hg hgd hgv
      go_upto_region 3 with fail
      go_wp2_with fail
      (with_reducible refine (HGV.out).mono ?_); rintro e w2 ⟨⟨A2, c2, rfl, hrd2⟩, hb2⟩
      obtain ⟨V, hV⟩ : ∃ V, w2.alloc (.cells (cellsS s (.slice A2 s.ms.length c2) (.slice B s.fl.length d)) 27) = V := ⟨_, rfl⟩
      have hVb : Below w2.heap.size w2 V := by rw [← hV]; exact (Below.refl _ _).alloc (Nat.le_refl _) _
      have hWV : Below W.heap.size W V := hb2.trans (hVb.mono hb2.size)
      have hr3 := (hWV.block _ (Array.getElem?_eq_some_iff.1 HW.out.2.2.1).1).trans HW.out.2.2.1
      have hR3 := HW.out.2.2.2.1.below hWV
      have hMV := HW.out.2.2.2.2.below hWV
      have hlo : Below w.heap.size w V := HW.out.2.1.trans (hWV.mono HW.out.2.1.size)
      have hr7 : V.heap[w2.heap.size]? = some (.cells (cellsS s (.slice A2 s.ms.length c2) (.slice B s.fl.length d)) 27 (0, 0)) := by rw [← hV]; exact heap_alloc_new w2 _
      have hrdV : RdS V A2 B s := hrd2.below hVb
      have hsz : w.heap.size < w2.heap.size ∧ w2.heap.size < V.heap.size := by
        have := (Array.getElem?_eq_some_iff.1 HW.out.2.2.1).1
        have := hb2.size
        have := (Array.getElem?_eq_some_iff.1 hr7).1
        omega
      obtain ⟨⟨s2, n2, k2⟩, hr⟩ : ∃ r, playF s ms = r := ⟨_, rfl⟩
      have hmv := fun X (hX : Below V.heap.size V X) => moves_calls M ms cm X (hMV.below hX) (by have := HG.out.2.2; omega)
      have hpl := fun X (D : Option Addr) (dc : Nat) (hX : Below V.heap.size V X) (hD : Rd encV 3 X D ms) (hDs : ∀ a, D = some a → a.block < X.heap.size) => play_calls s A2 c2 B d ms D dc X (hrdV.below hX) hD hDs
      rw [hr] at hpl
      have hB1 : Below V.heap.size V V.drew := (Below.refl _ _).drew
      have hB2 : Below V.heap.size V (V.alloc (.cells zeroS 27)).drew := ((Below.refl _ _).alloc (Nat.le_refl _) _).drew
      have HMV := Lib.hid hmv
      have HPL := Lib.hid hpl
      have HB := Lib.hid (And.intro hB1 hB2)
      have HV := Lib.hid (And.intro hV (And.intro hlo (And.intro hr3 (And.intro hR3 (And.intro hMV (And.intro hr7 (And.intro hrdV (And.intro hsz hr))))))))
      clear hV hVb hWV hr3 hR3 hMV hlo hrd2 hb2 z0 z1 z2 z3 z4 z5 z6 z7 z8 hmv hpl hB1 hB2 hrdV hsz hr
      obtain ⟨z0, z1, z2, z3, z4, z5, z6, z7, z8⟩ := nineT hr7
      have hsk := fun (X : World) (hX : Below V.heap.size V X) => And.intro ((hX.cell (World.block_lt_of_cell? _ _ z0)).trans z0) (And.intro ((hX.cell (World.block_lt_of_cell? _ _ z1)).trans z1) (And.intro ((hX.cell (World.block_lt_of_cell? _ _ z2)).trans z2) (And.intro ((hX.cell (World.block_lt_of_cell? _ _ z3)).trans z3) (And.intro ((hX.cell (World.block_lt_of_cell? _ _ z4)).trans z4) (And.intro ((hX.cell (World.block_lt_of_cell? _ _ z5)).trans z5) (And.intro ((hX.cell (World.block_lt_of_cell? _ _ z6)).trans z6) (And.intro ((hX.cell (World.block_lt_of_cell? _ _ z7)).trans z7) ((hX.cell (World.block_lt_of_cell? _ _ z8)).trans z8))))))))
      have HSK := Lib.hid hsk
      clear hsk hr7
      go_upto_region 4 with fail
      rw [HV.out.1]
      go_cut [8, 9, 10] (fun s8 s9 s10 wx => ∃ b, s8 = .pointer (some ⟨b, 0, none⟩) ∧ s9 = .int .i64 n2 ∧ s10 = .int .i64 k2 ∧ NB 27 V s2 b wx)
      case first =>
        go_region_held3 (fun w' => w'.cell? ⟨w2.heap.size, 0, none⟩ = some (.slice A2 s.ms.length c2) ∧ w'.cell? ⟨w2.heap.size, 1, none⟩ = some (.slice B s.fl.length d) ∧ w'.cell? ⟨w2.heap.size, 2, none⟩ = some (.int .i64 s.wn) ∧ w'.cell? ⟨w2.heap.size, 3, none⟩ = some (.int .i64 s.ws) ∧ w'.cell? ⟨w2.heap.size, 4, none⟩ = some (.int .i64 s.wr) ∧ w'.cell? ⟨w2.heap.size, 5, none⟩ = some (.int .i64 s.ls) ∧ w'.cell? ⟨w2.heap.size, 6, none⟩ = some (.int .i64 s.lr) ∧ w'.cell? ⟨w2.heap.size, 7, none⟩ = some (.int .i64 s.wv) ∧ w'.cell? ⟨w2.heap.size, 8, none⟩ = some (.bool s.told)) (first | with_reducible exact HSK.out _ HB.out.1 | with_reducible exact HSK.out _ HB.out.2 | with_reducible exact HSK.out _ H3.out.1 | with_reducible exact HSK.out _ (H3.out.1.alloc H3.out.1.size _) | with_reducible exact HSK.out _ H5.out.1 | with_reducible exact HSK.out _ (H5.out.1.alloc H5.out.1.size _) | with_reducible exact HSK.out _ (H5.out.1.trans (filled_below _ _ _ H5.out.2.1 _ _ _ _ _ _ _ _ _).1) | with_reducible exact HSK.out _ ((H5.out.1.alloc H5.out.1.size _).trans (filled_below _ _ _ H5.out.1.size _ _ _ _ _ _ _ _ _).1)) (first | (go_at_call 14; (with_reducible refine (HMV.out V.drew HB.out.1).mono ?_); rintro e w3 ⟨v, rfl, hown, hb3⟩; obtain ⟨D, dc, rfl, hdc, hrv, hD⟩ := hown.form lenV; have H3 := Lib.hid (And.intro (HB.out.1.trans (hb3.mono HB.out.1.size)) (And.intro hrv (fun a ha => (hD a ha).2 : ∀ a, D = some a → a.block < w3.heap.size))); clear hown hb3 hdc hrv hD) | (go_at_call 14; (with_reducible refine (HMV.out (V.alloc (.cells zeroS 27)).drew HB.out.2).mono ?_); rintro e w3 ⟨v, rfl, hown, hb3⟩; obtain ⟨D, dc, rfl, hdc, hrv, hD⟩ := hown.form lenV; have hz3 : w3.heap[V.heap.size]? = some (.cells (cellsS St.zero (.slice none 0 0) (.slice none 0 0)) 27 (0, 0)) := (hb3.block _ (by simp)).trans (heap_alloc_new V _); have HZ3 := Lib.hid hz3; clear hz3; have H3 := Lib.hid (And.intro (HB.out.2.trans (hb3.mono HB.out.2.size)) (And.intro hrv (fun a ha => (hD a ha).2 : ∀ a, D = some a → a.block < w3.heap.size))); clear hown hb3 hdc hrv hD) | (go_at_call 9; (with_reducible refine (HPL.out w3 D dc H3.out.1 H3.out.2.1 H3.out.2.2).mono ?_); rintro e w5 ⟨A3, c3, B3, d3, rfl, hrd5, hb5, hfA, hfB⟩; have hz5 : w5.heap[V.heap.size]? = some (.cells (cellsS St.zero (.slice none 0 0) (.slice none 0 0)) 27 (0, 0)) := (hb5.block _ (Array.getElem?_eq_some_iff.1 HZ3.out).1).trans HZ3.out; obtain ⟨x0, x1, x2, x3, x4, x5, x6, x7, x8⟩ := nineT hz5; obtain ⟨g0, g1, g2, g3, g4, g5, g6, g7, g8⟩ := nineFT hz5; have HZ5 := Lib.hid hz5; clear hz5; have hq := (Array.getElem?_eq_some_iff.1 HZ3.out).1; have H5 := Lib.hid (And.intro (H3.out.1.trans (hb5.mono H3.out.1.size)) (And.intro (Nat.le_refl V.heap.size) (And.intro hrd5 (And.intro (Fresh.of (fun a ha => by have := hfA a ha; omega : ∀ a, A3 = some a → V.heap.size + 1 ≤ a.block)) (Fresh.of (fun a ha => by have := hfB a ha; omega : ∀ a, B3 = some a → V.heap.size + 1 ≤ a.block)))))); clear hrd5 hb5 hfA hfB hq) | (go_at_call 9; (with_reducible refine (HPL.out w3 D dc H3.out.1 H3.out.2.1 H3.out.2.2).mono ?_); rintro e w5 ⟨A3, c3, B3, d3, rfl, hrd5, hb5, hfA, hfB⟩; have H5 := Lib.hid (And.intro (H3.out.1.trans (hb5.mono H3.out.1.size)) (And.intro (Nat.le_refl V.heap.size) hrd5)); clear hrd5 hb5 hfA hfB) | (go_at_call 9; (with_reducible refine (HPL.out (w3.alloc (.cells zeroS 27)) D dc (H3.out.1.alloc H3.out.1.size _) (H3.out.2.1.below ((Below.refl _ _).alloc (Nat.le_refl _) _)) (fun a ha => by have := H3.out.2.2 a ha; simp; omega)).mono ?_); rintro e w5 ⟨A3, c3, B3, d3, rfl, hrd5, hb5, hfA, hfB⟩; have hz5 : w5.heap[w3.heap.size]? = some (.cells (cellsS St.zero (.slice none 0 0) (.slice none 0 0)) 27 (0, 0)) := (hb5.block _ (by simp)).trans (heap_alloc_new w3 _); obtain ⟨x0, x1, x2, x3, x4, x5, x6, x7, x8⟩ := nineT hz5; obtain ⟨g0, g1, g2, g3, g4, g5, g6, g7, g8⟩ := nineFT hz5; have HZ5 := Lib.hid hz5; clear hz5; have H5 := Lib.hid (And.intro ((H3.out.1.alloc H3.out.1.size _).trans (hb5.mono (H3.out.1.alloc H3.out.1.size _).size)) (And.intro H3.out.1.size (And.intro hrd5 (And.intro (Fresh.of (fun a ha => by have := hfA a ha; simp at this; omega : ∀ a, A3 = some a → w3.heap.size + 1 ≤ a.block)) (Fresh.of (fun a ha => by have := hfB a ha; simp at this; omega : ∀ a, B3 = some a → w3.heap.size + 1 ≤ a.block)))))); clear hrd5 hb5 hfA hfB))
        all_goals (
          go_wp2_with fail
          go_meet
          refine ⟨_, rfl, rfl, rfl, ?_⟩
          first
          | with_reducible exact NB.first H5.out.1 H5.out.2.2
          | with_reducible exact NB.second H5.out.1 H5.out.2.1 HZ5.out H5.out.2.2.1 H5.out.2.2.2.1 H5.out.2.2.2.2
          | with_reducible exact NB.third H5.out.1 H5.out.2.2)
      case rest =>
        obtain ⟨b, rfl, rfl, rfl, hnb⟩ := hcut
        clear z0 z1 z2 z3 z4 z5 z6 z7 z8
        have hs := hnb.lo
        have hr3 := (hs.block _ (Array.getElem?_eq_some_iff.1 HV.out.2.2.1).1).trans HV.out.2.2.1
        obtain ⟨z0, z1, z2, z3, z4, z5, z6, z7, z8⟩ := nineT hr3
        have hrp := rplay_calls s A c B d ms M cm wc (HV.out.2.2.2.1.below hs) (HV.out.2.2.2.2.1.below hs) (by have := HG.out.2.2; omega)
        rw [HV.out.2.2.2.2.2.2.2.2] at hrp
        have HRP := Lib.hid hrp
        have HNB := Lib.hid hnb
        clear hs hr3 hrp hnb
        go_upto_region 5 with fail
        go_wp2_with fail
        (with_reducible refine (HRP.out).mono ?_); rintro e w6 ⟨A5, c5, B5, d5, rfl, hrd6, hb6, hf1, hf2⟩
        obtain ⟨V6, hV6⟩ : ∃ V6, w6.alloc (.cells (cellsS s2 (.slice A5 s2.ms.length c5) (.slice B5 s2.fl.length d5)) 44) = V6 := ⟨_, rfl⟩
        have hB66 : Below w6.heap.size w6 V6 := by rw [← hV6]; exact (Below.refl _ _).alloc (Nat.le_refl _) _
        have hB6 : Below wc.heap.size wc V6 := hb6.trans (hB66.mono hb6.size)
        have hr11 : V6.heap[w6.heap.size]? = some (.cells (cellsS s2 (.slice A5 s2.ms.length c5) (.slice B5 s2.fl.length d5)) 44 (0, 0)) := by rw [← hV6]; exact heap_alloc_new w6 _
        have h11 : RowB 44 w6.heap.size s2 V6 wc.heap.size := ⟨A5, c5, B5, d5, hr11, hrd6.below hB66, hf1, hf2⟩
        have h8 := HNB.out.below hB6
        have hszb : V.heap.size ≤ b ∧ b < wc.heap.size ∧ wc.heap.size ≤ w6.heap.size ∧ w6.heap.size < V6.heap.size := by
          have h := HNB.out
          obtain ⟨_, hge, _, _, _, _, hrow, _⟩ := h
          have := (Array.getElem?_eq_some_iff.1 hrow).1
          have := hb6.size
          have := (Array.getElem?_eq_some_iff.1 hr11).1
          omega
        have H6 := Lib.hid (And.intro hV6 (And.intro h11 (And.intro h8 hszb)))
        obtain ⟨_, _, A8, c8, B8, d8, hrow8, hrd8⟩ := h8
        have hsm := same_calls s2 A8 c8 B8 d8 A5 c5 B5 d5 V6 hrd8 (hrd6.below hB66)
        have HSM := Lib.hid hsm
        clear z0 z1 z2 z3 z4 z5 z6 z7 z8
        obtain ⟨z0, z1, z2, z3, z4, z5, z6, z7, z8⟩ := nineT hrow8
        obtain ⟨y0, y1, y2, y3, y4, y5, y6, y7, y8⟩ := nineT hr11
        clear hV6 hB66 hB6 hr11 h11 hszb hrow8 hrd8 hsm hrd6 hb6 hf1 hf2
        go_upto_region 6 with fail
        rw [H6.out.1]
        go_wp2_with fail
        (with_reducible refine (HSM.out).mono ?_); rintro e w7 ⟨rfl, hb7⟩
        clear z0 z1 z2 z3 z4 z5 z6 z7 z8 y0 y1 y2 y3 y4 y5 y6 y7 y8
        have h8 := H6.out.2.2.1.below hb7
        have h11 := H6.out.2.1.below hb7
        have hs := h8.lo
        have hr7 := (hs.block _ (Array.getElem?_eq_some_iff.1 HV.out.2.2.2.2.2.1).1).trans HV.out.2.2.2.2.2.1
        have hrd7 := HV.out.2.2.2.2.2.2.1.below hs
        have hdt := detect_calls s A2 c2 B d waves w7 hrd7
        have hszb := H6.out.2.2.2
        have hs7 := hb7.size
        obtain ⟨⟨s3, k3⟩, hr3⟩ : ∃ r, detF s waves = r := ⟨_, rfl⟩
        rw [hr3] at hdt
        have HDT := Lib.hid hdt
        have H7 := Lib.hid (And.intro h8 (And.intro h11 (And.intro hs7 hr3)))
        obtain ⟨z0, z1, z2, z3, z4, z5, z6, z7, z8⟩ := nineT hr7
        clear hb7 h8 h11 hs hr7 hrd7 hdt hszb hs7 hr3
        go_upto_region 8 with fail
        go_wp2_with fail
        (with_reducible refine (HDT.out).mono ?_); rintro e w8 ⟨A7, c7, B7, d7, rfl, hrd8, hb8, hf1, hf2⟩
        have hszb := H6.out.2.2.2
        have hs7 := H7.out.2.2.1
        have h8 := H7.out.1.below hb8
        have h11 := H7.out.2.1.below hb8
        have h8f := h8.rowB.filled c7 d7 hrd8 hf1 hf2 (by omega)
        have h11f := h11.aside c7 d7 (A := A7) (B := B7) (s2 := s3) (bo := b) (by omega) (by omega)
        have hlo := h8.lo.trans (fill9_below b hszb.1 w8 s3 A7 c7 B7 d7)
        have hsz8 : (fill9 w8 b s3 A7 c7 B7 d7).heap.size = w8.heap.size := (filled_below b w8 b (Nat.le_refl _) _ _ _ _ _ _ _ _ _).2
        have hs8 := hb8.size
        obtain ⟨_, _, _, _, _, _, hrow8, _⟩ := h8
        obtain ⟨V8, hV8⟩ : ∃ V8, fill9 w8 b s3 A7 c7 B7 d7 = V8 := ⟨_, rfl⟩
        rw [hV8] at h8f h11f hlo hsz8
        have hs88 : w7.heap.size ≤ V8.heap.size := by omega
        unfold fill9 at hV8
        have hr3 := (hlo.block _ (Array.getElem?_eq_some_iff.1 HV.out.2.2.1).1).trans HV.out.2.2.1
        have hrd3 := HV.out.2.2.2.1.below hlo
        have hdt := rdetect_calls s A c B d waves V8 hrd3
        rw [H7.out.2.2.2] at hdt
        have HDT2 := Lib.hid hdt
        have H8 := Lib.hid (And.intro hV8 (And.intro h8f (And.intro h11f (And.intro hlo hs88))))
        clear z0 z1 z2 z3 z4 z5 z6 z7 z8
        obtain ⟨z0, z1, z2, z3, z4, z5, z6, z7, z8⟩ := nineT hr3
        obtain ⟨y0, y1, y2, y3, y4, y5, y6, y7, y8⟩ := nineT hrow8
        obtain ⟨f0, f1, f2, f3, f4, f5, f6, f7, f8⟩ := nineFT hrow8
        clear hrd8 hb8 hf1 hf2 hszb hs7 h11 h8f h11f hlo hsz8 hs8 hV8 hs88 hr3 hrd3 hdt hrow8
        go_upto_region 9 with fail
        rw [H8.out.1]
        clear y0 y1 y2 y3 y4 y5 y6 y7 y8 f0 f1 f2 f3 f4 f5 f6 f7 f8
        go_wp2_with fail
        (with_reducible refine (HDT2.out).mono ?_); rintro e w9 ⟨A9, c9, B9, d9, rfl, hrd9, hb9, hf1, hf2⟩
        have hszb := H6.out.2.2.2
        have hs7 := H7.out.2.2.1
        have h8 := H8.out.2.1.below hb9
        have h11 := H8.out.2.2.1.below hb9
        have hs8 := H8.out.2.2.2.2
        have h11f := h11.filled c9 d9 hrd9 hf1 hf2 (by omega)
        have h8f := h8.aside c9 d9 (A := A9) (B := B9) (s2 := s3) (bo := w6.heap.size) (by omega) (by omega)
        have hlo := (H8.out.2.2.2.1.trans (hb9.mono H8.out.2.2.2.1.size)).trans (fill9_below w6.heap.size (by omega) w9 s3 A9 c9 B9 d9)
        obtain ⟨_, _, _, _, hrow11, _⟩ := h11
        obtain ⟨V9, hV9⟩ : ∃ V9, fill9 w9 w6.heap.size s3 A9 c9 B9 d9 = V9 := ⟨_, rfl⟩
        rw [hV9] at h8f h11f hlo
        unfold fill9 at hV9
        obtain ⟨P8, p8, Q8, q8, hr8, hrd8, _, _⟩ := h8f
        obtain ⟨P9, p9, Q9, q9, hr9, hrd9', _, _⟩ := h11f
        have hsm := same_calls s3 P8 p8 Q8 q8 P9 p9 Q9 q9 V9 hrd8 hrd9'
        have HSM2 := Lib.hid hsm
        have H9 := Lib.hid (And.intro hV9 (And.intro hr8 (And.intro hr9 hlo)))
        clear z0 z1 z2 z3 z4 z5 z6 z7 z8
        obtain ⟨y0, y1, y2, y3, y4, y5, y6, y7, y8⟩ := nineT hrow11
        obtain ⟨f0, f1, f2, f3, f4, f5, f6, f7, f8⟩ := nineFT hrow11
        clear hrd9 hb9 hf1 hf2 hszb hs7 h8 hs8 hlo hrow11 hV9 hr8 hr9 hrd8 hrd9' hsm
        go_upto_region 10 with fail
        rw [H9.out.1]
        clear y0 y1 y2 y3 y4 y5 y6 y7 y8 f0 f1 f2 f3 f4 f5 f6 f7 f8
        obtain ⟨z0, z1, z2, z3, z4, z5, z6, z7, z8⟩ := nineT H9.out.2.1
        obtain ⟨y0, y1, y2, y3, y4, y5, y6, y7, y8⟩ := nineT H9.out.2.2.1
        go_wp2_with fail
        (with_reducible refine (HSM2.out).mono ?_); rintro e w10 ⟨rfl, hb10⟩
        have HB10 := Lib.hid hb10
        clear hb10 z0 z1 z2 z3 z4 z5 z6 z7 z8 y0 y1 y2 y3 y4 y5 y6 y7 y8
        go_wp2_with fail
        refine (HAE.out _).mono ?_
        rintro e w11 ⟨rfl, hb11⟩
        have HB11 := Lib.hid hb11
        clear hb11
        go_wp2_with fail
        go_ret
        have hlo := H9.out.2.2.2
        have hlo2 := hlo.trans (HB10.out.mono hlo.size)
        have hlo3 := hlo2.trans (HB11.out.mono hlo2.size)
        exact ⟨rfl, HV.out.2.1.trans (hlo3.mono HV.out.2.1.size)⟩
end Go.Proofs.Ythpcipfloofbcaa

