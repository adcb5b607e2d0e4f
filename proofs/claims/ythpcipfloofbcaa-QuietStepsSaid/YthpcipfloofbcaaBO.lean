import Derived.Test.YthpcipfloofbcaaBL
import Derived.Test.YthpcipfloofbcaaT
namespace Go.Proofs.Ythpcipfloofbcaa
open Go.RowKit
set_option maxHeartbeats 8000000
set_option maxRecDepth 100000
set_option linter.unusedSimpArgs false
set_option linter.unusedVariables false

theorem moves1 (m : Mov) (V X : World) (hX : Below V.heap.size V X) (b : Nat) (hR : Rd encV 3 X (some ⟨b, 0, none⟩) [m]) : Calls Try.prog 14 #[.slice (some ⟨b, 0, none⟩) 1 1] X fun e w3 => ∃ g dc, e = .returned (.slice (some ⟨g, 0, none⟩) 1 dc) ∧ w3.cell? ⟨g, 0, none⟩ = some (.int .i64 m.k) ∧ w3.cell? ⟨g, 1, none⟩ = some (.int .i64 m.a) ∧ w3.cell? ⟨g, 2, none⟩ = some (.int .i64 m.b) ∧ Below V.heap.size V w3 ∧ Below X.heap.size X w3 := by
  refine (moves_calls (some ⟨b, 0, none⟩) [m] 1 X hR (by simp)).mono ?_
  rintro e w3 ⟨v, rfl, hown, hb⟩
  obtain ⟨D, dc, hv, _, hrd, _⟩ := hown.form lenV
  rcases hown.2 with ⟨h1, hn⟩ | ⟨g, cap, cur, h1, _⟩
  · simp at hn
  · rw [hv] at h1
    obtain ⟨rfl, _, rfl⟩ := Value.slice.inj h1
    obtain ⟨a, ha, q0, q1, q2⟩ := rd_mov hrd 0 (by simp)
    cases ha
    subst hv
    exact ⟨g, _, rfl, by simpa [Addr.add] using q0, by simpa [Addr.add] using q1, by simpa [Addr.add] using q2, hX.trans (hb.mono hX.size), hb⟩

theorem steps_calls (s : St) (A : Option Addr) (c : Nat) (B : Option Addr) (d : Nat) (m : Mov) (members : Int) (w : World) (h : RdS w A B s) :
    Calls Try.prog 5 #[s.v A c B d, m.v, .int .i64 members] w fun e w' => e = .returned (.bool true) ∧ Below w.heap.size w w' := by
  have hae := awake_calls
  have HAE := Lib.hid hae
  obtain ⟨W, hW⟩ : ∃ W, (w.alloc (.cells (cellsS s (.slice A s.ms.length c) (.slice B s.fl.length d)) 44)).alloc (.cells #[.int .i64 m.k, .int .i64 m.a, .int .i64 m.b] 55) = W := ⟨_, rfl⟩
  have hb : Below w.heap.size w W := by rw [← hW]; exact ((Below.refl _ _).alloc (Nat.le_refl _) _).alloc (by simp) _
  have hr0 : W.heap[w.heap.size]? = some (.cells (cellsS s (.slice A s.ms.length c) (.slice B s.fl.length d)) 44 (0, 0)) := by
    rw [← hW, Below.heap_alloc _ _ _ (by simp)]; exact heap_alloc_new w _
  have hr1 : W.heap[w.heap.size + 1]? = some (.cells #[.int .i64 m.k, .int .i64 m.a, .int .i64 m.b] 55 (0, 0)) := by
    rw [← hW]
    have := heap_alloc_new (w.alloc (.cells (cellsS s (.slice A s.ms.length c) (.slice B s.fl.length d)) 44)) (.cells #[.int .i64 m.k, .int .i64 m.a, .int .i64 m.b] 55)
    simpa using this
  obtain ⟨z0, z1, z2, z3, z4, z5, z6, z7, z8⟩ := nineT hr0
  have hl1 := h.ms.small
  have hl2 := h.fl.small
  have HW := Lib.hid (And.intro hW (And.intro hb (And.intro hr0 (And.intro hr1 (h.below hb)))))
  clear hae hW hr0 hr1 hb h
  go_enter Try.func5, Try.ntmps5
  go_upto_region 1 with fail
  rw [HW.out.1]
  go_cut [23] (fun s23 wx => s23 = .bool (decide (12 < s.ms.length) || decide (102 < s.fl.length)) ∧ W = wx)
  case first =>
    by_cases h1 : (12 : Int) < (s.ms.length : Int)
    · go_wp2_with fail
      all_goals go_meet
      all_goals exact ⟨congrArg Value.bool (by simp; omega), rfl⟩
    · by_cases h2 : (102 : Int) < (s.fl.length : Int)
      · go_wp2_with fail
        all_goals go_meet
        all_goals exact ⟨congrArg Value.bool (by simp; omega), rfl⟩
      · go_wp2_with fail
        all_goals go_meet
        all_goals exact ⟨congrArg Value.bool (by simp; omega), rfl⟩
  case rest =>
    obtain ⟨rfl, rfl⟩ := hcut
    cases hg : (decide (12 < s.ms.length) || decide (102 < s.fl.length)) with
    | true =>
      clear hg
      go_wp2_with fail
      refine (HAE.out _).mono ?_
      rintro e w6 ⟨rfl, hb6⟩
      have HB6 := Lib.hid hb6
      clear hb6
      go_wp2_with fail
      go_ret
      exact ⟨rfl, HW.out.2.1.trans (HB6.out.mono HW.out.2.1.size)⟩
    | false =>
      have hgd : s.ms.length ≤ 12 ∧ s.fl.length ≤ 102 := by simp at hg; omega
      have hgv := given_calls s A c B d W HW.out.2.2.2.2 (by omega)
      have HGV := Lib.hid hgv
      clear hg hgd hgv
      go_upto_region 3 with fail
      go_wp2_with fail
      (with_reducible refine (HGV.out).mono ?_); rintro e w2 ⟨⟨A2, c2, rfl, hrd2⟩, hb2⟩
      obtain ⟨V, hV⟩ : ∃ V, w2.alloc (.cells (cellsS s (.slice A2 s.ms.length c2) (.slice B s.fl.length d)) 27) = V := ⟨_, rfl⟩
      have hVb : Below w2.heap.size w2 V := by rw [← hV]; exact (Below.refl _ _).alloc (Nat.le_refl _) _
      have hWV : Below W.heap.size W V := hb2.trans (hVb.mono hb2.size)
      have hr3 := (hWV.block _ (Array.getElem?_eq_some_iff.1 HW.out.2.2.1).1).trans HW.out.2.2.1
      have hr4 := (hWV.block _ (Array.getElem?_eq_some_iff.1 HW.out.2.2.2.1).1).trans HW.out.2.2.2.1
      have hR3 := HW.out.2.2.2.2.below hWV
      have hlo : Below w.heap.size w V := HW.out.2.1.trans (hWV.mono HW.out.2.1.size)
      have hr7 : V.heap[w2.heap.size]? = some (.cells (cellsS s (.slice A2 s.ms.length c2) (.slice B s.fl.length d)) 27 (0, 0)) := by rw [← hV]; exact heap_alloc_new w2 _
      have hrdV : RdS V A2 B s := hrd2.below hVb
      obtain ⟨⟨qb, qe⟩, hq⟩ : ∃ r, quietF s = r := ⟨_, rfl⟩
      obtain ⟨⟨nb, ne⟩, hn⟩ : ∃ r, naiveF s = r := ⟨_, rfl⟩
      obtain ⟨⟨s2, k2⟩, hst⟩ : ∃ r, stepF s m = r := ⟨_, rfl⟩
      obtain ⟨ck, hck⟩ : ∃ r, checkF s = r := ⟨_, rfl⟩
      have hqc := fun X (hX : Below V.heap.size V X) => quiet_calls s A2 c2 B d X (hrdV.below hX)
      have hrqc := fun X (hX : Below V.heap.size V X) => rQuiet_calls s A c B d X (hR3.below hX)
      have hnc := fun X (hX : Below V.heap.size V X) => naive_calls s A2 c2 B d X (hrdV.below hX) (fun hk => ⟨((check_iff s).1 hk).n1, ((check_iff s).1 hk).mem⟩)
      have hrnc := fun X (hX : Below V.heap.size V X) => rNaive_calls s A c B d X (hR3.below hX)
      have hsc := fun X (hX : Below V.heap.size V X) => step_calls s A2 c2 B d m X (hrdV.below hX)
      have hrsc := fun X (hX : Below V.heap.size V X) => rstep_calls s A c B d m X (hR3.below hX)
      have hcc := fun X (hX : Below V.heap.size V X) => check_calls s A2 c2 B d X (hrdV.below hX)
      have hrcc := fun X (hX : Below V.heap.size V X) => rcheck_calls s A c B d X (hR3.below hX)
      simp only [hq] at hqc hrqc
      simp only [hn] at hnc hrnc
      simp only [hst] at hsc hrsc
      simp only [hck] at hcc hrcc
      have HQC := Lib.hid hqc
      have HRQC := Lib.hid hrqc
      have HNC := Lib.hid hnc
      have HRNC := Lib.hid hrnc
      have HST := Lib.hid hsc
      have HRS := Lib.hid hrsc
      have HC := Lib.hid hcc
      have HRC := Lib.hid hrcc
      have HV := Lib.hid (And.intro hV hlo)
      clear z0 z1 z2 z3 z4 z5 z6 z7 z8
      obtain ⟨z0, z1, z2, z3, z4, z5, z6, z7, z8⟩ := nineT hr7
      obtain ⟨y0, y1, y2, y3, y4, y5, y6, y7, y8⟩ := nineT hr3
      have hu := fun j => cell_of_row _ (w.heap.size + 1) j _ _ _ hr4
      have u0 := hu 0
      have u1 := hu 1
      have u2 := hu 2
      simp at u0 u1 u2
      have hsk := fun (X : World) (hX : Below V.heap.size V X) => And.intro ((hX.cell (World.block_lt_of_cell? _ _ z0)).trans z0) (And.intro ((hX.cell (World.block_lt_of_cell? _ _ z1)).trans z1) (And.intro ((hX.cell (World.block_lt_of_cell? _ _ z2)).trans z2) (And.intro ((hX.cell (World.block_lt_of_cell? _ _ z3)).trans z3) (And.intro ((hX.cell (World.block_lt_of_cell? _ _ z4)).trans z4) (And.intro ((hX.cell (World.block_lt_of_cell? _ _ z5)).trans z5) (And.intro ((hX.cell (World.block_lt_of_cell? _ _ z6)).trans z6) (And.intro ((hX.cell (World.block_lt_of_cell? _ _ z7)).trans z7) (And.intro ((hX.cell (World.block_lt_of_cell? _ _ z8)).trans z8) (And.intro ((hX.cell (World.block_lt_of_cell? _ _ y0)).trans y0) (And.intro ((hX.cell (World.block_lt_of_cell? _ _ y1)).trans y1) (And.intro ((hX.cell (World.block_lt_of_cell? _ _ y2)).trans y2) (And.intro ((hX.cell (World.block_lt_of_cell? _ _ y3)).trans y3) (And.intro ((hX.cell (World.block_lt_of_cell? _ _ y4)).trans y4) (And.intro ((hX.cell (World.block_lt_of_cell? _ _ y5)).trans y5) (And.intro ((hX.cell (World.block_lt_of_cell? _ _ y6)).trans y6) (And.intro ((hX.cell (World.block_lt_of_cell? _ _ y7)).trans y7) (And.intro ((hX.cell (World.block_lt_of_cell? _ _ y8)).trans y8) (And.intro ((hX.cell (World.block_lt_of_cell? _ _ u0)).trans u0) (And.intro ((hX.cell (World.block_lt_of_cell? _ _ u1)).trans u1) ((hX.cell (World.block_lt_of_cell? _ _ u2)).trans u2))))))))))))))))))))
      have hsk6 := fun (X : World) (hX : Below V.heap.size V X) => And.intro ((hX.cell (World.block_lt_of_cell? _ _ z0)).trans z0) (And.intro ((hX.cell (World.block_lt_of_cell? _ _ z1)).trans z1) (And.intro ((hX.cell (World.block_lt_of_cell? _ _ z2)).trans z2) (And.intro ((hX.cell (World.block_lt_of_cell? _ _ z3)).trans z3) (And.intro ((hX.cell (World.block_lt_of_cell? _ _ z4)).trans z4) (And.intro ((hX.cell (World.block_lt_of_cell? _ _ z5)).trans z5) (And.intro ((hX.cell (World.block_lt_of_cell? _ _ z6)).trans z6) (And.intro ((hX.cell (World.block_lt_of_cell? _ _ z7)).trans z7) (And.intro ((hX.cell (World.block_lt_of_cell? _ _ z8)).trans z8) (And.intro ((hX.cell (World.block_lt_of_cell? _ _ y0)).trans y0) (And.intro ((hX.cell (World.block_lt_of_cell? _ _ y1)).trans y1) (And.intro ((hX.cell (World.block_lt_of_cell? _ _ y2)).trans y2) (And.intro ((hX.cell (World.block_lt_of_cell? _ _ y3)).trans y3) (And.intro ((hX.cell (World.block_lt_of_cell? _ _ y4)).trans y4) (And.intro ((hX.cell (World.block_lt_of_cell? _ _ y5)).trans y5) (And.intro ((hX.cell (World.block_lt_of_cell? _ _ y6)).trans y6) (And.intro ((hX.cell (World.block_lt_of_cell? _ _ y7)).trans y7) ((hX.cell (World.block_lt_of_cell? _ _ y8)).trans y8)))))))))))))))))
      have hsk12 := fun (X : World) (hX : Below V.heap.size V X) => And.intro ((hX.cell (World.block_lt_of_cell? _ _ z0)).trans z0) (And.intro ((hX.cell (World.block_lt_of_cell? _ _ z1)).trans z1) (And.intro ((hX.cell (World.block_lt_of_cell? _ _ z2)).trans z2) (And.intro ((hX.cell (World.block_lt_of_cell? _ _ z3)).trans z3) (And.intro ((hX.cell (World.block_lt_of_cell? _ _ z4)).trans z4) (And.intro ((hX.cell (World.block_lt_of_cell? _ _ z5)).trans z5) (And.intro ((hX.cell (World.block_lt_of_cell? _ _ z6)).trans z6) (And.intro ((hX.cell (World.block_lt_of_cell? _ _ z7)).trans z7) (And.intro ((hX.cell (World.block_lt_of_cell? _ _ z8)).trans z8) (And.intro ((hX.cell (World.block_lt_of_cell? _ _ u0)).trans u0) (And.intro ((hX.cell (World.block_lt_of_cell? _ _ u1)).trans u1) ((hX.cell (World.block_lt_of_cell? _ _ u2)).trans u2)))))))))))
      have HSK := Lib.hid hsk
      have HSK6 := Lib.hid hsk6
      have HSK12 := Lib.hid hsk12
      clear hV hVb hWV hr3 hr4 hr7 hR3 hlo hrd2 hb2 hrdV hq hn hst hck hqc hrqc hnc hrnc hsc hrsc hcc hrcc hu u0 u1 u2 hsk hsk6 hsk12
      go_upto_region 4 with fail
      rw [HV.out.1]
      go_wp2_with fail
      (with_reducible refine (HQC.out V (Below.refl _ _)).mono ?_); rintro e w3 ⟨rfl, hb3⟩
      have H3 := Lib.hid hb3
      clear hb3 z0 z1 z2 z3 z4 z5 z6 z7 z8 y0 y1 y2 y3 y4 y5 y6 y7 y8
      obtain ⟨z0, z1, z2, z3, z4, z5, z6, z7, z8, y0, y1, y2, y3, y4, y5, y6, y7, y8, u0, u1, u2⟩ := HSK.out w3 H3.out
      go_wp2_with fail
      (with_reducible refine (HRQC.out w3 H3.out).mono ?_); rintro e w4 ⟨rfl, hb4⟩
      have H4 := Lib.hid (H3.out.trans (hb4.mono H3.out.size))
      have hd : Below V.heap.size V w4.drew := H4.out.trans ((Below.refl _ _).drew)
      have HD := Lib.hid hd
      clear hd hb4 z0 z1 z2 z3 z4 z5 z6 z7 z8 y0 y1 y2 y3 y4 y5 y6 y7 y8 u0 u1 u2
      obtain ⟨z0, z1, z2, z3, z4, z5, z6, z7, z8, y0, y1, y2, y3, y4, y5, y6, y7, y8, u0, u1, u2⟩ := HSK.out w4 H4.out
      go_upto_region 6 with fail
      go_cut [51] (fun s51 wx => s51 = .bool false ∧ Below V.heap.size V wx)
      case first =>
        go_region_held3 (fun w' => w'.cell? ⟨w2.heap.size, 0, none⟩ = some (.slice A2 s.ms.length c2) ∧ w'.cell? ⟨w2.heap.size, 1, none⟩ = some (.slice B s.fl.length d) ∧ w'.cell? ⟨w2.heap.size, 2, none⟩ = some (.int .i64 s.wn) ∧ w'.cell? ⟨w2.heap.size, 3, none⟩ = some (.int .i64 s.ws) ∧ w'.cell? ⟨w2.heap.size, 4, none⟩ = some (.int .i64 s.wr) ∧ w'.cell? ⟨w2.heap.size, 5, none⟩ = some (.int .i64 s.ls) ∧ w'.cell? ⟨w2.heap.size, 6, none⟩ = some (.int .i64 s.lr) ∧ w'.cell? ⟨w2.heap.size, 7, none⟩ = some (.int .i64 s.wv) ∧ w'.cell? ⟨w2.heap.size, 8, none⟩ = some (.bool s.told) ∧ w'.cell? ⟨w.heap.size, 0, none⟩ = some (.slice A s.ms.length c) ∧ w'.cell? ⟨w.heap.size, 1, none⟩ = some (.slice B s.fl.length d) ∧ w'.cell? ⟨w.heap.size, 2, none⟩ = some (.int .i64 s.wn) ∧ w'.cell? ⟨w.heap.size, 3, none⟩ = some (.int .i64 s.ws) ∧ w'.cell? ⟨w.heap.size, 4, none⟩ = some (.int .i64 s.wr) ∧ w'.cell? ⟨w.heap.size, 5, none⟩ = some (.int .i64 s.ls) ∧ w'.cell? ⟨w.heap.size, 6, none⟩ = some (.int .i64 s.lr) ∧ w'.cell? ⟨w.heap.size, 7, none⟩ = some (.int .i64 s.wv) ∧ w'.cell? ⟨w.heap.size, 8, none⟩ = some (.bool s.told)) (first | with_reducible exact HSK6.out _ HD.out | with_reducible exact HSK6.out _ H5.out | with_reducible exact HSK6.out _ H6.out) (first | (go_at_call 20; (with_reducible refine (HC.out w4.drew HD.out).mono ?_); rintro e w5 ⟨rfl, hb5⟩; have H5 := Lib.hid (HD.out.trans (hb5.mono HD.out.size)); clear hb5) | (go_at_call 20; (with_reducible refine (HC.out w6 H6.out).mono ?_); rintro e w5 ⟨rfl, hb5⟩; have H5 := Lib.hid (H6.out.trans (hb5.mono H6.out.size)); clear hb5) | (go_at_call 21; (with_reducible refine (HRC.out w4.drew HD.out).mono ?_); rintro e w6 ⟨rfl, hb6⟩; have H6 := Lib.hid (HD.out.trans (hb6.mono HD.out.size)); clear hb6) | (go_at_call 21; (with_reducible refine (HRC.out w5 H5.out).mono ?_); rintro e w6 ⟨rfl, hb6⟩; have H6 := Lib.hid (H5.out.trans (hb6.mono H5.out.size)); clear hb6))
        all_goals (
          go_wp2_with fail
          go_meet
          first
          | with_reducible exact ⟨rfl, H6.out⟩
          | with_reducible exact ⟨rfl, H5.out⟩)
      case rest =>
        obtain ⟨rfl, hw⟩ := hcut
        have HX := Lib.hid hw
        clear hw z0 z1 z2 z3 z4 z5 z6 z7 z8 y0 y1 y2 y3 y4 y5 y6 y7 y8 u0 u1 u2
        obtain ⟨z0, z1, z2, z3, z4, z5, z6, z7, z8, y0, y1, y2, y3, y4, y5, y6, y7, y8, u0, u1, u2⟩ := HSK.out wc HX.out
        go_wp2_with fail
        (with_reducible refine (HNC.out wc HX.out).mono ?_); rintro e w8 ⟨rfl, hb8⟩
        have H8 := Lib.hid (HX.out.trans (hb8.mono HX.out.size))
        clear hb8 z0 z1 z2 z3 z4 z5 z6 z7 z8 y0 y1 y2 y3 y4 y5 y6 y7 y8 u0 u1 u2
        obtain ⟨z0, z1, z2, z3, z4, z5, z6, z7, z8, y0, y1, y2, y3, y4, y5, y6, y7, y8, u0, u1, u2⟩ := HSK.out w8 H8.out
        go_wp2_with fail
        (with_reducible refine (HRNC.out w8 H8.out).mono ?_); rintro e U ⟨rfl, hb9⟩
        have HU := Lib.hid (H8.out.trans (hb9.mono H8.out.size))
        have hd1 : Below V.heap.size V U.drew := HU.out.trans ((Below.refl _ _).drew)
        have hd2 : Below V.heap.size V (U.alloc (.cells #[.int .i64 m.k, .int .i64 m.a, .int .i64 m.b] 55)).drew := (HU.out.alloc HU.out.size _).drew
        have hd3 : Below V.heap.size V ((U.alloc (.cells #[.int .i64 m.k, .int .i64 m.a, .int .i64 m.b] 55)).alloc (.cells zeroS 27)).drew := ((HU.out.alloc HU.out.size _).alloc (HU.out.alloc HU.out.size _).size _).drew
        have hd4 : Below V.heap.size V (U.alloc (.cells zeroS 27)).drew := (HU.out.alloc HU.out.size _).drew
        have hd5 : Below V.heap.size V ((U.alloc (.cells zeroS 27)).alloc (.cells #[.int .i64 m.k, .int .i64 m.a, .int .i64 m.b] 55)).drew := ((HU.out.alloc HU.out.size _).alloc (HU.out.alloc HU.out.size _).size _).drew
        have HB := Lib.hid (And.intro hd1 (And.intro hd2 (And.intro hd3 (And.intro hd4 hd5))))
        have hrA : Rd encV 3 (U.alloc (.cells #[.int .i64 m.k, .int .i64 m.a, .int .i64 m.b] 55)).drew (some ⟨U.heap.size, 0, none⟩) [m] := (rd_litV U m 55 _ rfl).below (Below.refl _ _).drew
        have hrB : Rd encV 3 ((U.alloc (.cells zeroS 27)).alloc (.cells #[.int .i64 m.k, .int .i64 m.a, .int .i64 m.b] 55)).drew (some ⟨U.heap.size + 1, 0, none⟩) [m] := (rd_litV (U.alloc (.cells zeroS 27)) m 55 _ (by simp)).below (Below.refl _ _).drew
        have hrC : Rd encV 3 ((U.alloc (.cells #[.int .i64 m.k, .int .i64 m.a, .int .i64 m.b] 55)).alloc (.cells zeroS 27)).drew (some ⟨U.heap.size, 0, none⟩) [m] := ((rd_litV U m 55 _ rfl).below ((Below.refl _ _).alloc (Nat.le_refl _) _)).below (Below.refl _ _).drew
        have hzB : ((U.alloc (.cells zeroS 27)).alloc (.cells #[.int .i64 m.k, .int .i64 m.a, .int .i64 m.b] 55)).drew.heap[U.heap.size]? = some (.cells (cellsS St.zero (.slice none 0 0) (.slice none 0 0)) 27 (0, 0)) := by
          show ((U.alloc (.cells zeroS 27)).alloc (.cells #[.int .i64 m.k, .int .i64 m.a, .int .i64 m.b] 55)).heap[U.heap.size]? = _
          rw [Below.heap_alloc _ _ _ (by simp)]; exact heap_alloc_new U _
        have hzC : ((U.alloc (.cells #[.int .i64 m.k, .int .i64 m.a, .int .i64 m.b] 55)).alloc (.cells zeroS 27)).drew.heap[U.heap.size + 1]? = some (.cells (cellsS St.zero (.slice none 0 0) (.slice none 0 0)) 27 (0, 0)) := by
          have := heap_alloc_new (U.alloc (.cells #[.int .i64 m.k, .int .i64 m.a, .int .i64 m.b] 55)) (.cells zeroS 27)
          have e : (U.alloc (.cells #[.int .i64 m.k, .int .i64 m.a, .int .i64 m.b] 55)).heap.size = U.heap.size + 1 := by simp
          rw [e] at this
          exact this
        have HRD := Lib.hid (And.intro hrA (And.intro hrB (And.intro hrC (And.intro hzB hzC))))
        clear hrA hrB hrC hzB hzC
        clear hb9 hd1 hd2 hd3 hd4 hd5 z0 z1 z2 z3 z4 z5 z6 z7 z8 y0 y1 y2 y3 y4 y5 y6 y7 y8 u0 u1 u2
        obtain ⟨z0, z1, z2, z3, z4, z5, z6, z7, z8, y0, y1, y2, y3, y4, y5, y6, y7, y8, u0, u1, u2⟩ := HSK.out U HU.out
        go_upto_region 12 with fail
        go_cut [9, 12] (fun s9 s12 wx => ∃ b, s12 = .pointer (some ⟨b, 0, none⟩) ∧ s9 = .int .i64 k2 ∧ NB 27 V s2 b wx)
        case first =>
          clear y0 y1 y2 y3 y4 y5 y6 y7 y8
          refine wp_region_noPanic ?_
          refine wp_region_held_drew (S := (fun w' => w'.cell? ⟨w2.heap.size, 0, none⟩ = some (.slice A2 s.ms.length c2) ∧ w'.cell? ⟨w2.heap.size, 1, none⟩ = some (.slice B s.fl.length d) ∧ w'.cell? ⟨w2.heap.size, 2, none⟩ = some (.int .i64 s.wn) ∧ w'.cell? ⟨w2.heap.size, 3, none⟩ = some (.int .i64 s.ws) ∧ w'.cell? ⟨w2.heap.size, 4, none⟩ = some (.int .i64 s.wr) ∧ w'.cell? ⟨w2.heap.size, 5, none⟩ = some (.int .i64 s.ls) ∧ w'.cell? ⟨w2.heap.size, 6, none⟩ = some (.int .i64 s.lr) ∧ w'.cell? ⟨w2.heap.size, 7, none⟩ = some (.int .i64 s.wv) ∧ w'.cell? ⟨w2.heap.size, 8, none⟩ = some (.bool s.told) ∧ w'.cell? ⟨(w.heap.size + 1), 0, none⟩ = some (.int .i64 m.k) ∧ w'.cell? ⟨(w.heap.size + 1), 1, none⟩ = some (.int .i64 m.a) ∧ w'.cell? ⟨(w.heap.size + 1), 2, none⟩ = some (.int .i64 m.b))) (by kernel_rfl) ?_ (fun hHeld0 => ?_)
          · (try dsimp only); (first | with_reducible exact HSK12.out _ HB.out.1 | with_reducible exact HSK12.out _ HB.out.2.1 | with_reducible exact HSK12.out _ HB.out.2.2.1 | with_reducible exact HSK12.out _ HB.out.2.2.2.1 | with_reducible exact HSK12.out _ HB.out.2.2.2.2 | with_reducible exact HSK12.out _ H3.out.1 | with_reducible exact HSK12.out _ (H3.out.1.alloc H3.out.1.size _) | with_reducible exact HSK12.out _ H5.out.1 | with_reducible exact HSK12.out _ (H5.out.1.alloc H5.out.1.size _) | with_reducible exact HSK12.out _ (H5.out.1.trans (filled_below _ _ _ H5.out.2.1 _ _ _ _ _ _ _ _ _).1) | with_reducible exact HSK12.out _ ((H5.out.1.alloc H5.out.1.size _).trans (filled_below _ _ _ H5.out.1.size _ _ _ _ _ _ _ _ _).1))
          refine wpAnyH_take (i := 0) (oi := _) (v := ?v1) rfl (by kernel_rfl) (by kernel_rfl) (by kernel_rfl) (fun _ _ _ h => h) (Or.inl ⟨by rfl, ?hy1⟩) (by assumption) ?rest1
          case hy1 => (intro w hSw; (try dsimp only at hSw); go_simp; all_goals with_reducible rfl)
          try simp only [Act.put, List.getElem_toArray, List.getElem_cons_zero, List.getElem_cons_succ, List.setIfInBounds_toArray, List.set_cons_zero, List.set_cons_succ]
          refine wpAnyH_take (i := 1) (oi := _) (v := ?v2) rfl (by kernel_rfl) (by kernel_rfl) (by kernel_rfl) (fun _ _ _ h => h) (Or.inl ⟨by rfl, ?hy2⟩) (by assumption) ?rest2
          case hy2 => (intro w hSw; (try dsimp only at hSw); go_simp; all_goals with_reducible rfl)
          try simp only [Act.put, List.getElem_toArray, List.getElem_cons_zero, List.getElem_cons_succ, List.setIfInBounds_toArray, List.set_cons_zero, List.set_cons_succ]
          refine wpAnyH_ready (rs := [2, 10]) (by kernel_rfl) (by simp) ?_
          refine AllReadyH.cons (o := _) rfl (fun K hK => ?_) ?_
          · go_simp
            try go_wp2_with fail
            refine hK.out _ _ ?_ (fun hHeld3 => ?_)
            · (try dsimp only); (first | with_reducible exact HSK12.out _ HB.out.1 | with_reducible exact HSK12.out _ HB.out.2.1 | with_reducible exact HSK12.out _ HB.out.2.2.1 | with_reducible exact HSK12.out _ HB.out.2.2.2.1 | with_reducible exact HSK12.out _ HB.out.2.2.2.2 | with_reducible exact HSK12.out _ H3.out.1 | with_reducible exact HSK12.out _ (H3.out.1.alloc H3.out.1.size _) | with_reducible exact HSK12.out _ H5.out.1 | with_reducible exact HSK12.out _ (H5.out.1.alloc H5.out.1.size _) | with_reducible exact HSK12.out _ (H5.out.1.trans (filled_below _ _ _ H5.out.2.1 _ _ _ _ _ _ _ _ _).1) | with_reducible exact HSK12.out _ ((H5.out.1.alloc H5.out.1.size _).trans (filled_below _ _ _ H5.out.1.size _ _ _ _ _ _ _ _ _).1))
            clear hK K hHeld0
            try simp only [Act.put, List.getElem_toArray, List.getElem_cons_zero, List.getElem_cons_succ, List.setIfInBounds_toArray, List.set_cons_zero, List.set_cons_succ]
            refine wpAnyH_ready (rs := [3, 10]) (by kernel_rfl) (by simp) ?_
            refine AllReadyH.cons (o := _) rfl (fun K hK => ?_) ?_
            · go_simp
              (first | (go_at_call 14; (with_reducible refine (moves1 m V (U.alloc (.cells #[.int .i64 m.k, .int .i64 m.a, .int .i64 m.b] 55)).drew HB.out.2.1 U.heap.size HRD.out.1).mono ?_); rintro e w3 ⟨g, dc, rfl, q0, q1, q2, hV3, hb3⟩; have hw3 := hb3.size; have H3 := Lib.hid (And.intro hV3 (show U.heap.size ≤ w3.heap.size by simp at hw3; omega)); have ha3 : Below w3.heap.size w3 (w3.alloc (.cells zeroS 27)) := (Below.refl _ _).alloc (Nat.le_refl _) _; have qa0 := (ha3.cell (World.block_lt_of_cell? _ _ q0)).trans q0; have qa1 := (ha3.cell (World.block_lt_of_cell? _ _ q1)).trans q1; have qa2 := (ha3.cell (World.block_lt_of_cell? _ _ q2)).trans q2; clear hV3 hb3 hw3 ha3) | (go_at_call 14; (with_reducible refine (moves1 m V ((U.alloc (.cells zeroS 27)).alloc (.cells #[.int .i64 m.k, .int .i64 m.a, .int .i64 m.b] 55)).drew HB.out.2.2.2.2 (U.heap.size + 1) HRD.out.2.1).mono ?_); rintro e w3 ⟨g, dc, rfl, q0, q1, q2, hV3, hb3⟩; have hz3 : w3.heap[U.heap.size]? = some (.cells (cellsS St.zero (.slice none 0 0) (.slice none 0 0)) 27 (0, 0)) := (hb3.block _ (Array.getElem?_eq_some_iff.1 HRD.out.2.2.2.1).1).trans HRD.out.2.2.2.1; have HZB := Lib.hid hz3; clear hz3; have hw3 := hb3.size; have H3 := Lib.hid (And.intro hV3 (show U.heap.size ≤ w3.heap.size by simp at hw3; omega)); have ha3 : Below w3.heap.size w3 (w3.alloc (.cells zeroS 27)) := (Below.refl _ _).alloc (Nat.le_refl _) _; have qa0 := (ha3.cell (World.block_lt_of_cell? _ _ q0)).trans q0; have qa1 := (ha3.cell (World.block_lt_of_cell? _ _ q1)).trans q1; have qa2 := (ha3.cell (World.block_lt_of_cell? _ _ q2)).trans q2; clear hV3 hb3 hw3 ha3) | (go_at_call 14; (with_reducible refine (moves1 m V ((U.alloc (.cells #[.int .i64 m.k, .int .i64 m.a, .int .i64 m.b] 55)).alloc (.cells zeroS 27)).drew HB.out.2.2.1 U.heap.size HRD.out.2.2.1).mono ?_); rintro e w3 ⟨g, dc, rfl, q0, q1, q2, hV3, hb3⟩; have hz3 : w3.heap[(U.heap.size + 1)]? = some (.cells (cellsS St.zero (.slice none 0 0) (.slice none 0 0)) 27 (0, 0)) := (hb3.block _ (Array.getElem?_eq_some_iff.1 HRD.out.2.2.2.2).1).trans HRD.out.2.2.2.2; have HZC := Lib.hid hz3; clear hz3; have hw3 := hb3.size; have H3 := Lib.hid (And.intro hV3 (show U.heap.size ≤ w3.heap.size by simp at hw3; omega)); have ha3 : Below w3.heap.size w3 (w3.alloc (.cells zeroS 27)) := (Below.refl _ _).alloc (Nat.le_refl _) _; have qa0 := (ha3.cell (World.block_lt_of_cell? _ _ q0)).trans q0; have qa1 := (ha3.cell (World.block_lt_of_cell? _ _ q1)).trans q1; have qa2 := (ha3.cell (World.block_lt_of_cell? _ _ q2)).trans q2; clear hV3 hb3 hw3 ha3) | (go_at_call 10; (with_reducible refine (HST.out w3 H3.out.1).mono ?_); rintro e w5 ⟨A3, c3, B3, d3, rfl, hrd5, hb5, hfA, hfB⟩; have hz5 : w5.heap[U.heap.size]? = some (.cells (cellsS St.zero (.slice none 0 0) (.slice none 0 0)) 27 (0, 0)) := (hb5.block _ (Array.getElem?_eq_some_iff.1 HZB.out).1).trans HZB.out; obtain ⟨x0, x1, x2, x3, x4, x5, x6, x7, x8⟩ := nineT hz5; obtain ⟨g0, g1, g2, g3, g4, g5, g6, g7, g8⟩ := nineFT hz5; have HZ5 := Lib.hid hz5; clear hz5; have hq := (Array.getElem?_eq_some_iff.1 HZB.out).1; have hge : V.heap.size ≤ U.heap.size := (by have := HU.out.size; omega); have H5 := Lib.hid (And.intro (H3.out.1.trans (hb5.mono H3.out.1.size)) (And.intro hge (And.intro hrd5 (And.intro (Fresh.of (fun a ha => by have := hfA a ha; omega : ∀ a, A3 = some a → U.heap.size + 1 ≤ a.block)) (Fresh.of (fun a ha => by have := hfB a ha; omega : ∀ a, B3 = some a → U.heap.size + 1 ≤ a.block)))))); clear hrd5 hb5 hfA hfB hq hge) | (go_at_call 10; (with_reducible refine (HST.out w3 H3.out.1).mono ?_); rintro e w5 ⟨A3, c3, B3, d3, rfl, hrd5, hb5, hfA, hfB⟩; have hz5 : w5.heap[(U.heap.size + 1)]? = some (.cells (cellsS St.zero (.slice none 0 0) (.slice none 0 0)) 27 (0, 0)) := (hb5.block _ (Array.getElem?_eq_some_iff.1 HZC.out).1).trans HZC.out; obtain ⟨x0, x1, x2, x3, x4, x5, x6, x7, x8⟩ := nineT hz5; obtain ⟨g0, g1, g2, g3, g4, g5, g6, g7, g8⟩ := nineFT hz5; have HZ5 := Lib.hid hz5; clear hz5; have hq := (Array.getElem?_eq_some_iff.1 HZC.out).1; have hge : V.heap.size ≤ (U.heap.size + 1) := (by have := HU.out.size; omega); have H5 := Lib.hid (And.intro (H3.out.1.trans (hb5.mono H3.out.1.size)) (And.intro hge (And.intro hrd5 (And.intro (Fresh.of (fun a ha => by have := hfA a ha; omega : ∀ a, A3 = some a → (U.heap.size + 1) + 1 ≤ a.block)) (Fresh.of (fun a ha => by have := hfB a ha; omega : ∀ a, B3 = some a → (U.heap.size + 1) + 1 ≤ a.block)))))); clear hrd5 hb5 hfA hfB hq hge) | (go_at_call 10; (with_reducible refine (HST.out w3 H3.out.1).mono ?_); rintro e w5 ⟨A3, c3, B3, d3, rfl, hrd5, hb5, hfA, hfB⟩; have H5 := Lib.hid (And.intro (H3.out.1.trans (hb5.mono H3.out.1.size)) (And.intro (Nat.le_refl V.heap.size) hrd5)); clear hrd5 hb5 hfA hfB) | (go_at_call 10; (with_reducible refine (HST.out (w3.alloc (.cells zeroS 27)) (H3.out.1.alloc H3.out.1.size _)).mono ?_); rintro e w5 ⟨A3, c3, B3, d3, rfl, hrd5, hb5, hfA, hfB⟩; have hz5 : w5.heap[w3.heap.size]? = some (.cells (cellsS St.zero (.slice none 0 0) (.slice none 0 0)) 27 (0, 0)) := (hb5.block _ (by simp)).trans (heap_alloc_new w3 _); obtain ⟨x0, x1, x2, x3, x4, x5, x6, x7, x8⟩ := nineT hz5; obtain ⟨g0, g1, g2, g3, g4, g5, g6, g7, g8⟩ := nineFT hz5; have HZ5 := Lib.hid hz5; clear hz5; have H5 := Lib.hid (And.intro ((H3.out.1.alloc H3.out.1.size _).trans (hb5.mono (H3.out.1.alloc H3.out.1.size _).size)) (And.intro H3.out.1.size (And.intro hrd5 (And.intro (Fresh.of (fun a ha => by have := hfA a ha; simp at this; omega : ∀ a, A3 = some a → w3.heap.size + 1 ≤ a.block)) (Fresh.of (fun a ha => by have := hfB a ha; simp at this; omega : ∀ a, B3 = some a → w3.heap.size + 1 ≤ a.block)))))); clear hrd5 hb5 hfA hfB))
              try go_wp2_with fail
              refine hK.out _ _ ?_ (fun hHeld4 => ?_)
              · (try dsimp only); (first | with_reducible exact HSK12.out _ HB.out.1 | with_reducible exact HSK12.out _ HB.out.2.1 | with_reducible exact HSK12.out _ HB.out.2.2.1 | with_reducible exact HSK12.out _ HB.out.2.2.2.1 | with_reducible exact HSK12.out _ HB.out.2.2.2.2 | with_reducible exact HSK12.out _ H3.out.1 | with_reducible exact HSK12.out _ (H3.out.1.alloc H3.out.1.size _) | with_reducible exact HSK12.out _ H5.out.1 | with_reducible exact HSK12.out _ (H5.out.1.alloc H5.out.1.size _) | with_reducible exact HSK12.out _ (H5.out.1.trans (filled_below _ _ _ H5.out.2.1 _ _ _ _ _ _ _ _ _).1) | with_reducible exact HSK12.out _ ((H5.out.1.alloc H5.out.1.size _).trans (filled_below _ _ _ H5.out.1.size _ _ _ _ _ _ _ _ _).1))
              clear hK K hHeld3
              try simp only [Act.put, List.getElem_toArray, List.getElem_cons_zero, List.getElem_cons_succ, List.setIfInBounds_toArray, List.set_cons_zero, List.set_cons_succ]
              refine wpAnyH_take (i := 4) (oi := _) (v := ?v5) rfl (by kernel_rfl) (by kernel_rfl) (by kernel_rfl) (fun _ _ _ h => h) (Or.inl ⟨by rfl, ?hy5⟩) (by assumption) ?rest5
              case hy5 => (intro w hSw; (try dsimp only at hSw); go_simp; all_goals with_reducible rfl)
              try simp only [Act.put, List.getElem_toArray, List.getElem_cons_zero, List.getElem_cons_succ, List.setIfInBounds_toArray, List.set_cons_zero, List.set_cons_succ]
              refine wpAnyH_ready (rs := [5, 10]) (by kernel_rfl) (by simp) ?_
              refine AllReadyH.cons (o := _) rfl (fun K hK => ?_) ?_
              · go_simp
                try go_wp2_with fail
                refine hK.out _ _ ?_ (fun hHeld6 => ?_)
                · (try dsimp only); (first | with_reducible exact HSK12.out _ HB.out.1 | with_reducible exact HSK12.out _ HB.out.2.1 | with_reducible exact HSK12.out _ HB.out.2.2.1 | with_reducible exact HSK12.out _ HB.out.2.2.2.1 | with_reducible exact HSK12.out _ HB.out.2.2.2.2 | with_reducible exact HSK12.out _ H3.out.1 | with_reducible exact HSK12.out _ (H3.out.1.alloc H3.out.1.size _) | with_reducible exact HSK12.out _ H5.out.1 | with_reducible exact HSK12.out _ (H5.out.1.alloc H5.out.1.size _) | with_reducible exact HSK12.out _ (H5.out.1.trans (filled_below _ _ _ H5.out.2.1 _ _ _ _ _ _ _ _ _).1) | with_reducible exact HSK12.out _ ((H5.out.1.alloc H5.out.1.size _).trans (filled_below _ _ _ H5.out.1.size _ _ _ _ _ _ _ _ _).1))
                clear hK K hHeld4
                try simp only [Act.put, List.getElem_toArray, List.getElem_cons_zero, List.getElem_cons_succ, List.setIfInBounds_toArray, List.set_cons_zero, List.set_cons_succ]
                refine wpAnyH_ready (rs := [6, 10]) (by kernel_rfl) (by simp) ?_
                refine AllReadyH.cons (o := _) rfl (fun K hK => ?_) ?_
                · go_simp
                  (first | (go_at_call 14; (with_reducible refine (moves1 m V (U.alloc (.cells #[.int .i64 m.k, .int .i64 m.a, .int .i64 m.b] 55)).drew HB.out.2.1 U.heap.size HRD.out.1).mono ?_); rintro e w3 ⟨g, dc, rfl, q0, q1, q2, hV3, hb3⟩; have hw3 := hb3.size; have H3 := Lib.hid (And.intro hV3 (show U.heap.size ≤ w3.heap.size by simp at hw3; omega)); have ha3 : Below w3.heap.size w3 (w3.alloc (.cells zeroS 27)) := (Below.refl _ _).alloc (Nat.le_refl _) _; have qa0 := (ha3.cell (World.block_lt_of_cell? _ _ q0)).trans q0; have qa1 := (ha3.cell (World.block_lt_of_cell? _ _ q1)).trans q1; have qa2 := (ha3.cell (World.block_lt_of_cell? _ _ q2)).trans q2; clear hV3 hb3 hw3 ha3) | (go_at_call 14; (with_reducible refine (moves1 m V ((U.alloc (.cells zeroS 27)).alloc (.cells #[.int .i64 m.k, .int .i64 m.a, .int .i64 m.b] 55)).drew HB.out.2.2.2.2 (U.heap.size + 1) HRD.out.2.1).mono ?_); rintro e w3 ⟨g, dc, rfl, q0, q1, q2, hV3, hb3⟩; have hz3 : w3.heap[U.heap.size]? = some (.cells (cellsS St.zero (.slice none 0 0) (.slice none 0 0)) 27 (0, 0)) := (hb3.block _ (Array.getElem?_eq_some_iff.1 HRD.out.2.2.2.1).1).trans HRD.out.2.2.2.1; have HZB := Lib.hid hz3; clear hz3; have hw3 := hb3.size; have H3 := Lib.hid (And.intro hV3 (show U.heap.size ≤ w3.heap.size by simp at hw3; omega)); have ha3 : Below w3.heap.size w3 (w3.alloc (.cells zeroS 27)) := (Below.refl _ _).alloc (Nat.le_refl _) _; have qa0 := (ha3.cell (World.block_lt_of_cell? _ _ q0)).trans q0; have qa1 := (ha3.cell (World.block_lt_of_cell? _ _ q1)).trans q1; have qa2 := (ha3.cell (World.block_lt_of_cell? _ _ q2)).trans q2; clear hV3 hb3 hw3 ha3) | (go_at_call 14; (with_reducible refine (moves1 m V ((U.alloc (.cells #[.int .i64 m.k, .int .i64 m.a, .int .i64 m.b] 55)).alloc (.cells zeroS 27)).drew HB.out.2.2.1 U.heap.size HRD.out.2.2.1).mono ?_); rintro e w3 ⟨g, dc, rfl, q0, q1, q2, hV3, hb3⟩; have hz3 : w3.heap[(U.heap.size + 1)]? = some (.cells (cellsS St.zero (.slice none 0 0) (.slice none 0 0)) 27 (0, 0)) := (hb3.block _ (Array.getElem?_eq_some_iff.1 HRD.out.2.2.2.2).1).trans HRD.out.2.2.2.2; have HZC := Lib.hid hz3; clear hz3; have hw3 := hb3.size; have H3 := Lib.hid (And.intro hV3 (show U.heap.size ≤ w3.heap.size by simp at hw3; omega)); have ha3 : Below w3.heap.size w3 (w3.alloc (.cells zeroS 27)) := (Below.refl _ _).alloc (Nat.le_refl _) _; have qa0 := (ha3.cell (World.block_lt_of_cell? _ _ q0)).trans q0; have qa1 := (ha3.cell (World.block_lt_of_cell? _ _ q1)).trans q1; have qa2 := (ha3.cell (World.block_lt_of_cell? _ _ q2)).trans q2; clear hV3 hb3 hw3 ha3) | (go_at_call 10; (with_reducible refine (HST.out w3 H3.out.1).mono ?_); rintro e w5 ⟨A3, c3, B3, d3, rfl, hrd5, hb5, hfA, hfB⟩; have hz5 : w5.heap[U.heap.size]? = some (.cells (cellsS St.zero (.slice none 0 0) (.slice none 0 0)) 27 (0, 0)) := (hb5.block _ (Array.getElem?_eq_some_iff.1 HZB.out).1).trans HZB.out; obtain ⟨x0, x1, x2, x3, x4, x5, x6, x7, x8⟩ := nineT hz5; obtain ⟨g0, g1, g2, g3, g4, g5, g6, g7, g8⟩ := nineFT hz5; have HZ5 := Lib.hid hz5; clear hz5; have hq := (Array.getElem?_eq_some_iff.1 HZB.out).1; have hge : V.heap.size ≤ U.heap.size := (by have := HU.out.size; omega); have H5 := Lib.hid (And.intro (H3.out.1.trans (hb5.mono H3.out.1.size)) (And.intro hge (And.intro hrd5 (And.intro (Fresh.of (fun a ha => by have := hfA a ha; omega : ∀ a, A3 = some a → U.heap.size + 1 ≤ a.block)) (Fresh.of (fun a ha => by have := hfB a ha; omega : ∀ a, B3 = some a → U.heap.size + 1 ≤ a.block)))))); clear hrd5 hb5 hfA hfB hq hge) | (go_at_call 10; (with_reducible refine (HST.out w3 H3.out.1).mono ?_); rintro e w5 ⟨A3, c3, B3, d3, rfl, hrd5, hb5, hfA, hfB⟩; have hz5 : w5.heap[(U.heap.size + 1)]? = some (.cells (cellsS St.zero (.slice none 0 0) (.slice none 0 0)) 27 (0, 0)) := (hb5.block _ (Array.getElem?_eq_some_iff.1 HZC.out).1).trans HZC.out; obtain ⟨x0, x1, x2, x3, x4, x5, x6, x7, x8⟩ := nineT hz5; obtain ⟨g0, g1, g2, g3, g4, g5, g6, g7, g8⟩ := nineFT hz5; have HZ5 := Lib.hid hz5; clear hz5; have hq := (Array.getElem?_eq_some_iff.1 HZC.out).1; have hge : V.heap.size ≤ (U.heap.size + 1) := (by have := HU.out.size; omega); have H5 := Lib.hid (And.intro (H3.out.1.trans (hb5.mono H3.out.1.size)) (And.intro hge (And.intro hrd5 (And.intro (Fresh.of (fun a ha => by have := hfA a ha; omega : ∀ a, A3 = some a → (U.heap.size + 1) + 1 ≤ a.block)) (Fresh.of (fun a ha => by have := hfB a ha; omega : ∀ a, B3 = some a → (U.heap.size + 1) + 1 ≤ a.block)))))); clear hrd5 hb5 hfA hfB hq hge) | (go_at_call 10; (with_reducible refine (HST.out w3 H3.out.1).mono ?_); rintro e w5 ⟨A3, c3, B3, d3, rfl, hrd5, hb5, hfA, hfB⟩; have H5 := Lib.hid (And.intro (H3.out.1.trans (hb5.mono H3.out.1.size)) (And.intro (Nat.le_refl V.heap.size) hrd5)); clear hrd5 hb5 hfA hfB) | (go_at_call 10; (with_reducible refine (HST.out (w3.alloc (.cells zeroS 27)) (H3.out.1.alloc H3.out.1.size _)).mono ?_); rintro e w5 ⟨A3, c3, B3, d3, rfl, hrd5, hb5, hfA, hfB⟩; have hz5 : w5.heap[w3.heap.size]? = some (.cells (cellsS St.zero (.slice none 0 0) (.slice none 0 0)) 27 (0, 0)) := (hb5.block _ (by simp)).trans (heap_alloc_new w3 _); obtain ⟨x0, x1, x2, x3, x4, x5, x6, x7, x8⟩ := nineT hz5; obtain ⟨g0, g1, g2, g3, g4, g5, g6, g7, g8⟩ := nineFT hz5; have HZ5 := Lib.hid hz5; clear hz5; have H5 := Lib.hid (And.intro ((H3.out.1.alloc H3.out.1.size _).trans (hb5.mono (H3.out.1.alloc H3.out.1.size _).size)) (And.intro H3.out.1.size (And.intro hrd5 (And.intro (Fresh.of (fun a ha => by have := hfA a ha; simp at this; omega : ∀ a, A3 = some a → w3.heap.size + 1 ≤ a.block)) (Fresh.of (fun a ha => by have := hfB a ha; simp at this; omega : ∀ a, B3 = some a → w3.heap.size + 1 ≤ a.block)))))); clear hrd5 hb5 hfA hfB))
                  try go_wp2_with fail
                  refine hK.out _ _ ?_ (fun hHeld7 => ?_)
                  · (try dsimp only); (first | with_reducible exact HSK12.out _ HB.out.1 | with_reducible exact HSK12.out _ HB.out.2.1 | with_reducible exact HSK12.out _ HB.out.2.2.1 | with_reducible exact HSK12.out _ HB.out.2.2.2.1 | with_reducible exact HSK12.out _ HB.out.2.2.2.2 | with_reducible exact HSK12.out _ H3.out.1 | with_reducible exact HSK12.out _ (H3.out.1.alloc H3.out.1.size _) | with_reducible exact HSK12.out _ H5.out.1 | with_reducible exact HSK12.out _ (H5.out.1.alloc H5.out.1.size _) | with_reducible exact HSK12.out _ (H5.out.1.trans (filled_below _ _ _ H5.out.2.1 _ _ _ _ _ _ _ _ _).1) | with_reducible exact HSK12.out _ ((H5.out.1.alloc H5.out.1.size _).trans (filled_below _ _ _ H5.out.1.size _ _ _ _ _ _ _ _ _).1))
                  clear hK K hHeld6
                  try simp only [Act.put, List.getElem_toArray, List.getElem_cons_zero, List.getElem_cons_succ, List.setIfInBounds_toArray, List.set_cons_zero, List.set_cons_succ]
                  refine wpAnyH_take (i := 7) (oi := _) (v := ?v8) rfl (by kernel_rfl) (by kernel_rfl) (by kernel_rfl) (fun _ _ _ h => h) (Or.inl ⟨by rfl, ?hy8⟩) (by assumption) ?rest8
                  case hy8 => (intro w hSw; (try dsimp only at hSw); go_simp; all_goals with_reducible rfl)
                  try simp only [Act.put, List.getElem_toArray, List.getElem_cons_zero, List.getElem_cons_succ, List.setIfInBounds_toArray, List.set_cons_zero, List.set_cons_succ]
                  refine wpAnyH_take (i := 8) (oi := _) (v := ?v9) rfl (by kernel_rfl) (by kernel_rfl) (by kernel_rfl) (fun _ _ _ h => h) (Or.inl ⟨by rfl, ?hy9⟩) (by assumption) ?rest9
                  case hy9 => (intro w hSw; (try dsimp only at hSw); go_simp; all_goals with_reducible rfl)
                  try simp only [Act.put, List.getElem_toArray, List.getElem_cons_zero, List.getElem_cons_succ, List.setIfInBounds_toArray, List.set_cons_zero, List.set_cons_succ]
                  refine wpAnyH_take (i := 9) (oi := _) (v := ?v10) rfl (by kernel_rfl) (by kernel_rfl) (by kernel_rfl) (fun _ _ _ h => h) (Or.inl ⟨by rfl, ?hy10⟩) (by assumption) ?rest10
                  case hy10 => (intro w hSw; (try dsimp only at hSw); go_simp; all_goals with_reducible rfl)
                  try simp only [Act.put, List.getElem_toArray, List.getElem_cons_zero, List.getElem_cons_succ, List.setIfInBounds_toArray, List.set_cons_zero, List.set_cons_succ]
                  refine wpAnyH_ready (rs := [10]) (by kernel_rfl) (by simp) ?_
                  refine AllReadyH.cons (o := _) rfl (fun K hK => ?_) ?_
                  · go_simp
                    try go_wp2_with fail
                    refine hK.out _ _ ?_ (fun hHeld11 => ?_)
                    · (try dsimp only); (first | with_reducible exact HSK12.out _ HB.out.1 | with_reducible exact HSK12.out _ HB.out.2.1 | with_reducible exact HSK12.out _ HB.out.2.2.1 | with_reducible exact HSK12.out _ HB.out.2.2.2.1 | with_reducible exact HSK12.out _ HB.out.2.2.2.2 | with_reducible exact HSK12.out _ H3.out.1 | with_reducible exact HSK12.out _ (H3.out.1.alloc H3.out.1.size _) | with_reducible exact HSK12.out _ H5.out.1 | with_reducible exact HSK12.out _ (H5.out.1.alloc H5.out.1.size _) | with_reducible exact HSK12.out _ (H5.out.1.trans (filled_below _ _ _ H5.out.2.1 _ _ _ _ _ _ _ _ _).1) | with_reducible exact HSK12.out _ ((H5.out.1.alloc H5.out.1.size _).trans (filled_below _ _ _ H5.out.1.size _ _ _ _ _ _ _ _ _).1))
                    clear hK K hHeld7
                    try simp only [Act.put, List.getElem_toArray, List.getElem_cons_zero, List.getElem_cons_succ, List.setIfInBounds_toArray, List.set_cons_zero, List.set_cons_succ]
                    refine wpAnyH_ready (rs := [11]) (by kernel_rfl) (by simp) ?_
                    refine AllReadyH.cons (o := _) rfl (fun K hK => ?_) ?_
                    · go_simp
                      try go_wp2_with fail
                      refine hK.out _ _ ?_ (fun hHeld12 => ?_)
                      · (try dsimp only); (first | with_reducible exact HSK12.out _ HB.out.1 | with_reducible exact HSK12.out _ HB.out.2.1 | with_reducible exact HSK12.out _ HB.out.2.2.1 | with_reducible exact HSK12.out _ HB.out.2.2.2.1 | with_reducible exact HSK12.out _ HB.out.2.2.2.2 | with_reducible exact HSK12.out _ H3.out.1 | with_reducible exact HSK12.out _ (H3.out.1.alloc H3.out.1.size _) | with_reducible exact HSK12.out _ H5.out.1 | with_reducible exact HSK12.out _ (H5.out.1.alloc H5.out.1.size _) | with_reducible exact HSK12.out _ (H5.out.1.trans (filled_below _ _ _ H5.out.2.1 _ _ _ _ _ _ _ _ _).1) | with_reducible exact HSK12.out _ ((H5.out.1.alloc H5.out.1.size _).trans (filled_below _ _ _ H5.out.1.size _ _ _ _ _ _ _ _ _).1))
                      clear hK K hHeld11
                      try simp only [Act.put, List.getElem_toArray, List.getElem_cons_zero, List.getElem_cons_succ, List.setIfInBounds_toArray, List.set_cons_zero, List.set_cons_succ]
                      refine wpAnyH_take (i := 12) (oi := _) (v := ?v13) rfl (by kernel_rfl) (by kernel_rfl) (by kernel_rfl) (fun _ _ _ h => h) (Or.inl ⟨by rfl, ?hy13⟩) (by assumption) ?rest13
                      case hy13 => (intro w hSw; (try dsimp only at hSw); go_simp; all_goals with_reducible rfl)
                      try simp only [Act.put, List.getElem_toArray, List.getElem_cons_zero, List.getElem_cons_succ, List.setIfInBounds_toArray, List.set_cons_zero, List.set_cons_succ]
                      refine wpAnyH_done (by kernel_rfl) ?_ _
                      refine NoPanic.normal ?_
                      go_wp2_with fail
                      go_meet
                      refine ⟨_, rfl, rfl, ?_⟩
                      first
                      | with_reducible exact NB.first H5.out.1 H5.out.2.2
                      | with_reducible exact NB.second H5.out.1 H5.out.2.1 HZ5.out H5.out.2.2.1 H5.out.2.2.2.1 H5.out.2.2.2.2
                      | with_reducible exact NB.third H5.out.1 H5.out.2.2
                    exact AllReadyH.nil
                  exact AllReadyH.nil
                refine AllReadyH.cons (o := _) rfl (fun K hK => ?_) ?_
                · go_simp
                  try go_wp2_with fail
                  refine hK.out _ _ ?_ (fun hHeld14 => ?_)
                  · (try dsimp only); (first | with_reducible exact HSK12.out _ HB.out.1 | with_reducible exact HSK12.out _ HB.out.2.1 | with_reducible exact HSK12.out _ HB.out.2.2.1 | with_reducible exact HSK12.out _ HB.out.2.2.2.1 | with_reducible exact HSK12.out _ HB.out.2.2.2.2 | with_reducible exact HSK12.out _ H3.out.1 | with_reducible exact HSK12.out _ (H3.out.1.alloc H3.out.1.size _) | with_reducible exact HSK12.out _ H5.out.1 | with_reducible exact HSK12.out _ (H5.out.1.alloc H5.out.1.size _) | with_reducible exact HSK12.out _ (H5.out.1.trans (filled_below _ _ _ H5.out.2.1 _ _ _ _ _ _ _ _ _).1) | with_reducible exact HSK12.out _ ((H5.out.1.alloc H5.out.1.size _).trans (filled_below _ _ _ H5.out.1.size _ _ _ _ _ _ _ _ _).1))
                  clear hK K hHeld6
                  try simp only [Act.put, List.getElem_toArray, List.getElem_cons_zero, List.getElem_cons_succ, List.setIfInBounds_toArray, List.set_cons_zero, List.set_cons_succ]
                  refine wpAnyH_ready (rs := [6]) (by kernel_rfl) (by simp) ?_
                  refine AllReadyH.cons (o := _) rfl (fun K hK => ?_) ?_
                  · go_simp
                    (first | (go_at_call 14; (with_reducible refine (moves1 m V (U.alloc (.cells #[.int .i64 m.k, .int .i64 m.a, .int .i64 m.b] 55)).drew HB.out.2.1 U.heap.size HRD.out.1).mono ?_); rintro e w3 ⟨g, dc, rfl, q0, q1, q2, hV3, hb3⟩; have hw3 := hb3.size; have H3 := Lib.hid (And.intro hV3 (show U.heap.size ≤ w3.heap.size by simp at hw3; omega)); have ha3 : Below w3.heap.size w3 (w3.alloc (.cells zeroS 27)) := (Below.refl _ _).alloc (Nat.le_refl _) _; have qa0 := (ha3.cell (World.block_lt_of_cell? _ _ q0)).trans q0; have qa1 := (ha3.cell (World.block_lt_of_cell? _ _ q1)).trans q1; have qa2 := (ha3.cell (World.block_lt_of_cell? _ _ q2)).trans q2; clear hV3 hb3 hw3 ha3) | (go_at_call 14; (with_reducible refine (moves1 m V ((U.alloc (.cells zeroS 27)).alloc (.cells #[.int .i64 m.k, .int .i64 m.a, .int .i64 m.b] 55)).drew HB.out.2.2.2.2 (U.heap.size + 1) HRD.out.2.1).mono ?_); rintro e w3 ⟨g, dc, rfl, q0, q1, q2, hV3, hb3⟩; have hz3 : w3.heap[U.heap.size]? = some (.cells (cellsS St.zero (.slice none 0 0) (.slice none 0 0)) 27 (0, 0)) := (hb3.block _ (Array.getElem?_eq_some_iff.1 HRD.out.2.2.2.1).1).trans HRD.out.2.2.2.1; have HZB := Lib.hid hz3; clear hz3; have hw3 := hb3.size; have H3 := Lib.hid (And.intro hV3 (show U.heap.size ≤ w3.heap.size by simp at hw3; omega)); have ha3 : Below w3.heap.size w3 (w3.alloc (.cells zeroS 27)) := (Below.refl _ _).alloc (Nat.le_refl _) _; have qa0 := (ha3.cell (World.block_lt_of_cell? _ _ q0)).trans q0; have qa1 := (ha3.cell (World.block_lt_of_cell? _ _ q1)).trans q1; have qa2 := (ha3.cell (World.block_lt_of_cell? _ _ q2)).trans q2; clear hV3 hb3 hw3 ha3) | (go_at_call 14; (with_reducible refine (moves1 m V ((U.alloc (.cells #[.int .i64 m.k, .int .i64 m.a, .int .i64 m.b] 55)).alloc (.cells zeroS 27)).drew HB.out.2.2.1 U.heap.size HRD.out.2.2.1).mono ?_); rintro e w3 ⟨g, dc, rfl, q0, q1, q2, hV3, hb3⟩; have hz3 : w3.heap[(U.heap.size + 1)]? = some (.cells (cellsS St.zero (.slice none 0 0) (.slice none 0 0)) 27 (0, 0)) := (hb3.block _ (Array.getElem?_eq_some_iff.1 HRD.out.2.2.2.2).1).trans HRD.out.2.2.2.2; have HZC := Lib.hid hz3; clear hz3; have hw3 := hb3.size; have H3 := Lib.hid (And.intro hV3 (show U.heap.size ≤ w3.heap.size by simp at hw3; omega)); have ha3 : Below w3.heap.size w3 (w3.alloc (.cells zeroS 27)) := (Below.refl _ _).alloc (Nat.le_refl _) _; have qa0 := (ha3.cell (World.block_lt_of_cell? _ _ q0)).trans q0; have qa1 := (ha3.cell (World.block_lt_of_cell? _ _ q1)).trans q1; have qa2 := (ha3.cell (World.block_lt_of_cell? _ _ q2)).trans q2; clear hV3 hb3 hw3 ha3) | (go_at_call 10; (with_reducible refine (HST.out w3 H3.out.1).mono ?_); rintro e w5 ⟨A3, c3, B3, d3, rfl, hrd5, hb5, hfA, hfB⟩; have hz5 : w5.heap[U.heap.size]? = some (.cells (cellsS St.zero (.slice none 0 0) (.slice none 0 0)) 27 (0, 0)) := (hb5.block _ (Array.getElem?_eq_some_iff.1 HZB.out).1).trans HZB.out; obtain ⟨x0, x1, x2, x3, x4, x5, x6, x7, x8⟩ := nineT hz5; obtain ⟨g0, g1, g2, g3, g4, g5, g6, g7, g8⟩ := nineFT hz5; have HZ5 := Lib.hid hz5; clear hz5; have hq := (Array.getElem?_eq_some_iff.1 HZB.out).1; have hge : V.heap.size ≤ U.heap.size := (by have := HU.out.size; omega); have H5 := Lib.hid (And.intro (H3.out.1.trans (hb5.mono H3.out.1.size)) (And.intro hge (And.intro hrd5 (And.intro (Fresh.of (fun a ha => by have := hfA a ha; omega : ∀ a, A3 = some a → U.heap.size + 1 ≤ a.block)) (Fresh.of (fun a ha => by have := hfB a ha; omega : ∀ a, B3 = some a → U.heap.size + 1 ≤ a.block)))))); clear hrd5 hb5 hfA hfB hq hge) | (go_at_call 10; (with_reducible refine (HST.out w3 H3.out.1).mono ?_); rintro e w5 ⟨A3, c3, B3, d3, rfl, hrd5, hb5, hfA, hfB⟩; have hz5 : w5.heap[(U.heap.size + 1)]? = some (.cells (cellsS St.zero (.slice none 0 0) (.slice none 0 0)) 27 (0, 0)) := (hb5.block _ (Array.getElem?_eq_some_iff.1 HZC.out).1).trans HZC.out; obtain ⟨x0, x1, x2, x3, x4, x5, x6, x7, x8⟩ := nineT hz5; obtain ⟨g0, g1, g2, g3, g4, g5, g6, g7, g8⟩ := nineFT hz5; have HZ5 := Lib.hid hz5; clear hz5; have hq := (Array.getElem?_eq_some_iff.1 HZC.out).1; have hge : V.heap.size ≤ (U.heap.size + 1) := (by have := HU.out.size; omega); have H5 := Lib.hid (And.intro (H3.out.1.trans (hb5.mono H3.out.1.size)) (And.intro hge (And.intro hrd5 (And.intro (Fresh.of (fun a ha => by have := hfA a ha; omega : ∀ a, A3 = some a → (U.heap.size + 1) + 1 ≤ a.block)) (Fresh.of (fun a ha => by have := hfB a ha; omega : ∀ a, B3 = some a → (U.heap.size + 1) + 1 ≤ a.block)))))); clear hrd5 hb5 hfA hfB hq hge) | (go_at_call 10; (with_reducible refine (HST.out w3 H3.out.1).mono ?_); rintro e w5 ⟨A3, c3, B3, d3, rfl, hrd5, hb5, hfA, hfB⟩; have H5 := Lib.hid (And.intro (H3.out.1.trans (hb5.mono H3.out.1.size)) (And.intro (Nat.le_refl V.heap.size) hrd5)); clear hrd5 hb5 hfA hfB) | (go_at_call 10; (with_reducible refine (HST.out (w3.alloc (.cells zeroS 27)) (H3.out.1.alloc H3.out.1.size _)).mono ?_); rintro e w5 ⟨A3, c3, B3, d3, rfl, hrd5, hb5, hfA, hfB⟩; have hz5 : w5.heap[w3.heap.size]? = some (.cells (cellsS St.zero (.slice none 0 0) (.slice none 0 0)) 27 (0, 0)) := (hb5.block _ (by simp)).trans (heap_alloc_new w3 _); obtain ⟨x0, x1, x2, x3, x4, x5, x6, x7, x8⟩ := nineT hz5; obtain ⟨g0, g1, g2, g3, g4, g5, g6, g7, g8⟩ := nineFT hz5; have HZ5 := Lib.hid hz5; clear hz5; have H5 := Lib.hid (And.intro ((H3.out.1.alloc H3.out.1.size _).trans (hb5.mono (H3.out.1.alloc H3.out.1.size _).size)) (And.intro H3.out.1.size (And.intro hrd5 (And.intro (Fresh.of (fun a ha => by have := hfA a ha; simp at this; omega : ∀ a, A3 = some a → w3.heap.size + 1 ≤ a.block)) (Fresh.of (fun a ha => by have := hfB a ha; simp at this; omega : ∀ a, B3 = some a → w3.heap.size + 1 ≤ a.block)))))); clear hrd5 hb5 hfA hfB))
                    try go_wp2_with fail
                    refine hK.out _ _ ?_ (fun hHeld15 => ?_)
                    · (try dsimp only); (first | with_reducible exact HSK12.out _ HB.out.1 | with_reducible exact HSK12.out _ HB.out.2.1 | with_reducible exact HSK12.out _ HB.out.2.2.1 | with_reducible exact HSK12.out _ HB.out.2.2.2.1 | with_reducible exact HSK12.out _ HB.out.2.2.2.2 | with_reducible exact HSK12.out _ H3.out.1 | with_reducible exact HSK12.out _ (H3.out.1.alloc H3.out.1.size _) | with_reducible exact HSK12.out _ H5.out.1 | with_reducible exact HSK12.out _ (H5.out.1.alloc H5.out.1.size _) | with_reducible exact HSK12.out _ (H5.out.1.trans (filled_below _ _ _ H5.out.2.1 _ _ _ _ _ _ _ _ _).1) | with_reducible exact HSK12.out _ ((H5.out.1.alloc H5.out.1.size _).trans (filled_below _ _ _ H5.out.1.size _ _ _ _ _ _ _ _ _).1))
                    clear hK K hHeld14
                    try simp only [Act.put, List.getElem_toArray, List.getElem_cons_zero, List.getElem_cons_succ, List.setIfInBounds_toArray, List.set_cons_zero, List.set_cons_succ]
                    refine wpAnyH_take (i := 7) (oi := _) (v := ?v16) rfl (by kernel_rfl) (by kernel_rfl) (by kernel_rfl) (fun _ _ _ h => h) (Or.inl ⟨by rfl, ?hy16⟩) (by assumption) ?rest16
                    case hy16 => (intro w hSw; (try dsimp only at hSw); go_simp; all_goals with_reducible rfl)
                    try simp only [Act.put, List.getElem_toArray, List.getElem_cons_zero, List.getElem_cons_succ, List.setIfInBounds_toArray, List.set_cons_zero, List.set_cons_succ]
                    refine wpAnyH_take (i := 8) (oi := _) (v := ?v17) rfl (by kernel_rfl) (by kernel_rfl) (by kernel_rfl) (fun _ _ _ h => h) (Or.inl ⟨by rfl, ?hy17⟩) (by assumption) ?rest17
                    case hy17 => (intro w hSw; (try dsimp only at hSw); go_simp; all_goals with_reducible rfl)
                    try simp only [Act.put, List.getElem_toArray, List.getElem_cons_zero, List.getElem_cons_succ, List.setIfInBounds_toArray, List.set_cons_zero, List.set_cons_succ]
                    refine wpAnyH_take (i := 9) (oi := _) (v := ?v18) rfl (by kernel_rfl) (by kernel_rfl) (by kernel_rfl) (fun _ _ _ h => h) (Or.inl ⟨by rfl, ?hy18⟩) (by assumption) ?rest18
                    case hy18 => (intro w hSw; (try dsimp only at hSw); go_simp; all_goals with_reducible rfl)
                    try simp only [Act.put, List.getElem_toArray, List.getElem_cons_zero, List.getElem_cons_succ, List.setIfInBounds_toArray, List.set_cons_zero, List.set_cons_succ]
                    refine wpAnyH_ready (rs := [11]) (by kernel_rfl) (by simp) ?_
                    refine AllReadyH.cons (o := _) rfl (fun K hK => ?_) ?_
                    · go_simp
                      try go_wp2_with fail
                      refine hK.out _ _ ?_ (fun hHeld19 => ?_)
                      · (try dsimp only); (first | with_reducible exact HSK12.out _ HB.out.1 | with_reducible exact HSK12.out _ HB.out.2.1 | with_reducible exact HSK12.out _ HB.out.2.2.1 | with_reducible exact HSK12.out _ HB.out.2.2.2.1 | with_reducible exact HSK12.out _ HB.out.2.2.2.2 | with_reducible exact HSK12.out _ H3.out.1 | with_reducible exact HSK12.out _ (H3.out.1.alloc H3.out.1.size _) | with_reducible exact HSK12.out _ H5.out.1 | with_reducible exact HSK12.out _ (H5.out.1.alloc H5.out.1.size _) | with_reducible exact HSK12.out _ (H5.out.1.trans (filled_below _ _ _ H5.out.2.1 _ _ _ _ _ _ _ _ _).1) | with_reducible exact HSK12.out _ ((H5.out.1.alloc H5.out.1.size _).trans (filled_below _ _ _ H5.out.1.size _ _ _ _ _ _ _ _ _).1))
                      clear hK K hHeld15
                      try simp only [Act.put, List.getElem_toArray, List.getElem_cons_zero, List.getElem_cons_succ, List.setIfInBounds_toArray, List.set_cons_zero, List.set_cons_succ]
                      refine wpAnyH_take (i := 12) (oi := _) (v := ?v20) rfl (by kernel_rfl) (by kernel_rfl) (by kernel_rfl) (fun _ _ _ h => h) (Or.inl ⟨by rfl, ?hy20⟩) (by assumption) ?rest20
                      case hy20 => (intro w hSw; (try dsimp only at hSw); go_simp; all_goals with_reducible rfl)
                      try simp only [Act.put, List.getElem_toArray, List.getElem_cons_zero, List.getElem_cons_succ, List.setIfInBounds_toArray, List.set_cons_zero, List.set_cons_succ]
                      refine wpAnyH_done (by kernel_rfl) ?_ _
                      refine NoPanic.normal ?_
                      go_wp2_with fail
                      go_meet
                      refine ⟨_, rfl, rfl, ?_⟩
                      first
                      | with_reducible exact NB.first H5.out.1 H5.out.2.2
                      | with_reducible exact NB.second H5.out.1 H5.out.2.1 HZ5.out H5.out.2.2.1 H5.out.2.2.2.1 H5.out.2.2.2.2
                      | with_reducible exact NB.third H5.out.1 H5.out.2.2
                    exact AllReadyH.nil
                  exact AllReadyH.nil
                exact AllReadyH.nil
              refine AllReadyH.cons (o := _) rfl (fun K hK => ?_) ?_
              · go_simp
                try go_wp2_with fail
                refine hK.out _ _ ?_ (fun hHeld21 => ?_)
                · (try dsimp only); (first | with_reducible exact HSK12.out _ HB.out.1 | with_reducible exact HSK12.out _ HB.out.2.1 | with_reducible exact HSK12.out _ HB.out.2.2.1 | with_reducible exact HSK12.out _ HB.out.2.2.2.1 | with_reducible exact HSK12.out _ HB.out.2.2.2.2 | with_reducible exact HSK12.out _ H3.out.1 | with_reducible exact HSK12.out _ (H3.out.1.alloc H3.out.1.size _) | with_reducible exact HSK12.out _ H5.out.1 | with_reducible exact HSK12.out _ (H5.out.1.alloc H5.out.1.size _) | with_reducible exact HSK12.out _ (H5.out.1.trans (filled_below _ _ _ H5.out.2.1 _ _ _ _ _ _ _ _ _).1) | with_reducible exact HSK12.out _ ((H5.out.1.alloc H5.out.1.size _).trans (filled_below _ _ _ H5.out.1.size _ _ _ _ _ _ _ _ _).1))
                clear hK K hHeld4
                try simp only [Act.put, List.getElem_toArray, List.getElem_cons_zero, List.getElem_cons_succ, List.setIfInBounds_toArray, List.set_cons_zero, List.set_cons_succ]
                refine wpAnyH_ready (rs := [5]) (by kernel_rfl) (by simp) ?_
                refine AllReadyH.cons (o := _) rfl (fun K hK => ?_) ?_
                · go_simp
                  try go_wp2_with fail
                  refine hK.out _ _ ?_ (fun hHeld22 => ?_)
                  · (try dsimp only); (first | with_reducible exact HSK12.out _ HB.out.1 | with_reducible exact HSK12.out _ HB.out.2.1 | with_reducible exact HSK12.out _ HB.out.2.2.1 | with_reducible exact HSK12.out _ HB.out.2.2.2.1 | with_reducible exact HSK12.out _ HB.out.2.2.2.2 | with_reducible exact HSK12.out _ H3.out.1 | with_reducible exact HSK12.out _ (H3.out.1.alloc H3.out.1.size _) | with_reducible exact HSK12.out _ H5.out.1 | with_reducible exact HSK12.out _ (H5.out.1.alloc H5.out.1.size _) | with_reducible exact HSK12.out _ (H5.out.1.trans (filled_below _ _ _ H5.out.2.1 _ _ _ _ _ _ _ _ _).1) | with_reducible exact HSK12.out _ ((H5.out.1.alloc H5.out.1.size _).trans (filled_below _ _ _ H5.out.1.size _ _ _ _ _ _ _ _ _).1))
                  clear hK K hHeld21
                  try simp only [Act.put, List.getElem_toArray, List.getElem_cons_zero, List.getElem_cons_succ, List.setIfInBounds_toArray, List.set_cons_zero, List.set_cons_succ]
                  refine wpAnyH_ready (rs := [6]) (by kernel_rfl) (by simp) ?_
                  refine AllReadyH.cons (o := _) rfl (fun K hK => ?_) ?_
                  · go_simp
                    (first | (go_at_call 14; (with_reducible refine (moves1 m V (U.alloc (.cells #[.int .i64 m.k, .int .i64 m.a, .int .i64 m.b] 55)).drew HB.out.2.1 U.heap.size HRD.out.1).mono ?_); rintro e w3 ⟨g, dc, rfl, q0, q1, q2, hV3, hb3⟩; have hw3 := hb3.size; have H3 := Lib.hid (And.intro hV3 (show U.heap.size ≤ w3.heap.size by simp at hw3; omega)); have ha3 : Below w3.heap.size w3 (w3.alloc (.cells zeroS 27)) := (Below.refl _ _).alloc (Nat.le_refl _) _; have qa0 := (ha3.cell (World.block_lt_of_cell? _ _ q0)).trans q0; have qa1 := (ha3.cell (World.block_lt_of_cell? _ _ q1)).trans q1; have qa2 := (ha3.cell (World.block_lt_of_cell? _ _ q2)).trans q2; clear hV3 hb3 hw3 ha3) | (go_at_call 14; (with_reducible refine (moves1 m V ((U.alloc (.cells zeroS 27)).alloc (.cells #[.int .i64 m.k, .int .i64 m.a, .int .i64 m.b] 55)).drew HB.out.2.2.2.2 (U.heap.size + 1) HRD.out.2.1).mono ?_); rintro e w3 ⟨g, dc, rfl, q0, q1, q2, hV3, hb3⟩; have hz3 : w3.heap[U.heap.size]? = some (.cells (cellsS St.zero (.slice none 0 0) (.slice none 0 0)) 27 (0, 0)) := (hb3.block _ (Array.getElem?_eq_some_iff.1 HRD.out.2.2.2.1).1).trans HRD.out.2.2.2.1; have HZB := Lib.hid hz3; clear hz3; have hw3 := hb3.size; have H3 := Lib.hid (And.intro hV3 (show U.heap.size ≤ w3.heap.size by simp at hw3; omega)); have ha3 : Below w3.heap.size w3 (w3.alloc (.cells zeroS 27)) := (Below.refl _ _).alloc (Nat.le_refl _) _; have qa0 := (ha3.cell (World.block_lt_of_cell? _ _ q0)).trans q0; have qa1 := (ha3.cell (World.block_lt_of_cell? _ _ q1)).trans q1; have qa2 := (ha3.cell (World.block_lt_of_cell? _ _ q2)).trans q2; clear hV3 hb3 hw3 ha3) | (go_at_call 14; (with_reducible refine (moves1 m V ((U.alloc (.cells #[.int .i64 m.k, .int .i64 m.a, .int .i64 m.b] 55)).alloc (.cells zeroS 27)).drew HB.out.2.2.1 U.heap.size HRD.out.2.2.1).mono ?_); rintro e w3 ⟨g, dc, rfl, q0, q1, q2, hV3, hb3⟩; have hz3 : w3.heap[(U.heap.size + 1)]? = some (.cells (cellsS St.zero (.slice none 0 0) (.slice none 0 0)) 27 (0, 0)) := (hb3.block _ (Array.getElem?_eq_some_iff.1 HRD.out.2.2.2.2).1).trans HRD.out.2.2.2.2; have HZC := Lib.hid hz3; clear hz3; have hw3 := hb3.size; have H3 := Lib.hid (And.intro hV3 (show U.heap.size ≤ w3.heap.size by simp at hw3; omega)); have ha3 : Below w3.heap.size w3 (w3.alloc (.cells zeroS 27)) := (Below.refl _ _).alloc (Nat.le_refl _) _; have qa0 := (ha3.cell (World.block_lt_of_cell? _ _ q0)).trans q0; have qa1 := (ha3.cell (World.block_lt_of_cell? _ _ q1)).trans q1; have qa2 := (ha3.cell (World.block_lt_of_cell? _ _ q2)).trans q2; clear hV3 hb3 hw3 ha3) | (go_at_call 10; (with_reducible refine (HST.out w3 H3.out.1).mono ?_); rintro e w5 ⟨A3, c3, B3, d3, rfl, hrd5, hb5, hfA, hfB⟩; have hz5 : w5.heap[U.heap.size]? = some (.cells (cellsS St.zero (.slice none 0 0) (.slice none 0 0)) 27 (0, 0)) := (hb5.block _ (Array.getElem?_eq_some_iff.1 HZB.out).1).trans HZB.out; obtain ⟨x0, x1, x2, x3, x4, x5, x6, x7, x8⟩ := nineT hz5; obtain ⟨g0, g1, g2, g3, g4, g5, g6, g7, g8⟩ := nineFT hz5; have HZ5 := Lib.hid hz5; clear hz5; have hq := (Array.getElem?_eq_some_iff.1 HZB.out).1; have hge : V.heap.size ≤ U.heap.size := (by have := HU.out.size; omega); have H5 := Lib.hid (And.intro (H3.out.1.trans (hb5.mono H3.out.1.size)) (And.intro hge (And.intro hrd5 (And.intro (Fresh.of (fun a ha => by have := hfA a ha; omega : ∀ a, A3 = some a → U.heap.size + 1 ≤ a.block)) (Fresh.of (fun a ha => by have := hfB a ha; omega : ∀ a, B3 = some a → U.heap.size + 1 ≤ a.block)))))); clear hrd5 hb5 hfA hfB hq hge) | (go_at_call 10; (with_reducible refine (HST.out w3 H3.out.1).mono ?_); rintro e w5 ⟨A3, c3, B3, d3, rfl, hrd5, hb5, hfA, hfB⟩; have hz5 : w5.heap[(U.heap.size + 1)]? = some (.cells (cellsS St.zero (.slice none 0 0) (.slice none 0 0)) 27 (0, 0)) := (hb5.block _ (Array.getElem?_eq_some_iff.1 HZC.out).1).trans HZC.out; obtain ⟨x0, x1, x2, x3, x4, x5, x6, x7, x8⟩ := nineT hz5; obtain ⟨g0, g1, g2, g3, g4, g5, g6, g7, g8⟩ := nineFT hz5; have HZ5 := Lib.hid hz5; clear hz5; have hq := (Array.getElem?_eq_some_iff.1 HZC.out).1; have hge : V.heap.size ≤ (U.heap.size + 1) := (by have := HU.out.size; omega); have H5 := Lib.hid (And.intro (H3.out.1.trans (hb5.mono H3.out.1.size)) (And.intro hge (And.intro hrd5 (And.intro (Fresh.of (fun a ha => by have := hfA a ha; omega : ∀ a, A3 = some a → (U.heap.size + 1) + 1 ≤ a.block)) (Fresh.of (fun a ha => by have := hfB a ha; omega : ∀ a, B3 = some a → (U.heap.size + 1) + 1 ≤ a.block)))))); clear hrd5 hb5 hfA hfB hq hge) | (go_at_call 10; (with_reducible refine (HST.out w3 H3.out.1).mono ?_); rintro e w5 ⟨A3, c3, B3, d3, rfl, hrd5, hb5, hfA, hfB⟩; have H5 := Lib.hid (And.intro (H3.out.1.trans (hb5.mono H3.out.1.size)) (And.intro (Nat.le_refl V.heap.size) hrd5)); clear hrd5 hb5 hfA hfB) | (go_at_call 10; (with_reducible refine (HST.out (w3.alloc (.cells zeroS 27)) (H3.out.1.alloc H3.out.1.size _)).mono ?_); rintro e w5 ⟨A3, c3, B3, d3, rfl, hrd5, hb5, hfA, hfB⟩; have hz5 : w5.heap[w3.heap.size]? = some (.cells (cellsS St.zero (.slice none 0 0) (.slice none 0 0)) 27 (0, 0)) := (hb5.block _ (by simp)).trans (heap_alloc_new w3 _); obtain ⟨x0, x1, x2, x3, x4, x5, x6, x7, x8⟩ := nineT hz5; obtain ⟨g0, g1, g2, g3, g4, g5, g6, g7, g8⟩ := nineFT hz5; have HZ5 := Lib.hid hz5; clear hz5; have H5 := Lib.hid (And.intro ((H3.out.1.alloc H3.out.1.size _).trans (hb5.mono (H3.out.1.alloc H3.out.1.size _).size)) (And.intro H3.out.1.size (And.intro hrd5 (And.intro (Fresh.of (fun a ha => by have := hfA a ha; simp at this; omega : ∀ a, A3 = some a → w3.heap.size + 1 ≤ a.block)) (Fresh.of (fun a ha => by have := hfB a ha; simp at this; omega : ∀ a, B3 = some a → w3.heap.size + 1 ≤ a.block)))))); clear hrd5 hb5 hfA hfB))
                    try go_wp2_with fail
                    refine hK.out _ _ ?_ (fun hHeld23 => ?_)
                    · (try dsimp only); (first | with_reducible exact HSK12.out _ HB.out.1 | with_reducible exact HSK12.out _ HB.out.2.1 | with_reducible exact HSK12.out _ HB.out.2.2.1 | with_reducible exact HSK12.out _ HB.out.2.2.2.1 | with_reducible exact HSK12.out _ HB.out.2.2.2.2 | with_reducible exact HSK12.out _ H3.out.1 | with_reducible exact HSK12.out _ (H3.out.1.alloc H3.out.1.size _) | with_reducible exact HSK12.out _ H5.out.1 | with_reducible exact HSK12.out _ (H5.out.1.alloc H5.out.1.size _) | with_reducible exact HSK12.out _ (H5.out.1.trans (filled_below _ _ _ H5.out.2.1 _ _ _ _ _ _ _ _ _).1) | with_reducible exact HSK12.out _ ((H5.out.1.alloc H5.out.1.size _).trans (filled_below _ _ _ H5.out.1.size _ _ _ _ _ _ _ _ _).1))
                    clear hK K hHeld22
                    try simp only [Act.put, List.getElem_toArray, List.getElem_cons_zero, List.getElem_cons_succ, List.setIfInBounds_toArray, List.set_cons_zero, List.set_cons_succ]
                    refine wpAnyH_take (i := 7) (oi := _) (v := ?v24) rfl (by kernel_rfl) (by kernel_rfl) (by kernel_rfl) (fun _ _ _ h => h) (Or.inl ⟨by rfl, ?hy24⟩) (by assumption) ?rest24
                    case hy24 => (intro w hSw; (try dsimp only at hSw); go_simp; all_goals with_reducible rfl)
                    try simp only [Act.put, List.getElem_toArray, List.getElem_cons_zero, List.getElem_cons_succ, List.setIfInBounds_toArray, List.set_cons_zero, List.set_cons_succ]
                    refine wpAnyH_take (i := 8) (oi := _) (v := ?v25) rfl (by kernel_rfl) (by kernel_rfl) (by kernel_rfl) (fun _ _ _ h => h) (Or.inl ⟨by rfl, ?hy25⟩) (by assumption) ?rest25
                    case hy25 => (intro w hSw; (try dsimp only at hSw); go_simp; all_goals with_reducible rfl)
                    try simp only [Act.put, List.getElem_toArray, List.getElem_cons_zero, List.getElem_cons_succ, List.setIfInBounds_toArray, List.set_cons_zero, List.set_cons_succ]
                    refine wpAnyH_take (i := 9) (oi := _) (v := ?v26) rfl (by kernel_rfl) (by kernel_rfl) (by kernel_rfl) (fun _ _ _ h => h) (Or.inl ⟨by rfl, ?hy26⟩) (by assumption) ?rest26
                    case hy26 => (intro w hSw; (try dsimp only at hSw); go_simp; all_goals with_reducible rfl)
                    try simp only [Act.put, List.getElem_toArray, List.getElem_cons_zero, List.getElem_cons_succ, List.setIfInBounds_toArray, List.set_cons_zero, List.set_cons_succ]
                    refine wpAnyH_ready (rs := [11]) (by kernel_rfl) (by simp) ?_
                    refine AllReadyH.cons (o := _) rfl (fun K hK => ?_) ?_
                    · go_simp
                      try go_wp2_with fail
                      refine hK.out _ _ ?_ (fun hHeld27 => ?_)
                      · (try dsimp only); (first | with_reducible exact HSK12.out _ HB.out.1 | with_reducible exact HSK12.out _ HB.out.2.1 | with_reducible exact HSK12.out _ HB.out.2.2.1 | with_reducible exact HSK12.out _ HB.out.2.2.2.1 | with_reducible exact HSK12.out _ HB.out.2.2.2.2 | with_reducible exact HSK12.out _ H3.out.1 | with_reducible exact HSK12.out _ (H3.out.1.alloc H3.out.1.size _) | with_reducible exact HSK12.out _ H5.out.1 | with_reducible exact HSK12.out _ (H5.out.1.alloc H5.out.1.size _) | with_reducible exact HSK12.out _ (H5.out.1.trans (filled_below _ _ _ H5.out.2.1 _ _ _ _ _ _ _ _ _).1) | with_reducible exact HSK12.out _ ((H5.out.1.alloc H5.out.1.size _).trans (filled_below _ _ _ H5.out.1.size _ _ _ _ _ _ _ _ _).1))
                      clear hK K hHeld23
                      try simp only [Act.put, List.getElem_toArray, List.getElem_cons_zero, List.getElem_cons_succ, List.setIfInBounds_toArray, List.set_cons_zero, List.set_cons_succ]
                      refine wpAnyH_take (i := 12) (oi := _) (v := ?v28) rfl (by kernel_rfl) (by kernel_rfl) (by kernel_rfl) (fun _ _ _ h => h) (Or.inl ⟨by rfl, ?hy28⟩) (by assumption) ?rest28
                      case hy28 => (intro w hSw; (try dsimp only at hSw); go_simp; all_goals with_reducible rfl)
                      try simp only [Act.put, List.getElem_toArray, List.getElem_cons_zero, List.getElem_cons_succ, List.setIfInBounds_toArray, List.set_cons_zero, List.set_cons_succ]
                      refine wpAnyH_done (by kernel_rfl) ?_ _
                      refine NoPanic.normal ?_
                      go_wp2_with fail
                      go_meet
                      refine ⟨_, rfl, rfl, ?_⟩
                      first
                      | with_reducible exact NB.first H5.out.1 H5.out.2.2
                      | with_reducible exact NB.second H5.out.1 H5.out.2.1 HZ5.out H5.out.2.2.1 H5.out.2.2.2.1 H5.out.2.2.2.2
                      | with_reducible exact NB.third H5.out.1 H5.out.2.2
                    exact AllReadyH.nil
                  exact AllReadyH.nil
                exact AllReadyH.nil
              exact AllReadyH.nil
            refine AllReadyH.cons (o := _) rfl (fun K hK => ?_) ?_
            · go_simp
              try go_wp2_with fail
              refine hK.out _ _ ?_ (fun hHeld29 => ?_)
              · (try dsimp only); (first | with_reducible exact HSK12.out _ HB.out.1 | with_reducible exact HSK12.out _ HB.out.2.1 | with_reducible exact HSK12.out _ HB.out.2.2.1 | with_reducible exact HSK12.out _ HB.out.2.2.2.1 | with_reducible exact HSK12.out _ HB.out.2.2.2.2 | with_reducible exact HSK12.out _ H3.out.1 | with_reducible exact HSK12.out _ (H3.out.1.alloc H3.out.1.size _) | with_reducible exact HSK12.out _ H5.out.1 | with_reducible exact HSK12.out _ (H5.out.1.alloc H5.out.1.size _) | with_reducible exact HSK12.out _ (H5.out.1.trans (filled_below _ _ _ H5.out.2.1 _ _ _ _ _ _ _ _ _).1) | with_reducible exact HSK12.out _ ((H5.out.1.alloc H5.out.1.size _).trans (filled_below _ _ _ H5.out.1.size _ _ _ _ _ _ _ _ _).1))
              clear hK K hHeld3
              try simp only [Act.put, List.getElem_toArray, List.getElem_cons_zero, List.getElem_cons_succ, List.setIfInBounds_toArray, List.set_cons_zero, List.set_cons_succ]
              refine wpAnyH_ready (rs := [3]) (by kernel_rfl) (by simp) ?_
              refine AllReadyH.cons (o := _) rfl (fun K hK => ?_) ?_
              · go_simp
                (first | (go_at_call 14; (with_reducible refine (moves1 m V (U.alloc (.cells #[.int .i64 m.k, .int .i64 m.a, .int .i64 m.b] 55)).drew HB.out.2.1 U.heap.size HRD.out.1).mono ?_); rintro e w3 ⟨g, dc, rfl, q0, q1, q2, hV3, hb3⟩; have hw3 := hb3.size; have H3 := Lib.hid (And.intro hV3 (show U.heap.size ≤ w3.heap.size by simp at hw3; omega)); have ha3 : Below w3.heap.size w3 (w3.alloc (.cells zeroS 27)) := (Below.refl _ _).alloc (Nat.le_refl _) _; have qa0 := (ha3.cell (World.block_lt_of_cell? _ _ q0)).trans q0; have qa1 := (ha3.cell (World.block_lt_of_cell? _ _ q1)).trans q1; have qa2 := (ha3.cell (World.block_lt_of_cell? _ _ q2)).trans q2; clear hV3 hb3 hw3 ha3) | (go_at_call 14; (with_reducible refine (moves1 m V ((U.alloc (.cells zeroS 27)).alloc (.cells #[.int .i64 m.k, .int .i64 m.a, .int .i64 m.b] 55)).drew HB.out.2.2.2.2 (U.heap.size + 1) HRD.out.2.1).mono ?_); rintro e w3 ⟨g, dc, rfl, q0, q1, q2, hV3, hb3⟩; have hz3 : w3.heap[U.heap.size]? = some (.cells (cellsS St.zero (.slice none 0 0) (.slice none 0 0)) 27 (0, 0)) := (hb3.block _ (Array.getElem?_eq_some_iff.1 HRD.out.2.2.2.1).1).trans HRD.out.2.2.2.1; have HZB := Lib.hid hz3; clear hz3; have hw3 := hb3.size; have H3 := Lib.hid (And.intro hV3 (show U.heap.size ≤ w3.heap.size by simp at hw3; omega)); have ha3 : Below w3.heap.size w3 (w3.alloc (.cells zeroS 27)) := (Below.refl _ _).alloc (Nat.le_refl _) _; have qa0 := (ha3.cell (World.block_lt_of_cell? _ _ q0)).trans q0; have qa1 := (ha3.cell (World.block_lt_of_cell? _ _ q1)).trans q1; have qa2 := (ha3.cell (World.block_lt_of_cell? _ _ q2)).trans q2; clear hV3 hb3 hw3 ha3) | (go_at_call 14; (with_reducible refine (moves1 m V ((U.alloc (.cells #[.int .i64 m.k, .int .i64 m.a, .int .i64 m.b] 55)).alloc (.cells zeroS 27)).drew HB.out.2.2.1 U.heap.size HRD.out.2.2.1).mono ?_); rintro e w3 ⟨g, dc, rfl, q0, q1, q2, hV3, hb3⟩; have hz3 : w3.heap[(U.heap.size + 1)]? = some (.cells (cellsS St.zero (.slice none 0 0) (.slice none 0 0)) 27 (0, 0)) := (hb3.block _ (Array.getElem?_eq_some_iff.1 HRD.out.2.2.2.2).1).trans HRD.out.2.2.2.2; have HZC := Lib.hid hz3; clear hz3; have hw3 := hb3.size; have H3 := Lib.hid (And.intro hV3 (show U.heap.size ≤ w3.heap.size by simp at hw3; omega)); have ha3 : Below w3.heap.size w3 (w3.alloc (.cells zeroS 27)) := (Below.refl _ _).alloc (Nat.le_refl _) _; have qa0 := (ha3.cell (World.block_lt_of_cell? _ _ q0)).trans q0; have qa1 := (ha3.cell (World.block_lt_of_cell? _ _ q1)).trans q1; have qa2 := (ha3.cell (World.block_lt_of_cell? _ _ q2)).trans q2; clear hV3 hb3 hw3 ha3) | (go_at_call 10; (with_reducible refine (HST.out w3 H3.out.1).mono ?_); rintro e w5 ⟨A3, c3, B3, d3, rfl, hrd5, hb5, hfA, hfB⟩; have hz5 : w5.heap[U.heap.size]? = some (.cells (cellsS St.zero (.slice none 0 0) (.slice none 0 0)) 27 (0, 0)) := (hb5.block _ (Array.getElem?_eq_some_iff.1 HZB.out).1).trans HZB.out; obtain ⟨x0, x1, x2, x3, x4, x5, x6, x7, x8⟩ := nineT hz5; obtain ⟨g0, g1, g2, g3, g4, g5, g6, g7, g8⟩ := nineFT hz5; have HZ5 := Lib.hid hz5; clear hz5; have hq := (Array.getElem?_eq_some_iff.1 HZB.out).1; have hge : V.heap.size ≤ U.heap.size := (by have := HU.out.size; omega); have H5 := Lib.hid (And.intro (H3.out.1.trans (hb5.mono H3.out.1.size)) (And.intro hge (And.intro hrd5 (And.intro (Fresh.of (fun a ha => by have := hfA a ha; omega : ∀ a, A3 = some a → U.heap.size + 1 ≤ a.block)) (Fresh.of (fun a ha => by have := hfB a ha; omega : ∀ a, B3 = some a → U.heap.size + 1 ≤ a.block)))))); clear hrd5 hb5 hfA hfB hq hge) | (go_at_call 10; (with_reducible refine (HST.out w3 H3.out.1).mono ?_); rintro e w5 ⟨A3, c3, B3, d3, rfl, hrd5, hb5, hfA, hfB⟩; have hz5 : w5.heap[(U.heap.size + 1)]? = some (.cells (cellsS St.zero (.slice none 0 0) (.slice none 0 0)) 27 (0, 0)) := (hb5.block _ (Array.getElem?_eq_some_iff.1 HZC.out).1).trans HZC.out; obtain ⟨x0, x1, x2, x3, x4, x5, x6, x7, x8⟩ := nineT hz5; obtain ⟨g0, g1, g2, g3, g4, g5, g6, g7, g8⟩ := nineFT hz5; have HZ5 := Lib.hid hz5; clear hz5; have hq := (Array.getElem?_eq_some_iff.1 HZC.out).1; have hge : V.heap.size ≤ (U.heap.size + 1) := (by have := HU.out.size; omega); have H5 := Lib.hid (And.intro (H3.out.1.trans (hb5.mono H3.out.1.size)) (And.intro hge (And.intro hrd5 (And.intro (Fresh.of (fun a ha => by have := hfA a ha; omega : ∀ a, A3 = some a → (U.heap.size + 1) + 1 ≤ a.block)) (Fresh.of (fun a ha => by have := hfB a ha; omega : ∀ a, B3 = some a → (U.heap.size + 1) + 1 ≤ a.block)))))); clear hrd5 hb5 hfA hfB hq hge) | (go_at_call 10; (with_reducible refine (HST.out w3 H3.out.1).mono ?_); rintro e w5 ⟨A3, c3, B3, d3, rfl, hrd5, hb5, hfA, hfB⟩; have H5 := Lib.hid (And.intro (H3.out.1.trans (hb5.mono H3.out.1.size)) (And.intro (Nat.le_refl V.heap.size) hrd5)); clear hrd5 hb5 hfA hfB) | (go_at_call 10; (with_reducible refine (HST.out (w3.alloc (.cells zeroS 27)) (H3.out.1.alloc H3.out.1.size _)).mono ?_); rintro e w5 ⟨A3, c3, B3, d3, rfl, hrd5, hb5, hfA, hfB⟩; have hz5 : w5.heap[w3.heap.size]? = some (.cells (cellsS St.zero (.slice none 0 0) (.slice none 0 0)) 27 (0, 0)) := (hb5.block _ (by simp)).trans (heap_alloc_new w3 _); obtain ⟨x0, x1, x2, x3, x4, x5, x6, x7, x8⟩ := nineT hz5; obtain ⟨g0, g1, g2, g3, g4, g5, g6, g7, g8⟩ := nineFT hz5; have HZ5 := Lib.hid hz5; clear hz5; have H5 := Lib.hid (And.intro ((H3.out.1.alloc H3.out.1.size _).trans (hb5.mono (H3.out.1.alloc H3.out.1.size _).size)) (And.intro H3.out.1.size (And.intro hrd5 (And.intro (Fresh.of (fun a ha => by have := hfA a ha; simp at this; omega : ∀ a, A3 = some a → w3.heap.size + 1 ≤ a.block)) (Fresh.of (fun a ha => by have := hfB a ha; simp at this; omega : ∀ a, B3 = some a → w3.heap.size + 1 ≤ a.block)))))); clear hrd5 hb5 hfA hfB))
                try go_wp2_with fail
                refine hK.out _ _ ?_ (fun hHeld30 => ?_)
                · (try dsimp only); (first | with_reducible exact HSK12.out _ HB.out.1 | with_reducible exact HSK12.out _ HB.out.2.1 | with_reducible exact HSK12.out _ HB.out.2.2.1 | with_reducible exact HSK12.out _ HB.out.2.2.2.1 | with_reducible exact HSK12.out _ HB.out.2.2.2.2 | with_reducible exact HSK12.out _ H3.out.1 | with_reducible exact HSK12.out _ (H3.out.1.alloc H3.out.1.size _) | with_reducible exact HSK12.out _ H5.out.1 | with_reducible exact HSK12.out _ (H5.out.1.alloc H5.out.1.size _) | with_reducible exact HSK12.out _ (H5.out.1.trans (filled_below _ _ _ H5.out.2.1 _ _ _ _ _ _ _ _ _).1) | with_reducible exact HSK12.out _ ((H5.out.1.alloc H5.out.1.size _).trans (filled_below _ _ _ H5.out.1.size _ _ _ _ _ _ _ _ _).1))
                clear hK K hHeld29
                try simp only [Act.put, List.getElem_toArray, List.getElem_cons_zero, List.getElem_cons_succ, List.setIfInBounds_toArray, List.set_cons_zero, List.set_cons_succ]
                refine wpAnyH_take (i := 4) (oi := _) (v := ?v31) rfl (by kernel_rfl) (by kernel_rfl) (by kernel_rfl) (fun _ _ _ h => h) (Or.inl ⟨by rfl, ?hy31⟩) (by assumption) ?rest31
                case hy31 => (intro w hSw; (try dsimp only at hSw); go_simp; all_goals with_reducible rfl)
                try simp only [Act.put, List.getElem_toArray, List.getElem_cons_zero, List.getElem_cons_succ, List.setIfInBounds_toArray, List.set_cons_zero, List.set_cons_succ]
                refine wpAnyH_ready (rs := [5]) (by kernel_rfl) (by simp) ?_
                refine AllReadyH.cons (o := _) rfl (fun K hK => ?_) ?_
                · go_simp
                  try go_wp2_with fail
                  refine hK.out _ _ ?_ (fun hHeld32 => ?_)
                  · (try dsimp only); (first | with_reducible exact HSK12.out _ HB.out.1 | with_reducible exact HSK12.out _ HB.out.2.1 | with_reducible exact HSK12.out _ HB.out.2.2.1 | with_reducible exact HSK12.out _ HB.out.2.2.2.1 | with_reducible exact HSK12.out _ HB.out.2.2.2.2 | with_reducible exact HSK12.out _ H3.out.1 | with_reducible exact HSK12.out _ (H3.out.1.alloc H3.out.1.size _) | with_reducible exact HSK12.out _ H5.out.1 | with_reducible exact HSK12.out _ (H5.out.1.alloc H5.out.1.size _) | with_reducible exact HSK12.out _ (H5.out.1.trans (filled_below _ _ _ H5.out.2.1 _ _ _ _ _ _ _ _ _).1) | with_reducible exact HSK12.out _ ((H5.out.1.alloc H5.out.1.size _).trans (filled_below _ _ _ H5.out.1.size _ _ _ _ _ _ _ _ _).1))
                  clear hK K hHeld30
                  try simp only [Act.put, List.getElem_toArray, List.getElem_cons_zero, List.getElem_cons_succ, List.setIfInBounds_toArray, List.set_cons_zero, List.set_cons_succ]
                  refine wpAnyH_ready (rs := [6]) (by kernel_rfl) (by simp) ?_
                  refine AllReadyH.cons (o := _) rfl (fun K hK => ?_) ?_
                  · go_simp
                    (first | (go_at_call 14; (with_reducible refine (moves1 m V (U.alloc (.cells #[.int .i64 m.k, .int .i64 m.a, .int .i64 m.b] 55)).drew HB.out.2.1 U.heap.size HRD.out.1).mono ?_); rintro e w3 ⟨g, dc, rfl, q0, q1, q2, hV3, hb3⟩; have hw3 := hb3.size; have H3 := Lib.hid (And.intro hV3 (show U.heap.size ≤ w3.heap.size by simp at hw3; omega)); have ha3 : Below w3.heap.size w3 (w3.alloc (.cells zeroS 27)) := (Below.refl _ _).alloc (Nat.le_refl _) _; have qa0 := (ha3.cell (World.block_lt_of_cell? _ _ q0)).trans q0; have qa1 := (ha3.cell (World.block_lt_of_cell? _ _ q1)).trans q1; have qa2 := (ha3.cell (World.block_lt_of_cell? _ _ q2)).trans q2; clear hV3 hb3 hw3 ha3) | (go_at_call 14; (with_reducible refine (moves1 m V ((U.alloc (.cells zeroS 27)).alloc (.cells #[.int .i64 m.k, .int .i64 m.a, .int .i64 m.b] 55)).drew HB.out.2.2.2.2 (U.heap.size + 1) HRD.out.2.1).mono ?_); rintro e w3 ⟨g, dc, rfl, q0, q1, q2, hV3, hb3⟩; have hz3 : w3.heap[U.heap.size]? = some (.cells (cellsS St.zero (.slice none 0 0) (.slice none 0 0)) 27 (0, 0)) := (hb3.block _ (Array.getElem?_eq_some_iff.1 HRD.out.2.2.2.1).1).trans HRD.out.2.2.2.1; have HZB := Lib.hid hz3; clear hz3; have hw3 := hb3.size; have H3 := Lib.hid (And.intro hV3 (show U.heap.size ≤ w3.heap.size by simp at hw3; omega)); have ha3 : Below w3.heap.size w3 (w3.alloc (.cells zeroS 27)) := (Below.refl _ _).alloc (Nat.le_refl _) _; have qa0 := (ha3.cell (World.block_lt_of_cell? _ _ q0)).trans q0; have qa1 := (ha3.cell (World.block_lt_of_cell? _ _ q1)).trans q1; have qa2 := (ha3.cell (World.block_lt_of_cell? _ _ q2)).trans q2; clear hV3 hb3 hw3 ha3) | (go_at_call 14; (with_reducible refine (moves1 m V ((U.alloc (.cells #[.int .i64 m.k, .int .i64 m.a, .int .i64 m.b] 55)).alloc (.cells zeroS 27)).drew HB.out.2.2.1 U.heap.size HRD.out.2.2.1).mono ?_); rintro e w3 ⟨g, dc, rfl, q0, q1, q2, hV3, hb3⟩; have hz3 : w3.heap[(U.heap.size + 1)]? = some (.cells (cellsS St.zero (.slice none 0 0) (.slice none 0 0)) 27 (0, 0)) := (hb3.block _ (Array.getElem?_eq_some_iff.1 HRD.out.2.2.2.2).1).trans HRD.out.2.2.2.2; have HZC := Lib.hid hz3; clear hz3; have hw3 := hb3.size; have H3 := Lib.hid (And.intro hV3 (show U.heap.size ≤ w3.heap.size by simp at hw3; omega)); have ha3 : Below w3.heap.size w3 (w3.alloc (.cells zeroS 27)) := (Below.refl _ _).alloc (Nat.le_refl _) _; have qa0 := (ha3.cell (World.block_lt_of_cell? _ _ q0)).trans q0; have qa1 := (ha3.cell (World.block_lt_of_cell? _ _ q1)).trans q1; have qa2 := (ha3.cell (World.block_lt_of_cell? _ _ q2)).trans q2; clear hV3 hb3 hw3 ha3) | (go_at_call 10; (with_reducible refine (HST.out w3 H3.out.1).mono ?_); rintro e w5 ⟨A3, c3, B3, d3, rfl, hrd5, hb5, hfA, hfB⟩; have hz5 : w5.heap[U.heap.size]? = some (.cells (cellsS St.zero (.slice none 0 0) (.slice none 0 0)) 27 (0, 0)) := (hb5.block _ (Array.getElem?_eq_some_iff.1 HZB.out).1).trans HZB.out; obtain ⟨x0, x1, x2, x3, x4, x5, x6, x7, x8⟩ := nineT hz5; obtain ⟨g0, g1, g2, g3, g4, g5, g6, g7, g8⟩ := nineFT hz5; have HZ5 := Lib.hid hz5; clear hz5; have hq := (Array.getElem?_eq_some_iff.1 HZB.out).1; have hge : V.heap.size ≤ U.heap.size := (by have := HU.out.size; omega); have H5 := Lib.hid (And.intro (H3.out.1.trans (hb5.mono H3.out.1.size)) (And.intro hge (And.intro hrd5 (And.intro (Fresh.of (fun a ha => by have := hfA a ha; omega : ∀ a, A3 = some a → U.heap.size + 1 ≤ a.block)) (Fresh.of (fun a ha => by have := hfB a ha; omega : ∀ a, B3 = some a → U.heap.size + 1 ≤ a.block)))))); clear hrd5 hb5 hfA hfB hq hge) | (go_at_call 10; (with_reducible refine (HST.out w3 H3.out.1).mono ?_); rintro e w5 ⟨A3, c3, B3, d3, rfl, hrd5, hb5, hfA, hfB⟩; have hz5 : w5.heap[(U.heap.size + 1)]? = some (.cells (cellsS St.zero (.slice none 0 0) (.slice none 0 0)) 27 (0, 0)) := (hb5.block _ (Array.getElem?_eq_some_iff.1 HZC.out).1).trans HZC.out; obtain ⟨x0, x1, x2, x3, x4, x5, x6, x7, x8⟩ := nineT hz5; obtain ⟨g0, g1, g2, g3, g4, g5, g6, g7, g8⟩ := nineFT hz5; have HZ5 := Lib.hid hz5; clear hz5; have hq := (Array.getElem?_eq_some_iff.1 HZC.out).1; have hge : V.heap.size ≤ (U.heap.size + 1) := (by have := HU.out.size; omega); have H5 := Lib.hid (And.intro (H3.out.1.trans (hb5.mono H3.out.1.size)) (And.intro hge (And.intro hrd5 (And.intro (Fresh.of (fun a ha => by have := hfA a ha; omega : ∀ a, A3 = some a → (U.heap.size + 1) + 1 ≤ a.block)) (Fresh.of (fun a ha => by have := hfB a ha; omega : ∀ a, B3 = some a → (U.heap.size + 1) + 1 ≤ a.block)))))); clear hrd5 hb5 hfA hfB hq hge) | (go_at_call 10; (with_reducible refine (HST.out w3 H3.out.1).mono ?_); rintro e w5 ⟨A3, c3, B3, d3, rfl, hrd5, hb5, hfA, hfB⟩; have H5 := Lib.hid (And.intro (H3.out.1.trans (hb5.mono H3.out.1.size)) (And.intro (Nat.le_refl V.heap.size) hrd5)); clear hrd5 hb5 hfA hfB) | (go_at_call 10; (with_reducible refine (HST.out (w3.alloc (.cells zeroS 27)) (H3.out.1.alloc H3.out.1.size _)).mono ?_); rintro e w5 ⟨A3, c3, B3, d3, rfl, hrd5, hb5, hfA, hfB⟩; have hz5 : w5.heap[w3.heap.size]? = some (.cells (cellsS St.zero (.slice none 0 0) (.slice none 0 0)) 27 (0, 0)) := (hb5.block _ (by simp)).trans (heap_alloc_new w3 _); obtain ⟨x0, x1, x2, x3, x4, x5, x6, x7, x8⟩ := nineT hz5; obtain ⟨g0, g1, g2, g3, g4, g5, g6, g7, g8⟩ := nineFT hz5; have HZ5 := Lib.hid hz5; clear hz5; have H5 := Lib.hid (And.intro ((H3.out.1.alloc H3.out.1.size _).trans (hb5.mono (H3.out.1.alloc H3.out.1.size _).size)) (And.intro H3.out.1.size (And.intro hrd5 (And.intro (Fresh.of (fun a ha => by have := hfA a ha; simp at this; omega : ∀ a, A3 = some a → w3.heap.size + 1 ≤ a.block)) (Fresh.of (fun a ha => by have := hfB a ha; simp at this; omega : ∀ a, B3 = some a → w3.heap.size + 1 ≤ a.block)))))); clear hrd5 hb5 hfA hfB))
                    try go_wp2_with fail
                    refine hK.out _ _ ?_ (fun hHeld33 => ?_)
                    · (try dsimp only); (first | with_reducible exact HSK12.out _ HB.out.1 | with_reducible exact HSK12.out _ HB.out.2.1 | with_reducible exact HSK12.out _ HB.out.2.2.1 | with_reducible exact HSK12.out _ HB.out.2.2.2.1 | with_reducible exact HSK12.out _ HB.out.2.2.2.2 | with_reducible exact HSK12.out _ H3.out.1 | with_reducible exact HSK12.out _ (H3.out.1.alloc H3.out.1.size _) | with_reducible exact HSK12.out _ H5.out.1 | with_reducible exact HSK12.out _ (H5.out.1.alloc H5.out.1.size _) | with_reducible exact HSK12.out _ (H5.out.1.trans (filled_below _ _ _ H5.out.2.1 _ _ _ _ _ _ _ _ _).1) | with_reducible exact HSK12.out _ ((H5.out.1.alloc H5.out.1.size _).trans (filled_below _ _ _ H5.out.1.size _ _ _ _ _ _ _ _ _).1))
                    clear hK K hHeld32
                    try simp only [Act.put, List.getElem_toArray, List.getElem_cons_zero, List.getElem_cons_succ, List.setIfInBounds_toArray, List.set_cons_zero, List.set_cons_succ]
                    refine wpAnyH_take (i := 7) (oi := _) (v := ?v34) rfl (by kernel_rfl) (by kernel_rfl) (by kernel_rfl) (fun _ _ _ h => h) (Or.inl ⟨by rfl, ?hy34⟩) (by assumption) ?rest34
                    case hy34 => (intro w hSw; (try dsimp only at hSw); go_simp; all_goals with_reducible rfl)
                    try simp only [Act.put, List.getElem_toArray, List.getElem_cons_zero, List.getElem_cons_succ, List.setIfInBounds_toArray, List.set_cons_zero, List.set_cons_succ]
                    refine wpAnyH_take (i := 8) (oi := _) (v := ?v35) rfl (by kernel_rfl) (by kernel_rfl) (by kernel_rfl) (fun _ _ _ h => h) (Or.inl ⟨by rfl, ?hy35⟩) (by assumption) ?rest35
                    case hy35 => (intro w hSw; (try dsimp only at hSw); go_simp; all_goals with_reducible rfl)
                    try simp only [Act.put, List.getElem_toArray, List.getElem_cons_zero, List.getElem_cons_succ, List.setIfInBounds_toArray, List.set_cons_zero, List.set_cons_succ]
                    refine wpAnyH_take (i := 9) (oi := _) (v := ?v36) rfl (by kernel_rfl) (by kernel_rfl) (by kernel_rfl) (fun _ _ _ h => h) (Or.inl ⟨by rfl, ?hy36⟩) (by assumption) ?rest36
                    case hy36 => (intro w hSw; (try dsimp only at hSw); go_simp; all_goals with_reducible rfl)
                    try simp only [Act.put, List.getElem_toArray, List.getElem_cons_zero, List.getElem_cons_succ, List.setIfInBounds_toArray, List.set_cons_zero, List.set_cons_succ]
                    refine wpAnyH_ready (rs := [11]) (by kernel_rfl) (by simp) ?_
                    refine AllReadyH.cons (o := _) rfl (fun K hK => ?_) ?_
                    · go_simp
                      try go_wp2_with fail
                      refine hK.out _ _ ?_ (fun hHeld37 => ?_)
                      · (try dsimp only); (first | with_reducible exact HSK12.out _ HB.out.1 | with_reducible exact HSK12.out _ HB.out.2.1 | with_reducible exact HSK12.out _ HB.out.2.2.1 | with_reducible exact HSK12.out _ HB.out.2.2.2.1 | with_reducible exact HSK12.out _ HB.out.2.2.2.2 | with_reducible exact HSK12.out _ H3.out.1 | with_reducible exact HSK12.out _ (H3.out.1.alloc H3.out.1.size _) | with_reducible exact HSK12.out _ H5.out.1 | with_reducible exact HSK12.out _ (H5.out.1.alloc H5.out.1.size _) | with_reducible exact HSK12.out _ (H5.out.1.trans (filled_below _ _ _ H5.out.2.1 _ _ _ _ _ _ _ _ _).1) | with_reducible exact HSK12.out _ ((H5.out.1.alloc H5.out.1.size _).trans (filled_below _ _ _ H5.out.1.size _ _ _ _ _ _ _ _ _).1))
                      clear hK K hHeld33
                      try simp only [Act.put, List.getElem_toArray, List.getElem_cons_zero, List.getElem_cons_succ, List.setIfInBounds_toArray, List.set_cons_zero, List.set_cons_succ]
                      refine wpAnyH_take (i := 12) (oi := _) (v := ?v38) rfl (by kernel_rfl) (by kernel_rfl) (by kernel_rfl) (fun _ _ _ h => h) (Or.inl ⟨by rfl, ?hy38⟩) (by assumption) ?rest38
                      case hy38 => (intro w hSw; (try dsimp only at hSw); go_simp; all_goals with_reducible rfl)
                      try simp only [Act.put, List.getElem_toArray, List.getElem_cons_zero, List.getElem_cons_succ, List.setIfInBounds_toArray, List.set_cons_zero, List.set_cons_succ]
                      refine wpAnyH_done (by kernel_rfl) ?_ _
                      refine NoPanic.normal ?_
                      go_wp2_with fail
                      go_meet
                      refine ⟨_, rfl, rfl, ?_⟩
                      first
                      | with_reducible exact NB.first H5.out.1 H5.out.2.2
                      | with_reducible exact NB.second H5.out.1 H5.out.2.1 HZ5.out H5.out.2.2.1 H5.out.2.2.2.1 H5.out.2.2.2.2
                      | with_reducible exact NB.third H5.out.1 H5.out.2.2
                    exact AllReadyH.nil
                  exact AllReadyH.nil
                exact AllReadyH.nil
              exact AllReadyH.nil
            exact AllReadyH.nil
          refine AllReadyH.cons (o := _) rfl (fun K hK => ?_) ?_
          · go_simp
            try go_wp2_with fail
            refine hK.out _ _ ?_ (fun hHeld39 => ?_)
            · (try dsimp only); (first | with_reducible exact HSK12.out _ HB.out.1 | with_reducible exact HSK12.out _ HB.out.2.1 | with_reducible exact HSK12.out _ HB.out.2.2.1 | with_reducible exact HSK12.out _ HB.out.2.2.2.1 | with_reducible exact HSK12.out _ HB.out.2.2.2.2 | with_reducible exact HSK12.out _ H3.out.1 | with_reducible exact HSK12.out _ (H3.out.1.alloc H3.out.1.size _) | with_reducible exact HSK12.out _ H5.out.1 | with_reducible exact HSK12.out _ (H5.out.1.alloc H5.out.1.size _) | with_reducible exact HSK12.out _ (H5.out.1.trans (filled_below _ _ _ H5.out.2.1 _ _ _ _ _ _ _ _ _).1) | with_reducible exact HSK12.out _ ((H5.out.1.alloc H5.out.1.size _).trans (filled_below _ _ _ H5.out.1.size _ _ _ _ _ _ _ _ _).1))
            clear hK K hHeld0
            try simp only [Act.put, List.getElem_toArray, List.getElem_cons_zero, List.getElem_cons_succ, List.setIfInBounds_toArray, List.set_cons_zero, List.set_cons_succ]
            refine wpAnyH_ready (rs := [2]) (by kernel_rfl) (by simp) ?_
            refine AllReadyH.cons (o := _) rfl (fun K hK => ?_) ?_
            · go_simp
              try go_wp2_with fail
              refine hK.out _ _ ?_ (fun hHeld40 => ?_)
              · (try dsimp only); (first | with_reducible exact HSK12.out _ HB.out.1 | with_reducible exact HSK12.out _ HB.out.2.1 | with_reducible exact HSK12.out _ HB.out.2.2.1 | with_reducible exact HSK12.out _ HB.out.2.2.2.1 | with_reducible exact HSK12.out _ HB.out.2.2.2.2 | with_reducible exact HSK12.out _ H3.out.1 | with_reducible exact HSK12.out _ (H3.out.1.alloc H3.out.1.size _) | with_reducible exact HSK12.out _ H5.out.1 | with_reducible exact HSK12.out _ (H5.out.1.alloc H5.out.1.size _) | with_reducible exact HSK12.out _ (H5.out.1.trans (filled_below _ _ _ H5.out.2.1 _ _ _ _ _ _ _ _ _).1) | with_reducible exact HSK12.out _ ((H5.out.1.alloc H5.out.1.size _).trans (filled_below _ _ _ H5.out.1.size _ _ _ _ _ _ _ _ _).1))
              clear hK K hHeld39
              try simp only [Act.put, List.getElem_toArray, List.getElem_cons_zero, List.getElem_cons_succ, List.setIfInBounds_toArray, List.set_cons_zero, List.set_cons_succ]
              refine wpAnyH_ready (rs := [3]) (by kernel_rfl) (by simp) ?_
              refine AllReadyH.cons (o := _) rfl (fun K hK => ?_) ?_
              · go_simp
                (first | (go_at_call 14; (with_reducible refine (moves1 m V (U.alloc (.cells #[.int .i64 m.k, .int .i64 m.a, .int .i64 m.b] 55)).drew HB.out.2.1 U.heap.size HRD.out.1).mono ?_); rintro e w3 ⟨g, dc, rfl, q0, q1, q2, hV3, hb3⟩; have hw3 := hb3.size; have H3 := Lib.hid (And.intro hV3 (show U.heap.size ≤ w3.heap.size by simp at hw3; omega)); have ha3 : Below w3.heap.size w3 (w3.alloc (.cells zeroS 27)) := (Below.refl _ _).alloc (Nat.le_refl _) _; have qa0 := (ha3.cell (World.block_lt_of_cell? _ _ q0)).trans q0; have qa1 := (ha3.cell (World.block_lt_of_cell? _ _ q1)).trans q1; have qa2 := (ha3.cell (World.block_lt_of_cell? _ _ q2)).trans q2; clear hV3 hb3 hw3 ha3) | (go_at_call 14; (with_reducible refine (moves1 m V ((U.alloc (.cells zeroS 27)).alloc (.cells #[.int .i64 m.k, .int .i64 m.a, .int .i64 m.b] 55)).drew HB.out.2.2.2.2 (U.heap.size + 1) HRD.out.2.1).mono ?_); rintro e w3 ⟨g, dc, rfl, q0, q1, q2, hV3, hb3⟩; have hz3 : w3.heap[U.heap.size]? = some (.cells (cellsS St.zero (.slice none 0 0) (.slice none 0 0)) 27 (0, 0)) := (hb3.block _ (Array.getElem?_eq_some_iff.1 HRD.out.2.2.2.1).1).trans HRD.out.2.2.2.1; have HZB := Lib.hid hz3; clear hz3; have hw3 := hb3.size; have H3 := Lib.hid (And.intro hV3 (show U.heap.size ≤ w3.heap.size by simp at hw3; omega)); have ha3 : Below w3.heap.size w3 (w3.alloc (.cells zeroS 27)) := (Below.refl _ _).alloc (Nat.le_refl _) _; have qa0 := (ha3.cell (World.block_lt_of_cell? _ _ q0)).trans q0; have qa1 := (ha3.cell (World.block_lt_of_cell? _ _ q1)).trans q1; have qa2 := (ha3.cell (World.block_lt_of_cell? _ _ q2)).trans q2; clear hV3 hb3 hw3 ha3) | (go_at_call 14; (with_reducible refine (moves1 m V ((U.alloc (.cells #[.int .i64 m.k, .int .i64 m.a, .int .i64 m.b] 55)).alloc (.cells zeroS 27)).drew HB.out.2.2.1 U.heap.size HRD.out.2.2.1).mono ?_); rintro e w3 ⟨g, dc, rfl, q0, q1, q2, hV3, hb3⟩; have hz3 : w3.heap[(U.heap.size + 1)]? = some (.cells (cellsS St.zero (.slice none 0 0) (.slice none 0 0)) 27 (0, 0)) := (hb3.block _ (Array.getElem?_eq_some_iff.1 HRD.out.2.2.2.2).1).trans HRD.out.2.2.2.2; have HZC := Lib.hid hz3; clear hz3; have hw3 := hb3.size; have H3 := Lib.hid (And.intro hV3 (show U.heap.size ≤ w3.heap.size by simp at hw3; omega)); have ha3 : Below w3.heap.size w3 (w3.alloc (.cells zeroS 27)) := (Below.refl _ _).alloc (Nat.le_refl _) _; have qa0 := (ha3.cell (World.block_lt_of_cell? _ _ q0)).trans q0; have qa1 := (ha3.cell (World.block_lt_of_cell? _ _ q1)).trans q1; have qa2 := (ha3.cell (World.block_lt_of_cell? _ _ q2)).trans q2; clear hV3 hb3 hw3 ha3) | (go_at_call 10; (with_reducible refine (HST.out w3 H3.out.1).mono ?_); rintro e w5 ⟨A3, c3, B3, d3, rfl, hrd5, hb5, hfA, hfB⟩; have hz5 : w5.heap[U.heap.size]? = some (.cells (cellsS St.zero (.slice none 0 0) (.slice none 0 0)) 27 (0, 0)) := (hb5.block _ (Array.getElem?_eq_some_iff.1 HZB.out).1).trans HZB.out; obtain ⟨x0, x1, x2, x3, x4, x5, x6, x7, x8⟩ := nineT hz5; obtain ⟨g0, g1, g2, g3, g4, g5, g6, g7, g8⟩ := nineFT hz5; have HZ5 := Lib.hid hz5; clear hz5; have hq := (Array.getElem?_eq_some_iff.1 HZB.out).1; have hge : V.heap.size ≤ U.heap.size := (by have := HU.out.size; omega); have H5 := Lib.hid (And.intro (H3.out.1.trans (hb5.mono H3.out.1.size)) (And.intro hge (And.intro hrd5 (And.intro (Fresh.of (fun a ha => by have := hfA a ha; omega : ∀ a, A3 = some a → U.heap.size + 1 ≤ a.block)) (Fresh.of (fun a ha => by have := hfB a ha; omega : ∀ a, B3 = some a → U.heap.size + 1 ≤ a.block)))))); clear hrd5 hb5 hfA hfB hq hge) | (go_at_call 10; (with_reducible refine (HST.out w3 H3.out.1).mono ?_); rintro e w5 ⟨A3, c3, B3, d3, rfl, hrd5, hb5, hfA, hfB⟩; have hz5 : w5.heap[(U.heap.size + 1)]? = some (.cells (cellsS St.zero (.slice none 0 0) (.slice none 0 0)) 27 (0, 0)) := (hb5.block _ (Array.getElem?_eq_some_iff.1 HZC.out).1).trans HZC.out; obtain ⟨x0, x1, x2, x3, x4, x5, x6, x7, x8⟩ := nineT hz5; obtain ⟨g0, g1, g2, g3, g4, g5, g6, g7, g8⟩ := nineFT hz5; have HZ5 := Lib.hid hz5; clear hz5; have hq := (Array.getElem?_eq_some_iff.1 HZC.out).1; have hge : V.heap.size ≤ (U.heap.size + 1) := (by have := HU.out.size; omega); have H5 := Lib.hid (And.intro (H3.out.1.trans (hb5.mono H3.out.1.size)) (And.intro hge (And.intro hrd5 (And.intro (Fresh.of (fun a ha => by have := hfA a ha; omega : ∀ a, A3 = some a → (U.heap.size + 1) + 1 ≤ a.block)) (Fresh.of (fun a ha => by have := hfB a ha; omega : ∀ a, B3 = some a → (U.heap.size + 1) + 1 ≤ a.block)))))); clear hrd5 hb5 hfA hfB hq hge) | (go_at_call 10; (with_reducible refine (HST.out w3 H3.out.1).mono ?_); rintro e w5 ⟨A3, c3, B3, d3, rfl, hrd5, hb5, hfA, hfB⟩; have H5 := Lib.hid (And.intro (H3.out.1.trans (hb5.mono H3.out.1.size)) (And.intro (Nat.le_refl V.heap.size) hrd5)); clear hrd5 hb5 hfA hfB) | (go_at_call 10; (with_reducible refine (HST.out (w3.alloc (.cells zeroS 27)) (H3.out.1.alloc H3.out.1.size _)).mono ?_); rintro e w5 ⟨A3, c3, B3, d3, rfl, hrd5, hb5, hfA, hfB⟩; have hz5 : w5.heap[w3.heap.size]? = some (.cells (cellsS St.zero (.slice none 0 0) (.slice none 0 0)) 27 (0, 0)) := (hb5.block _ (by simp)).trans (heap_alloc_new w3 _); obtain ⟨x0, x1, x2, x3, x4, x5, x6, x7, x8⟩ := nineT hz5; obtain ⟨g0, g1, g2, g3, g4, g5, g6, g7, g8⟩ := nineFT hz5; have HZ5 := Lib.hid hz5; clear hz5; have H5 := Lib.hid (And.intro ((H3.out.1.alloc H3.out.1.size _).trans (hb5.mono (H3.out.1.alloc H3.out.1.size _).size)) (And.intro H3.out.1.size (And.intro hrd5 (And.intro (Fresh.of (fun a ha => by have := hfA a ha; simp at this; omega : ∀ a, A3 = some a → w3.heap.size + 1 ≤ a.block)) (Fresh.of (fun a ha => by have := hfB a ha; simp at this; omega : ∀ a, B3 = some a → w3.heap.size + 1 ≤ a.block)))))); clear hrd5 hb5 hfA hfB))
                try go_wp2_with fail
                refine hK.out _ _ ?_ (fun hHeld41 => ?_)
                · (try dsimp only); (first | with_reducible exact HSK12.out _ HB.out.1 | with_reducible exact HSK12.out _ HB.out.2.1 | with_reducible exact HSK12.out _ HB.out.2.2.1 | with_reducible exact HSK12.out _ HB.out.2.2.2.1 | with_reducible exact HSK12.out _ HB.out.2.2.2.2 | with_reducible exact HSK12.out _ H3.out.1 | with_reducible exact HSK12.out _ (H3.out.1.alloc H3.out.1.size _) | with_reducible exact HSK12.out _ H5.out.1 | with_reducible exact HSK12.out _ (H5.out.1.alloc H5.out.1.size _) | with_reducible exact HSK12.out _ (H5.out.1.trans (filled_below _ _ _ H5.out.2.1 _ _ _ _ _ _ _ _ _).1) | with_reducible exact HSK12.out _ ((H5.out.1.alloc H5.out.1.size _).trans (filled_below _ _ _ H5.out.1.size _ _ _ _ _ _ _ _ _).1))
                clear hK K hHeld40
                try simp only [Act.put, List.getElem_toArray, List.getElem_cons_zero, List.getElem_cons_succ, List.setIfInBounds_toArray, List.set_cons_zero, List.set_cons_succ]
                refine wpAnyH_take (i := 4) (oi := _) (v := ?v42) rfl (by kernel_rfl) (by kernel_rfl) (by kernel_rfl) (fun _ _ _ h => h) (Or.inl ⟨by rfl, ?hy42⟩) (by assumption) ?rest42
                case hy42 => (intro w hSw; (try dsimp only at hSw); go_simp; all_goals with_reducible rfl)
                try simp only [Act.put, List.getElem_toArray, List.getElem_cons_zero, List.getElem_cons_succ, List.setIfInBounds_toArray, List.set_cons_zero, List.set_cons_succ]
                refine wpAnyH_ready (rs := [5]) (by kernel_rfl) (by simp) ?_
                refine AllReadyH.cons (o := _) rfl (fun K hK => ?_) ?_
                · go_simp
                  try go_wp2_with fail
                  refine hK.out _ _ ?_ (fun hHeld43 => ?_)
                  · (try dsimp only); (first | with_reducible exact HSK12.out _ HB.out.1 | with_reducible exact HSK12.out _ HB.out.2.1 | with_reducible exact HSK12.out _ HB.out.2.2.1 | with_reducible exact HSK12.out _ HB.out.2.2.2.1 | with_reducible exact HSK12.out _ HB.out.2.2.2.2 | with_reducible exact HSK12.out _ H3.out.1 | with_reducible exact HSK12.out _ (H3.out.1.alloc H3.out.1.size _) | with_reducible exact HSK12.out _ H5.out.1 | with_reducible exact HSK12.out _ (H5.out.1.alloc H5.out.1.size _) | with_reducible exact HSK12.out _ (H5.out.1.trans (filled_below _ _ _ H5.out.2.1 _ _ _ _ _ _ _ _ _).1) | with_reducible exact HSK12.out _ ((H5.out.1.alloc H5.out.1.size _).trans (filled_below _ _ _ H5.out.1.size _ _ _ _ _ _ _ _ _).1))
                  clear hK K hHeld41
                  try simp only [Act.put, List.getElem_toArray, List.getElem_cons_zero, List.getElem_cons_succ, List.setIfInBounds_toArray, List.set_cons_zero, List.set_cons_succ]
                  refine wpAnyH_ready (rs := [6]) (by kernel_rfl) (by simp) ?_
                  refine AllReadyH.cons (o := _) rfl (fun K hK => ?_) ?_
                  · go_simp
                    (first | (go_at_call 14; (with_reducible refine (moves1 m V (U.alloc (.cells #[.int .i64 m.k, .int .i64 m.a, .int .i64 m.b] 55)).drew HB.out.2.1 U.heap.size HRD.out.1).mono ?_); rintro e w3 ⟨g, dc, rfl, q0, q1, q2, hV3, hb3⟩; have hw3 := hb3.size; have H3 := Lib.hid (And.intro hV3 (show U.heap.size ≤ w3.heap.size by simp at hw3; omega)); have ha3 : Below w3.heap.size w3 (w3.alloc (.cells zeroS 27)) := (Below.refl _ _).alloc (Nat.le_refl _) _; have qa0 := (ha3.cell (World.block_lt_of_cell? _ _ q0)).trans q0; have qa1 := (ha3.cell (World.block_lt_of_cell? _ _ q1)).trans q1; have qa2 := (ha3.cell (World.block_lt_of_cell? _ _ q2)).trans q2; clear hV3 hb3 hw3 ha3) | (go_at_call 14; (with_reducible refine (moves1 m V ((U.alloc (.cells zeroS 27)).alloc (.cells #[.int .i64 m.k, .int .i64 m.a, .int .i64 m.b] 55)).drew HB.out.2.2.2.2 (U.heap.size + 1) HRD.out.2.1).mono ?_); rintro e w3 ⟨g, dc, rfl, q0, q1, q2, hV3, hb3⟩; have hz3 : w3.heap[U.heap.size]? = some (.cells (cellsS St.zero (.slice none 0 0) (.slice none 0 0)) 27 (0, 0)) := (hb3.block _ (Array.getElem?_eq_some_iff.1 HRD.out.2.2.2.1).1).trans HRD.out.2.2.2.1; have HZB := Lib.hid hz3; clear hz3; have hw3 := hb3.size; have H3 := Lib.hid (And.intro hV3 (show U.heap.size ≤ w3.heap.size by simp at hw3; omega)); have ha3 : Below w3.heap.size w3 (w3.alloc (.cells zeroS 27)) := (Below.refl _ _).alloc (Nat.le_refl _) _; have qa0 := (ha3.cell (World.block_lt_of_cell? _ _ q0)).trans q0; have qa1 := (ha3.cell (World.block_lt_of_cell? _ _ q1)).trans q1; have qa2 := (ha3.cell (World.block_lt_of_cell? _ _ q2)).trans q2; clear hV3 hb3 hw3 ha3) | (go_at_call 14; (with_reducible refine (moves1 m V ((U.alloc (.cells #[.int .i64 m.k, .int .i64 m.a, .int .i64 m.b] 55)).alloc (.cells zeroS 27)).drew HB.out.2.2.1 U.heap.size HRD.out.2.2.1).mono ?_); rintro e w3 ⟨g, dc, rfl, q0, q1, q2, hV3, hb3⟩; have hz3 : w3.heap[(U.heap.size + 1)]? = some (.cells (cellsS St.zero (.slice none 0 0) (.slice none 0 0)) 27 (0, 0)) := (hb3.block _ (Array.getElem?_eq_some_iff.1 HRD.out.2.2.2.2).1).trans HRD.out.2.2.2.2; have HZC := Lib.hid hz3; clear hz3; have hw3 := hb3.size; have H3 := Lib.hid (And.intro hV3 (show U.heap.size ≤ w3.heap.size by simp at hw3; omega)); have ha3 : Below w3.heap.size w3 (w3.alloc (.cells zeroS 27)) := (Below.refl _ _).alloc (Nat.le_refl _) _; have qa0 := (ha3.cell (World.block_lt_of_cell? _ _ q0)).trans q0; have qa1 := (ha3.cell (World.block_lt_of_cell? _ _ q1)).trans q1; have qa2 := (ha3.cell (World.block_lt_of_cell? _ _ q2)).trans q2; clear hV3 hb3 hw3 ha3) | (go_at_call 10; (with_reducible refine (HST.out w3 H3.out.1).mono ?_); rintro e w5 ⟨A3, c3, B3, d3, rfl, hrd5, hb5, hfA, hfB⟩; have hz5 : w5.heap[U.heap.size]? = some (.cells (cellsS St.zero (.slice none 0 0) (.slice none 0 0)) 27 (0, 0)) := (hb5.block _ (Array.getElem?_eq_some_iff.1 HZB.out).1).trans HZB.out; obtain ⟨x0, x1, x2, x3, x4, x5, x6, x7, x8⟩ := nineT hz5; obtain ⟨g0, g1, g2, g3, g4, g5, g6, g7, g8⟩ := nineFT hz5; have HZ5 := Lib.hid hz5; clear hz5; have hq := (Array.getElem?_eq_some_iff.1 HZB.out).1; have hge : V.heap.size ≤ U.heap.size := (by have := HU.out.size; omega); have H5 := Lib.hid (And.intro (H3.out.1.trans (hb5.mono H3.out.1.size)) (And.intro hge (And.intro hrd5 (And.intro (Fresh.of (fun a ha => by have := hfA a ha; omega : ∀ a, A3 = some a → U.heap.size + 1 ≤ a.block)) (Fresh.of (fun a ha => by have := hfB a ha; omega : ∀ a, B3 = some a → U.heap.size + 1 ≤ a.block)))))); clear hrd5 hb5 hfA hfB hq hge) | (go_at_call 10; (with_reducible refine (HST.out w3 H3.out.1).mono ?_); rintro e w5 ⟨A3, c3, B3, d3, rfl, hrd5, hb5, hfA, hfB⟩; have hz5 : w5.heap[(U.heap.size + 1)]? = some (.cells (cellsS St.zero (.slice none 0 0) (.slice none 0 0)) 27 (0, 0)) := (hb5.block _ (Array.getElem?_eq_some_iff.1 HZC.out).1).trans HZC.out; obtain ⟨x0, x1, x2, x3, x4, x5, x6, x7, x8⟩ := nineT hz5; obtain ⟨g0, g1, g2, g3, g4, g5, g6, g7, g8⟩ := nineFT hz5; have HZ5 := Lib.hid hz5; clear hz5; have hq := (Array.getElem?_eq_some_iff.1 HZC.out).1; have hge : V.heap.size ≤ (U.heap.size + 1) := (by have := HU.out.size; omega); have H5 := Lib.hid (And.intro (H3.out.1.trans (hb5.mono H3.out.1.size)) (And.intro hge (And.intro hrd5 (And.intro (Fresh.of (fun a ha => by have := hfA a ha; omega : ∀ a, A3 = some a → (U.heap.size + 1) + 1 ≤ a.block)) (Fresh.of (fun a ha => by have := hfB a ha; omega : ∀ a, B3 = some a → (U.heap.size + 1) + 1 ≤ a.block)))))); clear hrd5 hb5 hfA hfB hq hge) | (go_at_call 10; (with_reducible refine (HST.out w3 H3.out.1).mono ?_); rintro e w5 ⟨A3, c3, B3, d3, rfl, hrd5, hb5, hfA, hfB⟩; have H5 := Lib.hid (And.intro (H3.out.1.trans (hb5.mono H3.out.1.size)) (And.intro (Nat.le_refl V.heap.size) hrd5)); clear hrd5 hb5 hfA hfB) | (go_at_call 10; (with_reducible refine (HST.out (w3.alloc (.cells zeroS 27)) (H3.out.1.alloc H3.out.1.size _)).mono ?_); rintro e w5 ⟨A3, c3, B3, d3, rfl, hrd5, hb5, hfA, hfB⟩; have hz5 : w5.heap[w3.heap.size]? = some (.cells (cellsS St.zero (.slice none 0 0) (.slice none 0 0)) 27 (0, 0)) := (hb5.block _ (by simp)).trans (heap_alloc_new w3 _); obtain ⟨x0, x1, x2, x3, x4, x5, x6, x7, x8⟩ := nineT hz5; obtain ⟨g0, g1, g2, g3, g4, g5, g6, g7, g8⟩ := nineFT hz5; have HZ5 := Lib.hid hz5; clear hz5; have H5 := Lib.hid (And.intro ((H3.out.1.alloc H3.out.1.size _).trans (hb5.mono (H3.out.1.alloc H3.out.1.size _).size)) (And.intro H3.out.1.size (And.intro hrd5 (And.intro (Fresh.of (fun a ha => by have := hfA a ha; simp at this; omega : ∀ a, A3 = some a → w3.heap.size + 1 ≤ a.block)) (Fresh.of (fun a ha => by have := hfB a ha; simp at this; omega : ∀ a, B3 = some a → w3.heap.size + 1 ≤ a.block)))))); clear hrd5 hb5 hfA hfB))
                    try go_wp2_with fail
                    refine hK.out _ _ ?_ (fun hHeld44 => ?_)
                    · (try dsimp only); (first | with_reducible exact HSK12.out _ HB.out.1 | with_reducible exact HSK12.out _ HB.out.2.1 | with_reducible exact HSK12.out _ HB.out.2.2.1 | with_reducible exact HSK12.out _ HB.out.2.2.2.1 | with_reducible exact HSK12.out _ HB.out.2.2.2.2 | with_reducible exact HSK12.out _ H3.out.1 | with_reducible exact HSK12.out _ (H3.out.1.alloc H3.out.1.size _) | with_reducible exact HSK12.out _ H5.out.1 | with_reducible exact HSK12.out _ (H5.out.1.alloc H5.out.1.size _) | with_reducible exact HSK12.out _ (H5.out.1.trans (filled_below _ _ _ H5.out.2.1 _ _ _ _ _ _ _ _ _).1) | with_reducible exact HSK12.out _ ((H5.out.1.alloc H5.out.1.size _).trans (filled_below _ _ _ H5.out.1.size _ _ _ _ _ _ _ _ _).1))
                    clear hK K hHeld43
                    try simp only [Act.put, List.getElem_toArray, List.getElem_cons_zero, List.getElem_cons_succ, List.setIfInBounds_toArray, List.set_cons_zero, List.set_cons_succ]
                    refine wpAnyH_take (i := 7) (oi := _) (v := ?v45) rfl (by kernel_rfl) (by kernel_rfl) (by kernel_rfl) (fun _ _ _ h => h) (Or.inl ⟨by rfl, ?hy45⟩) (by assumption) ?rest45
                    case hy45 => (intro w hSw; (try dsimp only at hSw); go_simp; all_goals with_reducible rfl)
                    try simp only [Act.put, List.getElem_toArray, List.getElem_cons_zero, List.getElem_cons_succ, List.setIfInBounds_toArray, List.set_cons_zero, List.set_cons_succ]
                    refine wpAnyH_take (i := 8) (oi := _) (v := ?v46) rfl (by kernel_rfl) (by kernel_rfl) (by kernel_rfl) (fun _ _ _ h => h) (Or.inl ⟨by rfl, ?hy46⟩) (by assumption) ?rest46
                    case hy46 => (intro w hSw; (try dsimp only at hSw); go_simp; all_goals with_reducible rfl)
                    try simp only [Act.put, List.getElem_toArray, List.getElem_cons_zero, List.getElem_cons_succ, List.setIfInBounds_toArray, List.set_cons_zero, List.set_cons_succ]
                    refine wpAnyH_take (i := 9) (oi := _) (v := ?v47) rfl (by kernel_rfl) (by kernel_rfl) (by kernel_rfl) (fun _ _ _ h => h) (Or.inl ⟨by rfl, ?hy47⟩) (by assumption) ?rest47
                    case hy47 => (intro w hSw; (try dsimp only at hSw); go_simp; all_goals with_reducible rfl)
                    try simp only [Act.put, List.getElem_toArray, List.getElem_cons_zero, List.getElem_cons_succ, List.setIfInBounds_toArray, List.set_cons_zero, List.set_cons_succ]
                    refine wpAnyH_ready (rs := [11]) (by kernel_rfl) (by simp) ?_
                    refine AllReadyH.cons (o := _) rfl (fun K hK => ?_) ?_
                    · go_simp
                      try go_wp2_with fail
                      refine hK.out _ _ ?_ (fun hHeld48 => ?_)
                      · (try dsimp only); (first | with_reducible exact HSK12.out _ HB.out.1 | with_reducible exact HSK12.out _ HB.out.2.1 | with_reducible exact HSK12.out _ HB.out.2.2.1 | with_reducible exact HSK12.out _ HB.out.2.2.2.1 | with_reducible exact HSK12.out _ HB.out.2.2.2.2 | with_reducible exact HSK12.out _ H3.out.1 | with_reducible exact HSK12.out _ (H3.out.1.alloc H3.out.1.size _) | with_reducible exact HSK12.out _ H5.out.1 | with_reducible exact HSK12.out _ (H5.out.1.alloc H5.out.1.size _) | with_reducible exact HSK12.out _ (H5.out.1.trans (filled_below _ _ _ H5.out.2.1 _ _ _ _ _ _ _ _ _).1) | with_reducible exact HSK12.out _ ((H5.out.1.alloc H5.out.1.size _).trans (filled_below _ _ _ H5.out.1.size _ _ _ _ _ _ _ _ _).1))
                      clear hK K hHeld44
                      try simp only [Act.put, List.getElem_toArray, List.getElem_cons_zero, List.getElem_cons_succ, List.setIfInBounds_toArray, List.set_cons_zero, List.set_cons_succ]
                      refine wpAnyH_take (i := 12) (oi := _) (v := ?v49) rfl (by kernel_rfl) (by kernel_rfl) (by kernel_rfl) (fun _ _ _ h => h) (Or.inl ⟨by rfl, ?hy49⟩) (by assumption) ?rest49
                      case hy49 => (intro w hSw; (try dsimp only at hSw); go_simp; all_goals with_reducible rfl)
                      try simp only [Act.put, List.getElem_toArray, List.getElem_cons_zero, List.getElem_cons_succ, List.setIfInBounds_toArray, List.set_cons_zero, List.set_cons_succ]
                      refine wpAnyH_done (by kernel_rfl) ?_ _
                      refine NoPanic.normal ?_
                      go_wp2_with fail
                      go_meet
                      refine ⟨_, rfl, rfl, ?_⟩
                      first
                      | with_reducible exact NB.first H5.out.1 H5.out.2.2
                      | with_reducible exact NB.second H5.out.1 H5.out.2.1 HZ5.out H5.out.2.2.1 H5.out.2.2.2.1 H5.out.2.2.2.2
                      | with_reducible exact NB.third H5.out.1 H5.out.2.2
                    exact AllReadyH.nil
                  exact AllReadyH.nil
                exact AllReadyH.nil
              exact AllReadyH.nil
            exact AllReadyH.nil
          exact AllReadyH.nil
        case rest =>
          obtain ⟨b, rfl, rfl, hnb⟩ := hcut
          have hs := hnb.lo
          clear z0 z1 z2 z3 z4 z5 z6 z7 z8 y0 y1 y2 y3 y4 y5 y6 y7 y8 u0 u1 u2
          obtain ⟨_, _, _, _, _, _, _, _, _, y0, y1, y2, y3, y4, y5, y6, y7, y8, u0, u1, u2⟩ := HSK.out wc hs
          have HS := Lib.hid hs
          have HNB := Lib.hid hnb
          clear hs hnb
          go_upto_region 13 with fail
          go_wp2_with fail
          (with_reducible refine (HRS.out wc HS.out).mono ?_); rintro e w6 ⟨A5, c5, B5, d5, rfl, hrd6, hb6, hf1, hf2⟩
          obtain ⟨V6, hV6⟩ : ∃ V6, w6.alloc (.cells (cellsS s2 (.slice A5 s2.ms.length c5) (.slice B5 s2.fl.length d5)) 44) = V6 := ⟨_, rfl⟩
          have hB66 : Below w6.heap.size w6 V6 := by rw [← hV6]; exact (Below.refl _ _).alloc (Nat.le_refl _) _
          have hB6 : Below wc.heap.size wc V6 := hb6.trans (hB66.mono hb6.size)
          have hr11 : V6.heap[w6.heap.size]? = some (.cells (cellsS s2 (.slice A5 s2.ms.length c5) (.slice B5 s2.fl.length d5)) 44 (0, 0)) := by rw [← hV6]; exact heap_alloc_new w6 _
          have h11 : RowB 44 w6.heap.size s2 V6 wc.heap.size := ⟨A5, c5, B5, d5, hr11, hrd6.below hB66, hf1, hf2⟩
          have h8 := HNB.out.below hB6
          have hszb : V.heap.size ≤ b ∧ b < wc.heap.size ∧ wc.heap.size ≤ w6.heap.size ∧ w6.heap.size < V6.heap.size := by
            have h := HNB.out
            obtain ⟨_, hge, _, _, _, _, hrow, _⟩ := h
            have := (Array.getElem?_eq_some_iff.1 hrow).1
            have := hb6.size
            have := (Array.getElem?_eq_some_iff.1 hr11).1
            omega
          have H6 := Lib.hid (And.intro hV6 (And.intro h11 (And.intro h8 hszb)))
          obtain ⟨_, _, A8, c8, B8, d8, hrow8, hrd8⟩ := h8
          have hsm := same_calls s2 A8 c8 B8 d8 A5 c5 B5 d5 V6 hrd8 (hrd6.below hB66)
          have HSM := Lib.hid hsm
          clear y0 y1 y2 y3 y4 y5 y6 y7 y8 u0 u1 u2
          obtain ⟨z0, z1, z2, z3, z4, z5, z6, z7, z8⟩ := nineT hrow8
          obtain ⟨y0, y1, y2, y3, y4, y5, y6, y7, y8⟩ := nineT hr11
          clear hV6 hB66 hB6 hr11 h11 hszb hrow8 hrd8 hsm hrd6 hb6 hf1 hf2
          go_upto_region 14 with fail
          rw [H6.out.1]
          go_wp2_with fail
          (with_reducible refine (HSM.out).mono ?_); rintro e w7 ⟨rfl, hb7⟩
          clear z0 z1 z2 z3 z4 z5 z6 z7 z8 y0 y1 y2 y3 y4 y5 y6 y7 y8
          have h8 := H6.out.2.2.1.below hb7
          have h11 := H6.out.2.1.below hb7
          have hnw := new_calls members w7
          have hs7 := hb7.size
          obtain ⟨⟨s3, k3⟩, hr3⟩ : ∃ r, newF members = r := ⟨_, rfl⟩
          rw [hr3] at hnw
          have HNW := Lib.hid hnw
          have H7 := Lib.hid (And.intro h8 (And.intro h11 (And.intro hs7 hr3)))
          clear hb7 h8 h11 hnw hs7 hr3
          go_upto_region 16 with fail
          go_wp2_with fail
          (with_reducible refine (HNW.out).mono ?_); rintro e w8 ⟨A7, c7, B7, d7, rfl, hrd8, hb8, hf1, hf2⟩
          have hszb := H6.out.2.2.2
          have hs7 := H7.out.2.2.1
          have h8 := H7.out.1.below hb8
          have h11 := H7.out.2.1.below hb8
          have h8f := h8.rowB.filled c7 d7 hrd8 hf1 hf2 (by omega)
          have h11f := h11.aside c7 d7 (A := A7) (B := B7) (s2 := s3) (bo := b) (by omega) (by omega)
          have hlo := h8.lo.trans (fill9_below b hszb.1 w8 s3 A7 c7 B7 d7)
          have hsz8 : (fill9 w8 b s3 A7 c7 B7 d7).heap.size = w8.heap.size := (filled_below b w8 b (Nat.le_refl _) _ _ _ _ _ _ _ _ _).2
          have hs8 := hb8.size
          obtain ⟨_, _, _, _, _, _, hrow8, _⟩ := h8
          obtain ⟨V8, hV8⟩ : ∃ V8, fill9 w8 b s3 A7 c7 B7 d7 = V8 := ⟨_, rfl⟩
          rw [hV8] at h8f h11f hlo hsz8
          have hs88 : w7.heap.size ≤ V8.heap.size := by omega
          unfold fill9 at hV8
          have hnw := rnew_calls members V8
          rw [H7.out.2.2.2] at hnw
          have HNW2 := Lib.hid hnw
          have H8b := Lib.hid (And.intro hV8 (And.intro h8f (And.intro h11f (And.intro hlo hs88))))
          obtain ⟨y0, y1, y2, y3, y4, y5, y6, y7, y8⟩ := nineT hrow8
          obtain ⟨f0, f1, f2, f3, f4, f5, f6, f7, f8⟩ := nineFT hrow8
          clear hrd8 hb8 hf1 hf2 hszb hs7 h11 h8f h11f hlo hsz8 hs8 hV8 hs88 hnw hrow8
          go_upto_region 17 with fail
          rw [H8b.out.1]
          clear y0 y1 y2 y3 y4 y5 y6 y7 y8 f0 f1 f2 f3 f4 f5 f6 f7 f8
          go_wp2_with fail
          (with_reducible refine (HNW2.out).mono ?_); rintro e w9 ⟨A9, c9, B9, d9, rfl, hrd9, hb9, hf1, hf2⟩
          have hszb := H6.out.2.2.2
          have hs7 := H7.out.2.2.1
          have h8 := H8b.out.2.1.below hb9
          have h11 := H8b.out.2.2.1.below hb9
          have hs8 := H8b.out.2.2.2.2
          have h11f := h11.filled c9 d9 hrd9 hf1 hf2 (by omega)
          have h8f := h8.aside c9 d9 (A := A9) (B := B9) (s2 := s3) (bo := w6.heap.size) (by omega) (by omega)
          have hlo := (H8b.out.2.2.2.1.trans (hb9.mono H8b.out.2.2.2.1.size)).trans (fill9_below w6.heap.size (by omega) w9 s3 A9 c9 B9 d9)
          obtain ⟨_, _, _, _, hrow11, _⟩ := h11
          obtain ⟨V9, hV9⟩ : ∃ V9, fill9 w9 w6.heap.size s3 A9 c9 B9 d9 = V9 := ⟨_, rfl⟩
          rw [hV9] at h8f h11f hlo
          unfold fill9 at hV9
          obtain ⟨P8, p8, Q8, q8, hr8, hrd8, _, _⟩ := h8f
          obtain ⟨P9, p9, Q9, q9, hr9, hrd9', _, _⟩ := h11f
          have hsm := same_calls s3 P8 p8 Q8 q8 P9 p9 Q9 q9 V9 hrd8 hrd9'
          have HSM2 := Lib.hid hsm
          have H9 := Lib.hid (And.intro hV9 (And.intro hr8 (And.intro hr9 hlo)))
          obtain ⟨y0, y1, y2, y3, y4, y5, y6, y7, y8⟩ := nineT hrow11
          obtain ⟨f0, f1, f2, f3, f4, f5, f6, f7, f8⟩ := nineFT hrow11
          clear hrd9 hb9 hf1 hf2 hszb hs7 h8 hs8 hlo hrow11 hV9 hr8 hr9 hrd8 hrd9' hsm
          go_upto_region 18 with fail
          rw [H9.out.1]
          clear y0 y1 y2 y3 y4 y5 y6 y7 y8 f0 f1 f2 f3 f4 f5 f6 f7 f8
          obtain ⟨z0, z1, z2, z3, z4, z5, z6, z7, z8⟩ := nineT H9.out.2.1
          obtain ⟨y0, y1, y2, y3, y4, y5, y6, y7, y8⟩ := nineT H9.out.2.2.1
          go_wp2_with fail
          (with_reducible refine (HSM2.out).mono ?_); rintro e w10 ⟨rfl, hb10⟩
          have HB10 := Lib.hid hb10
          clear hb10 z0 z1 z2 z3 z4 z5 z6 z7 z8 y0 y1 y2 y3 y4 y5 y6 y7 y8
          go_wp2_with fail
          refine (HAE.out _).mono ?_
          rintro e w11 ⟨rfl, hb11⟩
          have HB11 := Lib.hid hb11
          clear hb11
          go_wp2_with fail
          go_ret
          have hlo := H9.out.2.2.2
          have hlo2 := hlo.trans (HB10.out.mono hlo.size)
          have hlo3 := hlo2.trans (HB11.out.mono hlo2.size)
          exact ⟨rfl, HV.out.2.trans (hlo3.mono HV.out.2.size)⟩
end Go.Proofs.Ythpcipfloofbcaa

