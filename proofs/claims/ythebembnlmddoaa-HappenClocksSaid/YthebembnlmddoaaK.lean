import Derived.Test.YthebembnlmddoaaJ
import Derived.Outline
namespace Go.Proofs.Ythebembnlmddoaa
open Go.RowKit
set_option maxHeartbeats 8000000
set_option maxRecDepth 100000
set_option linter.unusedSimpArgs false
set_option linter.unusedVariables false

/-- the clocks of a trace, behind a pointer -/
def Ck (w : World) (base : Nat) (A : Option Addr) (c : Nat) (l : List Ev) (cb : Nat) : Prop :=
  ∃ mi AA, w.heap[cb]? = some (.cells #[.slice A l.length c, .map (some mi), AA] 95 (0, 0)) ∧ IxM w mi l.length (tkF l) ∧ AllV w base (tkF l).length AA (clkF l)
def CkPost (A : Option Addr) (c : Nat) (l : List Ev) (w : World) (e : Ending) (w' : World) : Prop := ∃ cb, e = .returned (.pointer (some ⟨cb, 0, none⟩)) ∧ Ck w' w.heap.size A c l cb ∧ Below w.heap.size w w'
theorem newClocks_calls (l : List Ev) (hok : ∀ e ∈ l, e.ok) (hfm : ∀ e ∈ l, fmB e = true) (hl : l.length ≤ 2000) (A : Option Addr) (c : Nat) (w : World) (hA : Rd encE 11 w A l) :
    Calls Try.prog 40 #[.slice A l.length c] w (CkPost A c l w) := by
  have hsm := hA.small
  have HI := Lib.hid (And.intro hA hok)
  have HFM := Lib.hid hfm
  clear hfm
  have hmm := @run_makeMap Try.prog
  clear hA hok
  go_enter Try.func40, Try.ntmps40
  go_upto_region 3 with fail
  have hix0 : IxM ((w.alloc (.map #[] 0)).alloc (.cells #[.slice A l.length c, .map (some w.heap.size), .slice none 0 0] 95)) w.heap.size 0 [] := (IxM.made w).rest ((Below.refl _ _).alloc (Nat.le_refl _) _)
  have hb0 : Below w.heap.size w ((w.alloc (.map #[] 0)).alloc (.cells #[.slice A l.length c, .map (some w.heap.size), .slice none 0 0] 95)) := ((Below.refl _ _).alloc (Nat.le_refl _) _).alloc (by simp) _
  have hcc0 : ((w.alloc (.map #[] 0)).alloc (.cells #[.slice A l.length c, .map (some w.heap.size), .slice none 0 0] 95)).heap[w.heap.size + 1]? = some (.cells #[.slice A l.length c, .map (some w.heap.size), .slice none 0 0] 95 (0, 0)) := by
    have := Go.heap_alloc_new (w.alloc (.map #[] 0)) (.cells #[.slice A l.length c, .map (some w.heap.size), .slice none 0 0] 95)
    rw [show (w.alloc (.map #[] 0)).heap.size = w.heap.size + 1 by simp] at this
    exact this
  have H0 := Lib.hid (And.intro hix0 (And.intro hb0 hcc0))
  clear hix0 hb0 hcc0 hmm
  go_loopg [5, 6, 7, 20, 21, 22, 23, 24, 25, 26, 27, 28, 29, 30, 31, 32, 33, 34, 35, 36, 37, 38, 39, 40, 41, 42, 43, 44, 45, 46, 47, 48, 49] l.length (fun gk v5 v6 v7 v20 v21 v22 v23 v24 v25 v26 v27 v28 v29 v30 v31 v32 v33 v34 v35 v36 v37 v38 v39 v40 v41 v42 v43 v44 v45 v46 v47 v48 v49 wr => ∃ i : Nat, i + gk = l.length ∧ v20 = .int .i64 (i : Int) ∧ IxM wr w.heap.size i (tkF (l.take i)) ∧ Below w.heap.size w wr ∧ wr.heap[w.heap.size + 1]? = some (.cells #[.slice A l.length c, .map (some w.heap.size), .slice none 0 0] 95 (0, 0)))
  case atStart => exact ⟨0, by omega, rfl, H0.out⟩
  case round =>
    obtain ⟨i, hi, rfl, hix, hbl, hcc⟩ := hrel
    clear H0
    by_cases hil : i < l.length
    · have hd : decide (i < l.length) = true := decide_eq_true hil
      cases A with
      | none =>
        exfalso
        obtain ⟨a, ha, _⟩ := HI.out.1.cell i hil
        cases ha
      | some a =>
      have hcs := ev_cells (HI.out.1.below hbl) i hil
      have hoke := HI.out.2 _ (List.getElem_mem hil)
      have hsn := take_snoc l i hil
      have hto := hoke.t
      generalize l[i] = e at *
      obtain ⟨W5, hW5⟩ : ∃ W5, wr.alloc (.cells e.cells 42) = W5 := ⟨_, rfl⟩
      have hb5 : Below wr.heap.size wr W5 := by rw [← hW5]; exact (Below.refl _ _).alloc (Nat.le_refl _) _
      have hbox : W5.heap[wr.heap.size]? = some (.cells e.cells 42 (0, 0)) := by rw [← hW5]; exact Go.heap_alloc_new wr _
      have hcl : w.heap.size + 1 < wr.heap.size := (Array.getElem?_eq_some_iff.1 hcc).1
      have hcc5 := (hb5.block _ hcl).trans hcc
      have y1 : W5.cell? ⟨wr.heap.size, 1, none⟩ = some (.int .i64 e.t) := by rw [cell_of_row _ _ _ _ _ _ hbox]; rfl
      have yc : W5.cell? ⟨w.heap.size + 1, 1, none⟩ = some (.map (some w.heap.size)) := by rw [cell_of_row _ _ _ _ _ _ hcc5]; rfl
      have hix5 := hix.rest hb5
      obtain ⟨fv, hlk⟩ := hix5.lookOkN e.t hto
      have HX := Lib.hid (And.intro hcs (And.intro hsn (And.intro hix5 (And.intro (hbl.trans (hb5.mono hbl.size)) (And.intro hcc5 hcl)))))
      obtain ⟨ts, hts⟩ : ∃ ts, tkF (l.take i) = ts := ⟨_, rfl⟩
      rw [hts] at HX hlk
      have HTS := Lib.hid hts
      clear hcs hoke hsn hix hbl hcc hb5 hbox hcl hcc5 hix5 hts
      cases hmem : decide (e.t ∈ ts) with
      | true =>
        rw [hmem] at hlk
        have HM := Lib.hid (of_decide_eq_true hmem)
        clear hmem
        go_upto_region 5 with (refine wpList_load_ev rfl _ 42 (Or.inl rfl) rfl (a.add (i * 11)) e rfl HX.out.1 ?_)
        try rw [hW5]
        clear hW5
        go_quiet (fail)
        go_wp2_with fail
        go_roundg (gk - 1)
        case measure => omega
        case rel => exact ⟨i + 1, by omega, by go_num, by
          rw [HX.out.2.1, tkF_snoc, HTS.out]
          unfold tkS
          rw [if_pos HM.out]
          exact (HX.out.2.2.1.rest (drewN_below (Below.refl _ _) nq)).mono (by omega), drewN_below HX.out.2.2.2.1 nq, HX.out.2.2.2.2.1⟩
      | false =>
        rw [hmem] at hlk
        have HM := Lib.hid (of_decide_eq_false hmem)
        clear hmem
        go_upto_region 5 with (refine wpList_load_ev rfl _ 42 (Or.inl rfl) rfl (a.add (i * 11)) e rfl HX.out.1 ?_)
        try rw [hW5]
        clear hW5
        go_quiet (fail)
        clear hlk
        obtain ⟨W6, hW6⟩ : ∃ W6, W5.drewN nq = W6 := ⟨_, rfl⟩
        have hb6 : Below W5.heap.size W5 W6 := by rw [← hW6]; exact drewN_below (Below.refl _ _) nq
        have z1 := (hb6.cell (World.block_lt_of_cell? _ _ y1)).trans y1
        have zc := (hb6.cell (World.block_lt_of_cell? _ _ yc)).trans yc
        have hix6 := (HX.out.2.2.1.rest hb6).rest (w' := W6.drew) (Below.refl _ _).drew
        have hln := hix6.len 3
        obtain ⟨w7, hup, hix7, hg7⟩ := hix6.put (by omega) e.t hto HM.out
        have hlow6 := HX.out.2.2.2.1.trans (hb6.mono HX.out.2.2.2.1.size)
        have hlow7 := hlow6.drew.grown hg7 hlow6.size (fun k hk => by cases hk; exact Nat.le_refl _)
        have hsz6 := hb6.size
        have hcc6 : W6.heap[w.heap.size + 1]? = some (.cells #[.slice (some a) l.length c, .map (some w.heap.size), .slice none 0 0] 95 (0, 0)) := (hb6.block _ (by exact (Array.getElem?_eq_some_iff.1 HX.out.2.2.2.2.1).1)).trans HX.out.2.2.2.2.1
        have hcc7 := (hg7.block (w.heap.size + 1) (Array.getElem?_eq_some_iff.1 hcc6).1 (by simp)).trans hcc6
        have HE := Lib.hid (And.intro hix7 (And.intro hlow7 hcc7))
        rw [hW6]
        clear hW6 hb6 hix6 hix7 hg7 hlow6 hlow7 hcc6 hcc7 y1 yc hsz6
        go_upto_region 7 with fail
        go_region
        all_goals
          go_wp2_with fail
          go_roundg (gk - 1)
          case measure => omega
          case rel => exact ⟨i + 1, by omega, by go_num, by
            rw [HX.out.2.1, tkF_snoc, HTS.out]
            unfold tkS
            rw [if_neg HM.out]
            exact HE.out⟩
    · have hd : decide (i < l.length) = false := decide_eq_false hil
      have hil2 : i = l.length := by omega
      rw [hil2, List.take_length] at hix
      obtain ⟨W1, hW1⟩ : ∃ W1, (wr.alloc (.map #[] 0)).alloc (.map #[] 0) = W1 := ⟨_, rfl⟩
      have hb1 : Below wr.heap.size wr W1 := by rw [← hW1]; exact ((Below.refl _ _).alloc (Nat.le_refl _) _).alloc (by simp) _
      have hsz := hbl.size
      have hcl := (Array.getElem?_eq_some_iff.1 hcc).1
      have hT0 : Tb w A c l w.heap.size (w.heap.size + 1) wr.heap.size (wr.heap.size + 1) (tkF l).length csI.T csI.P csI.As 0 0 0 W1 := by
        have hb2 : Below (wr.alloc (.map #[] 0)).heap.size (wr.alloc (.map #[] 0)) W1 := by rw [← hW1]; exact (Below.refl _ _).alloc (Nat.le_refl _) _
        refine ⟨hbl.trans (hb1.mono hsz), hix.rest hb1, (TabM.made 3 kI okI wr _ _).rest hb2, ?_, ⟨none, 0, (hb1.block _ hcl).trans hcc, ⟨[], World.ownsRow_nil _ _ _ _, rfl, fun i h => by simp at h⟩⟩, by omega, by omega, by omega, Nat.le_refl _, hsz, by omega, by omega⟩
        have := TabM.made 37 kP okP (wr.alloc (.map #[] 0)) w.heap.size (tkF l).length
        rw [show (wr.alloc (.map #[] 0)).heap.size = wr.heap.size + 1 by simp, hW1] at this
        exact this
      have HT0 := Lib.hid hT0
      have hmm := @run_makeMap Try.prog
      clear hix hbl hcc hT0 hb1 hil2 hcl
      go_upto_region 12 with fail
      try rw [hW1]
      clear hW1 hmm
      obtain ⟨mt, hmt⟩ : ∃ mt, wr.heap.size = mt := ⟨_, rfl⟩
      rw [hmt] at HT0 ⊢
      clear hmt hsz hil
      obtain ⟨ts, hts⟩ : ∃ ts, tkF l = ts := ⟨_, rfl⟩
      have hKl := tkF_len l
      rw [hts] at HT0 hKl
      obtain ⟨K, hK⟩ : ∃ K, ts.length = K := ⟨_, rfl⟩
      rw [hK] at HT0 hKl
      have HTS := Lib.hid (And.intro hts hK)
      have HK := Lib.hid (show K ≤ 1000000 by omega)
      have hK9 : K ≤ 2000 := by omega
      clear hts hK hKl hi hd
      go_loopg [11, 12, 13, 54, 55, 56, 57, 58, 59, 60, 61, 62, 63, 64, 65, 66, 67, 68, 69, 70, 71, 72, 73, 74, 75, 76, 77, 78, 79, 80, 81, 82, 83, 84, 85, 86, 87, 88, 89, 90, 91, 92, 93, 94, 95, 96, 97, 98, 99, 100, 101, 102, 103, 104, 105, 106, 107, 108, 109, 110, 111, 112, 113, 114, 115, 116, 117, 118, 119, 120, 121, 122, 123, 124, 125, 126, 127, 128, 129, 130, 131, 132, 133, 134, 135, 136, 137, 138] l.length (fun gk v11 v12 v13 v54 v55 v56 v57 v58 v59 v60 v61 v62 v63 v64 v65 v66 v67 v68 v69 v70 v71 v72 v73 v74 v75 v76 v77 v78 v79 v80 v81 v82 v83 v84 v85 v86 v87 v88 v89 v90 v91 v92 v93 v94 v95 v96 v97 v98 v99 v100 v101 v102 v103 v104 v105 v106 v107 v108 v109 v110 v111 v112 v113 v114 v115 v116 v117 v118 v119 v120 v121 v122 v123 v124 v125 v126 v127 v128 v129 v130 v131 v132 v133 v134 v135 v136 v137 v138 wr => ∃ j : Nat, j + gk = l.length ∧ v54 = .int .i64 (j : Int) ∧ Tb w A c l w.heap.size (w.heap.size + 1) mt (mt + 1) K (csF ts (l.take j)).T (csF ts (l.take j)).P (csF ts (l.take j)).As (2 * j) j j wr)
      case atStart => exact ⟨0, by omega, rfl, HT0.out⟩
      case round =>
        obtain ⟨j, hj, rfl, htb⟩ := hrel
        clear HT0
        by_cases hjl : j < l.length
        · have hd : decide (j < l.length) = true := decide_eq_true hjl
          cases A with
          | none =>
            exfalso
            obtain ⟨a, ha, _⟩ := HI.out.1.cell j hjl
            cases ha
          | some a =>
          have hcs := ev_cells (HI.out.1.below htb.low) j hjl
          have hoke := HI.out.2 _ (List.getElem_mem hjl)
          have hsn := take_snoc l j hjl
          have hmem : (l[j]).t ∈ ts := by rw [← HTS.out.1, tkF_mem]; exact ⟨_, List.getElem_mem hjl, rfl⟩
          have hkd := HFM.out _ (List.getElem_mem hjl)
          have hbnd : (csF ts (l.take j)).bnd K j := by
            have := csF_bnd ts (l.take j) (fun e he => by rw [← HTS.out.1, tkF_mem]; exact ⟨e, List.mem_of_mem_take he, rfl⟩)
            rw [HTS.out.2, List.length_take, Nat.min_eq_left (by omega)] at this
            exact this
          have hasl : (csF ts (l.take j)).As.length = j := by rw [csF_As_len, List.length_take]; omega
          generalize l[j] = e at *
          have hss : csF ts (l.take (j + 1)) = csS ts (csF ts (l.take j)) e := by rw [hsn, csF_snoc]
          generalize csF ts (l.take j) = s at *
          have htk := hoke.t
          have hoko := hoke.o
          have hokp : okP (e.p, e.q, e.r) := ⟨hoke.p, hoke.q, hoke.r⟩
          have hkind := fmB_kind e hkd
          obtain ⟨W5, hW5⟩ : ∃ W5, wr.alloc (.cells e.cells 42) = W5 := ⟨_, rfl⟩
          have hb5 : Below wr.heap.size wr W5 := by rw [← hW5]; exact (Below.refl _ _).alloc (Nat.le_refl _) _
          have hbox : W5.heap[wr.heap.size]? = some (.cells e.cells 42 (0, 0)) := by rw [← hW5]; exact Go.heap_alloc_new wr _
          have hbl5 : wr.heap.size < W5.heap.size := (Array.getElem?_eq_some_iff.1 hbox).1
          have hbne : some wr.heap.size ≠ some mt := fun h => by have := Option.some.inj h; have := htb.tm.lt; omega
          have hbnp : some wr.heap.size ≠ some (mt + 1) := fun h => by have := Option.some.inj h; have := htb.pm.lt; omega
          have htb5 := htb.rest hb5
          have hln := htb5.ix.len 3
          rw [HTS.out.1, HTS.out.2] at hln
          obtain ⟨S0, cp0, x0, x1, x2, x3, x4⟩ := htb5.cells
          obtain ⟨i1, hi1, hz1, hs1, hbb1⟩ := info_parts info3
          have hsz5 := htb5.low.size
          obtain ⟨W6, hmk, hown6, hg6⟩ := run_makeSlice_full (P := Try.prog) (w := W5) w.heap.size 33 3 i1 _ 1 Try.underlying33 hi1 hz1 hs1 .i64 .i64 K (by omega) (by rw [hbb1]; omega) (by simp [maxLen]; omega) hsz5
          rw [made_int] at hown6
          have ho6 : Own encI 1 3 W6 w.heap.size (.slice (some ⟨W5.heap.size, 0, none⟩) K K) (List.replicate K 0) := by unfold Own; rw [List.length_replicate]; exact hown6
          have b56 : Below W5.heap.size W5 W6 := (Below.refl _ _).grown hg6 (Nat.le_refl _) (fun b hb => by cases hb)
          obtain ⟨M1, c1, hlk1, hr1, hle1, hlt1⟩ := htb5.tm.lookAt b56 keyedI Try.underlying108 e.t htk (keyI e.t htk)
          have yc : ∀ (i : Nat) (v : Value), e.cells[i]? = some v → ∀ w', Below W5.heap.size W5 w' → w'.cell? ⟨wr.heap.size, i, none⟩ = some v := fun i v hv w' hb => by
            have h0 : W5.cell? ⟨wr.heap.size, i, none⟩ = some v := by rw [cell_of_row _ _ _ _ _ _ hbox]; exact hv
            exact (hb.cell (p := ⟨wr.heap.size, i, none⟩) hbl5).trans h0
          have HY := Lib.hid (And.intro (yc 0 _ rfl) (And.intro (yc 1 _ rfl) (And.intro (yc 5 _ rfl) (And.intro (yc 8 _ rfl) (And.intro (yc 2 _ rfl) (And.intro (yc 3 _ rfl) (yc 4 _ rfl)))))))
          have y1 := yc 1 _ rfl W6 b56
          have hix : ts.idxOf e.t < K := by rw [← HTS.out.2]; exact List.idxOf_lt_length_of_mem hmem
          have HIX := Lib.hid (And.intro hix (And.intro hbnd (And.intro HTS.out.2 (show e.t ∈ tkF l by rw [HTS.out.1]; exact hmem))))
          have HIX2 := Lib.hid hasl
          obtain ⟨g, hgW'⟩ : ∃ g, W5.heap.size = g := ⟨_, rfl⟩
          have hgW : W5.heap.size ≤ g := by omega
          have hne1 : ∀ a, M1 = some a → a.block ≠ g := fun a ha => by have := hlt1 a ha; omega
          rw [hgW'] at hmk ho6
          have HO6 := Lib.hid (And.intro ho6 b56)
          have HT5 := Lib.hid htb5
          have HX := Lib.hid (And.intro hcs hss)
          clear hcs hsn hkd hbnd hasl hss hoke hb5 hbox hbl5 htb htb5 hown6 hg6 ho6 b56 hlt1 yc hix hmem x0 x2 x3 x4 hi1 hz1 hs1 hbb1 hsz5
          rcases hkind with hk | hk | hk
          · by_cases hm : 3 ≤ e.m
            · have k1 : (e.k == 1) = true := by rw [hk]; rfl
              have k2 : (e.k == 2) = false := by rw [hk]; rfl
              have k3 : (e.k == 3) = false := by rw [hk]; rfl
              have HOD := Lib.hid (show ordB e = true by simp [ordB, hk, hm])
              have HKD := Lib.hid (And.intro hk (And.intro (show ¬ e.k = 2 by omega) (show ¬ e.k = 3 by omega)))
              clear hk
              go_upto_region 14 with (refine wpList_load_ev rfl _ 42 (Or.inl rfl) rfl (a.add (j * 11)) e rfl HX.out.1 ?_)
              try rw [hW5]
              clear hW5
              go_wp2_with fail
              (with_reducible refine (join_calls w.heap.size g K K (List.replicate K 0) ((s.T e.t).getD []) (by simp) HK.out hle1 M1 c1 W6 HO6.out.1 hr1 hne1).mono ?_); rintro x w7 ⟨rfl, ho7, hg7⟩
              have b57 := HO6.out.2.grown hg7 HO6.out.2.size (fun k hk => by cases hk; exact hgW)
              have H7 := Lib.hid (And.intro (show Own encI 1 3 w7 w.heap.size (.slice (some ⟨g, 0, none⟩) K K) (now1 K s e) from ho7) b57)
              clear ho7 hg7 b57 hlk1 hmk hln
              have y0 := HY.out.1 w7 H7.out.2
              have y1 := HY.out.2.1 w7 H7.out.2
              have y5 := HY.out.2.2.1 w7 H7.out.2

              obtain ⟨M2, c2, hlk2, hr2, hle2, hlt2⟩ := HT5.out.pm.lookAt H7.out.2 keyed37 Try.underlying109 (e.p, e.q, e.r) hokp (keyP (e.p, e.q, e.r) hokp)
              have hne2 : ∀ a, M2 = some a → a.block ≠ g := fun a ha => by have := hlt2 a ha; omega
              have y2 := HY.out.2.2.2.2.1 w7 H7.out.2
              have y3 := HY.out.2.2.2.2.2.1 w7 H7.out.2
              have y4 := HY.out.2.2.2.2.2.2 w7 H7.out.2
              clear hlt2
              go_upto_region 18 with fail
              go_wp2_with fail
              (with_reducible refine (join_calls w.heap.size g K K (now1 K s e) ((s.P (e.p, e.q, e.r)).getD []) (now1_len _ _ _) HK.out hle2 M2 c2 w7 H7.out.1 hr2 hne2).mono ?_); rintro x w8 ⟨rfl, ho8, hg8⟩
              have b58 := H7.out.2.grown hg8 H7.out.2.size (fun k hk => by cases hk; exact hgW)
              have H8 := Lib.hid (And.intro ho8 b58)
              clear ho8 hg8 b58 hlk2 y0 y1 y5 y2 y3 y4
              have y0 := HY.out.1 w8 H8.out.2
              have y1 := HY.out.2.1 w8 H8.out.2
              have y5 := HY.out.2.2.1 w8 H8.out.2
              have e2 : now2 K s e = joinF (now1 K s e) ((s.P (e.p, e.q, e.r)).getD []) := by unfold now2; rw [HOD.out, if_pos rfl]
              have e3 : now3 K s e = now2 K s e := by unfold now3; rw [if_neg HKD.out.2.2]
              have hO := H8.out.1
              rw [← e2, ← e3] at hO
              clear e2 e3
              have hq := hO.cell lenI (now3_len _ _ _) (ts.idxOf e.t) (by rw [now3_len]; exact HIX.out.1) 0 _ rfl
              have hs := hO.set lenI (now3_len _ _ _) (ts.idxOf e.t) (by rw [now3_len]; exact HIX.out.1) 0 (by decide) (.int .i64 ((now3 K s e).getD (ts.idxOf e.t) 0 + 1)) ((now3 K s e).getD (ts.idxOf e.t) 0 + 1) rfl
              simp only [Nat.mul_one, Nat.add_zero] at hq hs
              rw [← getD_in _ _ (by rw [now3_len]; exact HIX.out.1)] at hq
              have hxb : 0 ≤ (now3 K s e).getD (ts.idxOf e.t) 0 ∧ (now3 K s e).getD (ts.idxOf e.t) 0 ≤ (j : Int) := by
                rw [getD_in _ _ (by rw [now3_len]; exact HIX.out.1)]
                exact now3_bnd HIX.out.2.1 e _ (List.getElem_mem (by rw [now3_len]; exact HIX.out.1))
              have hnow : (now3 K s e).set (ts.idxOf e.t) ((now3 K s e).getD (ts.idxOf e.t) 0 + 1) = nowF ts s e := by unfold nowF; rw [HIX.out.2.2.1]
              rw [hnow] at hs
              have HS := Lib.hid hs
              have hixK := HIX.out.1
              have hlix := ((HT5.out.rest H8.out.2).rest (w' := w8.drew) (Below.refl _ _).drew).ix.look e.t htk HIX.out.2.2.2
              rw [HTS.out.1] at hlix
              obtain ⟨S5, cp5, x0, x1, x2, x3, x4⟩ := (HT5.out.rest H8.out.2).cells
              obtain ⟨q1, q2⟩ := hq
              generalize (now3 K s e).getD (ts.idxOf e.t) 0 = xv at *
              generalize ts.idxOf e.t = ix at *
              have hixI : (ix : Int) < (K : Int) := by omega
              have hw1 : wrap64 (xv + 1) = xv + 1 := wrap64_fit _ (by omega)
              have hw2 : IntKind.i64.wrap (xv + 1) = xv + 1 := by rw [IntKind.wrap_i64]; omega
              obtain ⟨WZ, hWZ⟩ : ∃ WZ, w8.setCell ⟨g, ix, none⟩ (.int .i64 (xv + 1)) = WZ := ⟨_, rfl⟩
              have HZ := Lib.hid hWZ
              clear hO hs hnow x0 x2 x3 x4
              go_upto_region 21 with fail
              clear hWZ
              go_region
              all_goals
                rw [HZ.out]
                obtain ⟨W10, hW10⟩ : ∃ W10, WZ.drew = W10 := ⟨_, rfl⟩
                rw [hW10]
                have hs2 := HS.out
                rw [HZ.out] at hs2
                have hbz : Below WZ.heap.size WZ W10 := by rw [← hW10]; exact (Below.refl _ _).drew
                have b510 := (H8.out.2.grown hs2.2 H8.out.2.size (fun k hk => by cases hk; exact hgW)).trans (hbz.mono (Nat.le_trans H8.out.2.size hs2.2.size))
                have hrow : RowV W10 w.heap.size K (.slice (some ⟨g, 0, none⟩) K K) (nowF ts s e) := ⟨g, K, rfl, by rw [nowF_len, HIX.out.2.2.1], hs2.1.rest hbz⟩
                have T10 := HT5.out.rest b510
                have z1 := HY.out.2.1 W10 b510
                obtain ⟨w11, hup1, T11, hrow11, hg11⟩ := T10.putT (by omega) e.t htk (.slice (some ⟨g, 0, none⟩) K K) (nowF ts s e) hrow
                have H11 := Lib.hid (And.intro T11 (And.intro hrow11 (And.intro hg11 b510)))
                clear hs2 hbz hrow T10 T11 hrow11 hg11 hlix q1 q2 hw1 hw2 y0 y1 y5 hW10 b510 x1
                go_upto_region 23 with fail
                clear hup1 z1
                have z2 := H11.out.2.2.1.cell (HY.out.2.2.2.2.1 W10 H11.out.2.2.2) hbne
                have z3 := H11.out.2.2.1.cell (HY.out.2.2.2.2.2.1 W10 H11.out.2.2.2) hbne
                have z4 := H11.out.2.2.1.cell (HY.out.2.2.2.2.2.2 W10 H11.out.2.2.2) hbne
                have z0 := H11.out.2.2.1.cell (HY.out.1 W10 H11.out.2.2.2) hbne
                obtain ⟨w12, hup2, T12, hrow12, hg12⟩ := H11.out.1.putP (by omega) (e.p, e.q, e.r) hokp (.slice (some ⟨g, 0, none⟩) K K) (nowF ts s e) H11.out.2.1
                have z00 := hg12.cell z0 hbnp
                have H12 := Lib.hid (And.intro T12 hrow12)
                clear T12 hrow12 hg12 z0
                go_upto_region 25 with fail
                clear hup2 z2 z3 z4
                go_upto_region 27 with fail
                clear z00
                obtain ⟨S, cp, x0, x1, x2, x3, vs, hvs, hvl, hvr⟩ := H12.out.1.cells
                obtain ⟨WL, hWL⟩ : ∃ WL, w12.alloc (.cells #[.slice (some ⟨g, 0, none⟩) K K] 33) = WL := ⟨_, rfl⟩
                have hbL : Below w12.heap.size w12 WL := by rw [← hWL]; exact (Below.refl _ _).alloc (Nat.le_refl _) _
                have hrdL : Rd encO 1 WL (some ⟨w12.heap.size, 0, none⟩) [.slice (some ⟨g, 0, none⟩) K K] := by rw [← hWL]; exact rd_one encO 1 _ _ 33 _ rfl _ rfl
                have HV := Lib.hid (And.intro (hvs.rest hbL) (And.intro hrdL (And.intro (show vs.length = j by rw [hvl, HIX2.out]) (And.intro (show (j + 1) * 24 ≤ 140737488355328 by omega) (And.intro (Nat.le_trans H12.out.1.low.size hbL.size) (And.intro hbL (And.intro hvs (And.intro hvl (And.intro hvr x2)))))))))
                have hcl := H12.out.1.cbLt
                have HCL := Lib.hid hcl
                have HCO := Lib.hid (show ∀ x ∈ [Value.slice (some ⟨g, 0, none⟩) K K], ∀ u ∈ encO x, u.oneCell' = true from fun x hx u hu => by simp at hx hu; subst hx; subst hu; rfl)
                clear x0 x1 x3 hvs hvr hvl hbL hrdL hcl
                go_wp2_with (first | (at_builtin; refine wpList_append_toldY lenO _ rfl (.tmp 132) (.tmp 134) 45 rfl w.heap.size 33 (.slice none 0 0) 24 Try.underlying45 info33 rfl (by decide) (by decide) (.slice S j cp) vs j HV.out.2.2.1 rfl HV.out.1 ⟨w12.heap.size, 0, none⟩ 1 1 [.slice (some ⟨g, 0, none⟩) K K] rfl rfl (by decide) HCO.out HV.out.2.1 HV.out.2.2.2.1 HV.out.2.2.2.2.1 ?_; intro g1 cap1 w1 hown hgr hl1; obtain ⟨v9, x2', x3'⟩ := Tb.appCell H12.out.1 HV.out.2.2.2.2.2.2.1 HV.out.2.2.2.2.2.1 hgr; have HG := Lib.hid (And.intro hown hgr); clear hown hgr hl1))
                have hfin := Tb.app H12.out.1 HV.out.2.2.2.2.2.2.2.2.2 HV.out.2.2.2.2.2.2.1 HV.out.2.2.2.2.2.2.2.1 HV.out.2.2.2.2.2.2.2.2.1 _ (nowF ts s e) H12.out.2 HV.out.2.2.2.2.2.1 HG.out.1 HG.out.2
                have HFIN := Lib.hid hfin
                clear hfin
                go_roundg (gk - 1)
                case measure => omega
                case rel =>
                  refine ⟨j + 1, by omega, by go_num, ?_⟩
                  rw [HX.out.2]
                  refine TbEq HFIN.out (fun t => ?_) (fun p => ?_) rfl (by omega) (by omega)
                  · simp only [csS]
                    have hn : ¬ (e.k = 2 ∧ t = e.o) := fun h => HKD.out.2.1 h.1
                    rw [if_neg hn]
                  · simp only [csS]
                    by_cases hp : p = (e.p, e.q, e.r)
                    · have hn : ordB e = true ∧ p = (e.p, e.q, e.r) := ⟨HOD.out, hp⟩
                      rw [if_pos hp, if_pos hn]
                    · have hn : ¬ (ordB e = true ∧ p = (e.p, e.q, e.r)) := fun h => hp h.2
                      rw [if_neg hp, if_neg hn]
            · have k1 : (e.k == 1) = true := by rw [hk]; rfl
              have k2 : (e.k == 2) = false := by rw [hk]; rfl
              have k3 : (e.k == 3) = false := by rw [hk]; rfl
              have HOD := Lib.hid (show ordB e = false by simp [ordB, hk, hm])
              have HKD := Lib.hid (And.intro hk (And.intro (show ¬ e.k = 2 by omega) (show ¬ e.k = 3 by omega)))
              clear hk
              go_upto_region 14 with (refine wpList_load_ev rfl _ 42 (Or.inl rfl) rfl (a.add (j * 11)) e rfl HX.out.1 ?_)
              try rw [hW5]
              clear hW5
              go_wp2_with fail
              (with_reducible refine (join_calls w.heap.size g K K (List.replicate K 0) ((s.T e.t).getD []) (by simp) HK.out hle1 M1 c1 W6 HO6.out.1 hr1 hne1).mono ?_); rintro x w7 ⟨rfl, ho7, hg7⟩
              have b57 := HO6.out.2.grown hg7 HO6.out.2.size (fun k hk => by cases hk; exact hgW)
              have H7 := Lib.hid (And.intro (show Own encI 1 3 w7 w.heap.size (.slice (some ⟨g, 0, none⟩) K K) (now1 K s e) from ho7) b57)
              clear ho7 hg7 b57 hlk1 hmk hln
              have y0 := HY.out.1 w7 H7.out.2
              have y1 := HY.out.2.1 w7 H7.out.2
              have y5 := HY.out.2.2.1 w7 H7.out.2
              have e2 : now2 K s e = now1 K s e := by unfold now2; rw [HOD.out]; rfl
              have e3 : now3 K s e = now2 K s e := by unfold now3; rw [if_neg HKD.out.2.2]
              have hO := H7.out.1
              rw [← e2, ← e3] at hO
              clear e2 e3
              have hq := hO.cell lenI (now3_len _ _ _) (ts.idxOf e.t) (by rw [now3_len]; exact HIX.out.1) 0 _ rfl
              have hs := hO.set lenI (now3_len _ _ _) (ts.idxOf e.t) (by rw [now3_len]; exact HIX.out.1) 0 (by decide) (.int .i64 ((now3 K s e).getD (ts.idxOf e.t) 0 + 1)) ((now3 K s e).getD (ts.idxOf e.t) 0 + 1) rfl
              simp only [Nat.mul_one, Nat.add_zero] at hq hs
              rw [← getD_in _ _ (by rw [now3_len]; exact HIX.out.1)] at hq
              have hxb : 0 ≤ (now3 K s e).getD (ts.idxOf e.t) 0 ∧ (now3 K s e).getD (ts.idxOf e.t) 0 ≤ (j : Int) := by
                rw [getD_in _ _ (by rw [now3_len]; exact HIX.out.1)]
                exact now3_bnd HIX.out.2.1 e _ (List.getElem_mem (by rw [now3_len]; exact HIX.out.1))
              have hnow : (now3 K s e).set (ts.idxOf e.t) ((now3 K s e).getD (ts.idxOf e.t) 0 + 1) = nowF ts s e := by unfold nowF; rw [HIX.out.2.2.1]
              rw [hnow] at hs
              have HS := Lib.hid hs
              have hixK := HIX.out.1
              have hlix := ((HT5.out.rest H7.out.2).rest (w' := w7.drew) (Below.refl _ _).drew).ix.look e.t htk HIX.out.2.2.2
              rw [HTS.out.1] at hlix
              obtain ⟨S5, cp5, x0, x1, x2, x3, x4⟩ := (HT5.out.rest H7.out.2).cells
              obtain ⟨q1, q2⟩ := hq
              generalize (now3 K s e).getD (ts.idxOf e.t) 0 = xv at *
              generalize ts.idxOf e.t = ix at *
              have hixI : (ix : Int) < (K : Int) := by omega
              have hw1 : wrap64 (xv + 1) = xv + 1 := wrap64_fit _ (by omega)
              have hw2 : IntKind.i64.wrap (xv + 1) = xv + 1 := by rw [IntKind.wrap_i64]; omega
              obtain ⟨WZ, hWZ⟩ : ∃ WZ, w7.setCell ⟨g, ix, none⟩ (.int .i64 (xv + 1)) = WZ := ⟨_, rfl⟩
              have HZ := Lib.hid hWZ
              clear hO hs hnow x0 x2 x3 x4
              go_upto_region 21 with fail
              clear hWZ
              go_region
              all_goals
                rw [HZ.out]
                obtain ⟨W10, hW10⟩ : ∃ W10, WZ.drew = W10 := ⟨_, rfl⟩
                rw [hW10]
                have hs2 := HS.out
                rw [HZ.out] at hs2
                have hbz : Below WZ.heap.size WZ W10 := by rw [← hW10]; exact (Below.refl _ _).drew
                have b510 := (H7.out.2.grown hs2.2 H7.out.2.size (fun k hk => by cases hk; exact hgW)).trans (hbz.mono (Nat.le_trans H7.out.2.size hs2.2.size))
                have hrow : RowV W10 w.heap.size K (.slice (some ⟨g, 0, none⟩) K K) (nowF ts s e) := ⟨g, K, rfl, by rw [nowF_len, HIX.out.2.2.1], hs2.1.rest hbz⟩
                have T10 := HT5.out.rest b510
                have z1 := HY.out.2.1 W10 b510
                obtain ⟨w11, hup1, T11, hrow11, hg11⟩ := T10.putT (by omega) e.t htk (.slice (some ⟨g, 0, none⟩) K K) (nowF ts s e) hrow
                have H11 := Lib.hid (And.intro T11 (And.intro hrow11 (And.intro hg11 b510)))
                clear hs2 hbz hrow T10 T11 hrow11 hg11 hlix q1 q2 hw1 hw2 y0 y1 y5 hW10 b510 x1
                go_upto_region 23 with fail
                clear hup1 z1
                have z0 := H11.out.2.2.1.cell (HY.out.1 W10 H11.out.2.2.2) hbne
                go_upto_region 27 with fail
                clear z0
                obtain ⟨S, cp, x0, x1, x2, x3, vs, hvs, hvl, hvr⟩ := H11.out.1.cells
                obtain ⟨WL, hWL⟩ : ∃ WL, w11.alloc (.cells #[.slice (some ⟨g, 0, none⟩) K K] 33) = WL := ⟨_, rfl⟩
                have hbL : Below w11.heap.size w11 WL := by rw [← hWL]; exact (Below.refl _ _).alloc (Nat.le_refl _) _
                have hrdL : Rd encO 1 WL (some ⟨w11.heap.size, 0, none⟩) [.slice (some ⟨g, 0, none⟩) K K] := by rw [← hWL]; exact rd_one encO 1 _ _ 33 _ rfl _ rfl
                have HV := Lib.hid (And.intro (hvs.rest hbL) (And.intro hrdL (And.intro (show vs.length = j by rw [hvl, HIX2.out]) (And.intro (show (j + 1) * 24 ≤ 140737488355328 by omega) (And.intro (Nat.le_trans H11.out.1.low.size hbL.size) (And.intro hbL (And.intro hvs (And.intro hvl (And.intro hvr x2)))))))))
                have hcl := H11.out.1.cbLt
                have HCL := Lib.hid hcl
                have HCO := Lib.hid (show ∀ x ∈ [Value.slice (some ⟨g, 0, none⟩) K K], ∀ u ∈ encO x, u.oneCell' = true from fun x hx u hu => by simp at hx hu; subst hx; subst hu; rfl)
                clear x0 x1 x3 hvs hvr hvl hbL hrdL hcl
                go_wp2_with (first | (at_builtin; refine wpList_append_toldY lenO _ rfl (.tmp 132) (.tmp 134) 45 rfl w.heap.size 33 (.slice none 0 0) 24 Try.underlying45 info33 rfl (by decide) (by decide) (.slice S j cp) vs j HV.out.2.2.1 rfl HV.out.1 ⟨w11.heap.size, 0, none⟩ 1 1 [.slice (some ⟨g, 0, none⟩) K K] rfl rfl (by decide) HCO.out HV.out.2.1 HV.out.2.2.2.1 HV.out.2.2.2.2.1 ?_; intro g1 cap1 w1 hown hgr hl1; obtain ⟨v9, x2', x3'⟩ := Tb.appCell H11.out.1 HV.out.2.2.2.2.2.2.1 HV.out.2.2.2.2.2.1 hgr; have HG := Lib.hid (And.intro hown hgr); clear hown hgr hl1))
                have hfin := Tb.app H11.out.1 HV.out.2.2.2.2.2.2.2.2.2 HV.out.2.2.2.2.2.2.1 HV.out.2.2.2.2.2.2.2.1 HV.out.2.2.2.2.2.2.2.2.1 _ (nowF ts s e) H11.out.2.1 HV.out.2.2.2.2.2.1 HG.out.1 HG.out.2
                have HFIN := Lib.hid hfin
                clear hfin
                go_roundg (gk - 1)
                case measure => omega
                case rel =>
                  refine ⟨j + 1, by omega, by go_num, ?_⟩
                  rw [HX.out.2]
                  refine TbEq HFIN.out (fun t => ?_) (fun p => ?_) rfl (by omega) (by omega)
                  · simp only [csS]
                    have hn : ¬ (e.k = 2 ∧ t = e.o) := fun h => HKD.out.2.1 h.1
                    rw [if_neg hn]
                  · simp only [csS]
                    have hn : ¬ (ordB e = true ∧ p = (e.p, e.q, e.r)) := fun h => by have := h.1; rw [HOD.out] at this; cases this
                    rw [if_neg hn]
          · have k1 : (e.k == 1) = false := by rw [hk]; rfl
            have k2 : (e.k == 2) = true := by rw [hk]; rfl
            have k3 : (e.k == 3) = false := by rw [hk]; rfl
            have HOD := Lib.hid (show ordB e = false by simp [ordB, hk])
            have HKD := Lib.hid (And.intro hk (And.intro (show e.k = 2 by omega) (show ¬ e.k = 3 by omega)))
            clear hk
            go_upto_region 14 with (refine wpList_load_ev rfl _ 42 (Or.inl rfl) rfl (a.add (j * 11)) e rfl HX.out.1 ?_)
            try rw [hW5]
            clear hW5
            go_wp2_with fail
            (with_reducible refine (join_calls w.heap.size g K K (List.replicate K 0) ((s.T e.t).getD []) (by simp) HK.out hle1 M1 c1 W6 HO6.out.1 hr1 hne1).mono ?_); rintro x w7 ⟨rfl, ho7, hg7⟩
            have b57 := HO6.out.2.grown hg7 HO6.out.2.size (fun k hk => by cases hk; exact hgW)
            have H7 := Lib.hid (And.intro (show Own encI 1 3 w7 w.heap.size (.slice (some ⟨g, 0, none⟩) K K) (now1 K s e) from ho7) b57)
            clear ho7 hg7 b57 hlk1 hmk hln
            have y0 := HY.out.1 w7 H7.out.2
            have y1 := HY.out.2.1 w7 H7.out.2
            have y5 := HY.out.2.2.1 w7 H7.out.2
            have e2 : now2 K s e = now1 K s e := by unfold now2; rw [HOD.out]; rfl
            have e3 : now3 K s e = now2 K s e := by unfold now3; rw [if_neg HKD.out.2.2]
            have hO := H7.out.1
            rw [← e2, ← e3] at hO
            clear e2 e3
            have hq := hO.cell lenI (now3_len _ _ _) (ts.idxOf e.t) (by rw [now3_len]; exact HIX.out.1) 0 _ rfl
            have hs := hO.set lenI (now3_len _ _ _) (ts.idxOf e.t) (by rw [now3_len]; exact HIX.out.1) 0 (by decide) (.int .i64 ((now3 K s e).getD (ts.idxOf e.t) 0 + 1)) ((now3 K s e).getD (ts.idxOf e.t) 0 + 1) rfl
            simp only [Nat.mul_one, Nat.add_zero] at hq hs
            rw [← getD_in _ _ (by rw [now3_len]; exact HIX.out.1)] at hq
            have hxb : 0 ≤ (now3 K s e).getD (ts.idxOf e.t) 0 ∧ (now3 K s e).getD (ts.idxOf e.t) 0 ≤ (j : Int) := by
              rw [getD_in _ _ (by rw [now3_len]; exact HIX.out.1)]
              exact now3_bnd HIX.out.2.1 e _ (List.getElem_mem (by rw [now3_len]; exact HIX.out.1))
            have hnow : (now3 K s e).set (ts.idxOf e.t) ((now3 K s e).getD (ts.idxOf e.t) 0 + 1) = nowF ts s e := by unfold nowF; rw [HIX.out.2.2.1]
            rw [hnow] at hs
            have HS := Lib.hid hs
            have hixK := HIX.out.1
            have hlix := ((HT5.out.rest H7.out.2).rest (w' := w7.drew) (Below.refl _ _).drew).ix.look e.t htk HIX.out.2.2.2
            rw [HTS.out.1] at hlix
            obtain ⟨S5, cp5, x0, x1, x2, x3, x4⟩ := (HT5.out.rest H7.out.2).cells
            obtain ⟨q1, q2⟩ := hq
            generalize (now3 K s e).getD (ts.idxOf e.t) 0 = xv at *
            generalize ts.idxOf e.t = ix at *
            have hixI : (ix : Int) < (K : Int) := by omega
            have hw1 : wrap64 (xv + 1) = xv + 1 := wrap64_fit _ (by omega)
            have hw2 : IntKind.i64.wrap (xv + 1) = xv + 1 := by rw [IntKind.wrap_i64]; omega
            obtain ⟨WZ, hWZ⟩ : ∃ WZ, w7.setCell ⟨g, ix, none⟩ (.int .i64 (xv + 1)) = WZ := ⟨_, rfl⟩
            have HZ := Lib.hid hWZ
            clear hO hs hnow x0 x2 x3 x4
            go_upto_region 21 with fail
            clear hWZ
            go_region
            all_goals
              rw [HZ.out]
              obtain ⟨W10, hW10⟩ : ∃ W10, WZ.drew = W10 := ⟨_, rfl⟩
              rw [hW10]
              have hs2 := HS.out
              rw [HZ.out] at hs2
              have hbz : Below WZ.heap.size WZ W10 := by rw [← hW10]; exact (Below.refl _ _).drew
              have b510 := (H7.out.2.grown hs2.2 H7.out.2.size (fun k hk => by cases hk; exact hgW)).trans (hbz.mono (Nat.le_trans H7.out.2.size hs2.2.size))
              have hrow : RowV W10 w.heap.size K (.slice (some ⟨g, 0, none⟩) K K) (nowF ts s e) := ⟨g, K, rfl, by rw [nowF_len, HIX.out.2.2.1], hs2.1.rest hbz⟩
              have T10 := HT5.out.rest b510
              have z1 := HY.out.2.1 W10 b510
              obtain ⟨w11, hup1, T11, hrow11, hg11⟩ := T10.putT (by omega) e.t htk (.slice (some ⟨g, 0, none⟩) K K) (nowF ts s e) hrow
              have H11 := Lib.hid (And.intro T11 (And.intro hrow11 (And.intro hg11 b510)))
              clear hs2 hbz hrow T10 T11 hrow11 hg11 hlix q1 q2 hw1 hw2 y0 y1 y5 hW10 b510 x1
              go_upto_region 23 with fail
              clear hup1 z1
              have z8 := H11.out.2.2.1.cell (HY.out.2.2.2.1 W10 H11.out.2.2.2) hbne
              have z0 := H11.out.2.2.1.cell (HY.out.1 W10 H11.out.2.2.2) hbne
              obtain ⟨w12, hup2, T12, hrow12, hg12⟩ := H11.out.1.putT (by omega) e.o hoko (.slice (some ⟨g, 0, none⟩) K K) (nowF ts s e) H11.out.2.1
              have H12 := Lib.hid (And.intro T12 hrow12)
              clear T12 hrow12 hg12
              go_upto_region 27 with fail
              clear hup2 z8 z0
              obtain ⟨S, cp, x0, x1, x2, x3, vs, hvs, hvl, hvr⟩ := H12.out.1.cells
              obtain ⟨WL, hWL⟩ : ∃ WL, w12.alloc (.cells #[.slice (some ⟨g, 0, none⟩) K K] 33) = WL := ⟨_, rfl⟩
              have hbL : Below w12.heap.size w12 WL := by rw [← hWL]; exact (Below.refl _ _).alloc (Nat.le_refl _) _
              have hrdL : Rd encO 1 WL (some ⟨w12.heap.size, 0, none⟩) [.slice (some ⟨g, 0, none⟩) K K] := by rw [← hWL]; exact rd_one encO 1 _ _ 33 _ rfl _ rfl
              have HV := Lib.hid (And.intro (hvs.rest hbL) (And.intro hrdL (And.intro (show vs.length = j by rw [hvl, HIX2.out]) (And.intro (show (j + 1) * 24 ≤ 140737488355328 by omega) (And.intro (Nat.le_trans H12.out.1.low.size hbL.size) (And.intro hbL (And.intro hvs (And.intro hvl (And.intro hvr x2)))))))))
              have hcl := H12.out.1.cbLt
              have HCL := Lib.hid hcl
              have HCO := Lib.hid (show ∀ x ∈ [Value.slice (some ⟨g, 0, none⟩) K K], ∀ u ∈ encO x, u.oneCell' = true from fun x hx u hu => by simp at hx hu; subst hx; subst hu; rfl)
              clear x0 x1 x3 hvs hvr hvl hbL hrdL hcl
              go_wp2_with (first | (at_builtin; refine wpList_append_toldY lenO _ rfl (.tmp 132) (.tmp 134) 45 rfl w.heap.size 33 (.slice none 0 0) 24 Try.underlying45 info33 rfl (by decide) (by decide) (.slice S j cp) vs j HV.out.2.2.1 rfl HV.out.1 ⟨w12.heap.size, 0, none⟩ 1 1 [.slice (some ⟨g, 0, none⟩) K K] rfl rfl (by decide) HCO.out HV.out.2.1 HV.out.2.2.2.1 HV.out.2.2.2.2.1 ?_; intro g1 cap1 w1 hown hgr hl1; obtain ⟨v9, x2', x3'⟩ := Tb.appCell H12.out.1 HV.out.2.2.2.2.2.2.1 HV.out.2.2.2.2.2.1 hgr; have HG := Lib.hid (And.intro hown hgr); clear hown hgr hl1))
              have hfin := Tb.app H12.out.1 HV.out.2.2.2.2.2.2.2.2.2 HV.out.2.2.2.2.2.2.1 HV.out.2.2.2.2.2.2.2.1 HV.out.2.2.2.2.2.2.2.2.1 _ (nowF ts s e) H12.out.2 HV.out.2.2.2.2.2.1 HG.out.1 HG.out.2
              have HFIN := Lib.hid hfin
              clear hfin
              go_roundg (gk - 1)
              case measure => omega
              case rel =>
                refine ⟨j + 1, by omega, by go_num, ?_⟩
                rw [HX.out.2]
                refine TbEq HFIN.out (fun t => ?_) (fun p => ?_) rfl (by omega) (by omega)
                · simp only [csS]
                  by_cases ht : t = e.o
                  · have hn : e.k = 2 ∧ t = e.o := ⟨HKD.out.2.1, ht⟩
                    rw [if_pos ht, if_pos hn]
                  · have hn : ¬ (e.k = 2 ∧ t = e.o) := fun h => ht h.2
                    rw [if_neg ht, if_neg hn]
                · simp only [csS]
                  have hn : ¬ (ordB e = true ∧ p = (e.p, e.q, e.r)) := fun h => by have := h.1; rw [HOD.out] at this; cases this
                  rw [if_neg hn]
          · have k1 : (e.k == 1) = false := by rw [hk]; rfl
            have k2 : (e.k == 2) = false := by rw [hk]; rfl
            have k3 : (e.k == 3) = true := by rw [hk]; rfl
            have HOD := Lib.hid (show ordB e = false by simp [ordB, hk])
            have HKD := Lib.hid (And.intro hk (And.intro (show ¬ e.k = 2 by omega) (show e.k = 3 by omega)))
            clear hk
            go_upto_region 14 with (refine wpList_load_ev rfl _ 42 (Or.inl rfl) rfl (a.add (j * 11)) e rfl HX.out.1 ?_)
            try rw [hW5]
            clear hW5
            go_wp2_with fail
            (with_reducible refine (join_calls w.heap.size g K K (List.replicate K 0) ((s.T e.t).getD []) (by simp) HK.out hle1 M1 c1 W6 HO6.out.1 hr1 hne1).mono ?_); rintro x w7 ⟨rfl, ho7, hg7⟩
            have b57 := HO6.out.2.grown hg7 HO6.out.2.size (fun k hk => by cases hk; exact hgW)
            have H7 := Lib.hid (And.intro (show Own encI 1 3 w7 w.heap.size (.slice (some ⟨g, 0, none⟩) K K) (now1 K s e) from ho7) b57)
            clear ho7 hg7 b57 hlk1 hmk hln
            have y0 := HY.out.1 w7 H7.out.2
            have y1 := HY.out.2.1 w7 H7.out.2
            have y5 := HY.out.2.2.1 w7 H7.out.2

            obtain ⟨M3, c3, hlk3, hr3, hle3, hlt3⟩ := HT5.out.tm.lookAt H7.out.2 keyedI Try.underlying108 e.o hoko (keyI e.o hoko)
            have hne3 : ∀ a, M3 = some a → a.block ≠ g := fun a ha => by have := hlt3 a ha; omega
            have y8 := HY.out.2.2.2.1 w7 H7.out.2
            clear hlt3
            go_upto_region 20 with fail
            go_wp2_with fail
            (with_reducible refine (join_calls w.heap.size g K K (now1 K s e) ((s.T e.o).getD []) (now1_len _ _ _) HK.out hle3 M3 c3 w7 H7.out.1 hr3 hne3).mono ?_); rintro x w8 ⟨rfl, ho8, hg8⟩
            have b58 := H7.out.2.grown hg8 H7.out.2.size (fun k hk => by cases hk; exact hgW)
            have H8 := Lib.hid (And.intro ho8 b58)
            clear ho8 hg8 b58 hlk3 y0 y1 y5 y8
            have y0 := HY.out.1 w8 H8.out.2
            have y1 := HY.out.2.1 w8 H8.out.2
            have y5 := HY.out.2.2.1 w8 H8.out.2
            have e2 : now2 K s e = now1 K s e := by unfold now2; rw [HOD.out]; rfl
            have e3 : now3 K s e = joinF (now2 K s e) ((s.T e.o).getD []) := by unfold now3; rw [if_pos HKD.out.2.2]
            have hO := H8.out.1
            rw [← e2, ← e3] at hO
            clear e2 e3
            have hq := hO.cell lenI (now3_len _ _ _) (ts.idxOf e.t) (by rw [now3_len]; exact HIX.out.1) 0 _ rfl
            have hs := hO.set lenI (now3_len _ _ _) (ts.idxOf e.t) (by rw [now3_len]; exact HIX.out.1) 0 (by decide) (.int .i64 ((now3 K s e).getD (ts.idxOf e.t) 0 + 1)) ((now3 K s e).getD (ts.idxOf e.t) 0 + 1) rfl
            simp only [Nat.mul_one, Nat.add_zero] at hq hs
            rw [← getD_in _ _ (by rw [now3_len]; exact HIX.out.1)] at hq
            have hxb : 0 ≤ (now3 K s e).getD (ts.idxOf e.t) 0 ∧ (now3 K s e).getD (ts.idxOf e.t) 0 ≤ (j : Int) := by
              rw [getD_in _ _ (by rw [now3_len]; exact HIX.out.1)]
              exact now3_bnd HIX.out.2.1 e _ (List.getElem_mem (by rw [now3_len]; exact HIX.out.1))
            have hnow : (now3 K s e).set (ts.idxOf e.t) ((now3 K s e).getD (ts.idxOf e.t) 0 + 1) = nowF ts s e := by unfold nowF; rw [HIX.out.2.2.1]
            rw [hnow] at hs
            have HS := Lib.hid hs
            have hixK := HIX.out.1
            have hlix := ((HT5.out.rest H8.out.2).rest (w' := w8.drew) (Below.refl _ _).drew).ix.look e.t htk HIX.out.2.2.2
            rw [HTS.out.1] at hlix
            obtain ⟨S5, cp5, x0, x1, x2, x3, x4⟩ := (HT5.out.rest H8.out.2).cells
            obtain ⟨q1, q2⟩ := hq
            generalize (now3 K s e).getD (ts.idxOf e.t) 0 = xv at *
            generalize ts.idxOf e.t = ix at *
            have hixI : (ix : Int) < (K : Int) := by omega
            have hw1 : wrap64 (xv + 1) = xv + 1 := wrap64_fit _ (by omega)
            have hw2 : IntKind.i64.wrap (xv + 1) = xv + 1 := by rw [IntKind.wrap_i64]; omega
            obtain ⟨WZ, hWZ⟩ : ∃ WZ, w8.setCell ⟨g, ix, none⟩ (.int .i64 (xv + 1)) = WZ := ⟨_, rfl⟩
            have HZ := Lib.hid hWZ
            clear hO hs hnow x0 x2 x3 x4
            go_upto_region 21 with fail
            clear hWZ
            go_region
            all_goals
              rw [HZ.out]
              obtain ⟨W10, hW10⟩ : ∃ W10, WZ.drew = W10 := ⟨_, rfl⟩
              rw [hW10]
              have hs2 := HS.out
              rw [HZ.out] at hs2
              have hbz : Below WZ.heap.size WZ W10 := by rw [← hW10]; exact (Below.refl _ _).drew
              have b510 := (H8.out.2.grown hs2.2 H8.out.2.size (fun k hk => by cases hk; exact hgW)).trans (hbz.mono (Nat.le_trans H8.out.2.size hs2.2.size))
              have hrow : RowV W10 w.heap.size K (.slice (some ⟨g, 0, none⟩) K K) (nowF ts s e) := ⟨g, K, rfl, by rw [nowF_len, HIX.out.2.2.1], hs2.1.rest hbz⟩
              have T10 := HT5.out.rest b510
              have z1 := HY.out.2.1 W10 b510
              obtain ⟨w11, hup1, T11, hrow11, hg11⟩ := T10.putT (by omega) e.t htk (.slice (some ⟨g, 0, none⟩) K K) (nowF ts s e) hrow
              have H11 := Lib.hid (And.intro T11 (And.intro hrow11 (And.intro hg11 b510)))
              clear hs2 hbz hrow T10 T11 hrow11 hg11 hlix q1 q2 hw1 hw2 y0 y1 y5 hW10 b510 x1
              go_upto_region 23 with fail
              clear hup1 z1
              have z0 := H11.out.2.2.1.cell (HY.out.1 W10 H11.out.2.2.2) hbne
              go_upto_region 27 with fail
              clear z0
              obtain ⟨S, cp, x0, x1, x2, x3, vs, hvs, hvl, hvr⟩ := H11.out.1.cells
              obtain ⟨WL, hWL⟩ : ∃ WL, w11.alloc (.cells #[.slice (some ⟨g, 0, none⟩) K K] 33) = WL := ⟨_, rfl⟩
              have hbL : Below w11.heap.size w11 WL := by rw [← hWL]; exact (Below.refl _ _).alloc (Nat.le_refl _) _
              have hrdL : Rd encO 1 WL (some ⟨w11.heap.size, 0, none⟩) [.slice (some ⟨g, 0, none⟩) K K] := by rw [← hWL]; exact rd_one encO 1 _ _ 33 _ rfl _ rfl
              have HV := Lib.hid (And.intro (hvs.rest hbL) (And.intro hrdL (And.intro (show vs.length = j by rw [hvl, HIX2.out]) (And.intro (show (j + 1) * 24 ≤ 140737488355328 by omega) (And.intro (Nat.le_trans H11.out.1.low.size hbL.size) (And.intro hbL (And.intro hvs (And.intro hvl (And.intro hvr x2)))))))))
              have hcl := H11.out.1.cbLt
              have HCL := Lib.hid hcl
              have HCO := Lib.hid (show ∀ x ∈ [Value.slice (some ⟨g, 0, none⟩) K K], ∀ u ∈ encO x, u.oneCell' = true from fun x hx u hu => by simp at hx hu; subst hx; subst hu; rfl)
              clear x0 x1 x3 hvs hvr hvl hbL hrdL hcl
              go_wp2_with (first | (at_builtin; refine wpList_append_toldY lenO _ rfl (.tmp 132) (.tmp 134) 45 rfl w.heap.size 33 (.slice none 0 0) 24 Try.underlying45 info33 rfl (by decide) (by decide) (.slice S j cp) vs j HV.out.2.2.1 rfl HV.out.1 ⟨w11.heap.size, 0, none⟩ 1 1 [.slice (some ⟨g, 0, none⟩) K K] rfl rfl (by decide) HCO.out HV.out.2.1 HV.out.2.2.2.1 HV.out.2.2.2.2.1 ?_; intro g1 cap1 w1 hown hgr hl1; obtain ⟨v9, x2', x3'⟩ := Tb.appCell H11.out.1 HV.out.2.2.2.2.2.2.1 HV.out.2.2.2.2.2.1 hgr; have HG := Lib.hid (And.intro hown hgr); clear hown hgr hl1))
              have hfin := Tb.app H11.out.1 HV.out.2.2.2.2.2.2.2.2.2 HV.out.2.2.2.2.2.2.1 HV.out.2.2.2.2.2.2.2.1 HV.out.2.2.2.2.2.2.2.2.1 _ (nowF ts s e) H11.out.2.1 HV.out.2.2.2.2.2.1 HG.out.1 HG.out.2
              have HFIN := Lib.hid hfin
              clear hfin
              go_roundg (gk - 1)
              case measure => omega
              case rel =>
                refine ⟨j + 1, by omega, by go_num, ?_⟩
                rw [HX.out.2]
                refine TbEq HFIN.out (fun t => ?_) (fun p => ?_) rfl (by omega) (by omega)
                · simp only [csS]
                  have hn : ¬ (e.k = 2 ∧ t = e.o) := fun h => HKD.out.2.1 h.1
                  rw [if_neg hn]
                · simp only [csS]
                  have hn : ¬ (ordB e = true ∧ p = (e.p, e.q, e.r)) := fun h => by have := h.1; rw [HOD.out] at this; cases this
                  rw [if_neg hn]
        · have hd : decide (j < l.length) = false := decide_eq_false hjl
          obtain rfl : j = l.length := by omega
          rw [List.take_length] at htb
          have hlow := htb.low
          have hixx := htb.ix
          obtain ⟨S, cp, c1, c2⟩ := htb.cc
          have HE := Lib.hid (And.intro hlow (And.intro hixx (And.intro c1 c2)))
          clear htb hlow hixx c1 c2
          go_wp2_with fail
          go_ret
          refine ⟨_, rfl, ⟨_, _, HE.out.2.2.1, HE.out.2.1, ?_⟩, HE.out.1⟩
          unfold clkF
          rw [HTS.out.1, HTS.out.2]
          exact HE.out.2.2.2
end Go.Proofs.Ythebembnlmddoaa
