import Derived.Test.YthpcipfloofbcaaBC
import Derived.Deep.DeepCutAuto
namespace Go.Proofs.Ythpcipfloofbcaa
open Go.RowKit
set_option maxHeartbeats 8000000
set_option maxRecDepth 100000
set_option linter.unusedSimpArgs false
set_option linter.unusedVariables false

/-- the same state, read in two places -/
theorem same_calls (s : St) (A : Option Addr) (c : Nat) (B : Option Addr) (d : Nat) (A' : Option Addr) (c' : Nat) (B' : Option Addr) (d' : Nat) (w : World) (h : RdS w A B s) (h' : RdS w A' B' s) :
    Calls Try.prog 16 #[s.v A c B d, s.v A' c' B' d'] w fun e w' => e = .returned (.bool true) ∧ Below w.heap.size w w' := by
  obtain ⟨W, hW⟩ : ∃ W, (w.alloc (.cells (cellsS s (.slice A s.ms.length c) (.slice B s.fl.length d)) 27)).alloc (.cells (cellsS s (.slice A' s.ms.length c') (.slice B' s.fl.length d')) 44) = W := ⟨_, rfl⟩
  have hb : Below w.heap.size w W := by
    rw [← hW]
    exact ((Below.refl _ _).alloc (Nat.le_refl _) _).alloc (by simp) _
  have hb0 : W.heap[w.heap.size]? = some (.cells (cellsS s (.slice A s.ms.length c) (.slice B s.fl.length d)) 27 (0, 0)) := by
    rw [← hW, Below.heap_alloc _ _ _ (by simp)]; exact heap_alloc_new w _
  have hb1 : W.heap[w.heap.size + 1]? = some (.cells (cellsS s (.slice A' s.ms.length c') (.slice B' s.fl.length d')) 44 (0, 0)) := by
    rw [← hW]
    have := heap_alloc_new (w.alloc (.cells (cellsS s (.slice A s.ms.length c) (.slice B s.fl.length d)) 27)) (.cells (cellsS s (.slice A' s.ms.length c') (.slice B' s.fl.length d')) 44)
    simpa using this
  have hx0 : BoxG 27 w w.heap.size s W := ⟨hb, A, c, B, d, hb0, h.below hb⟩
  have hx1 : BoxG 44 w (w.heap.size + 1) s W := ⟨hb, A', c', B', d', hb1, h'.below hb⟩
  obtain ⟨z0, z1, z2, z3, z4, z5, z6, z7, z8⟩ := nineT hb0
  obtain ⟨y0, y1, y2, y3, y4, y5, y6, y7, y8⟩ := nineT hb1
  have hl := h.ms.small
  have hl2 := h.fl.small
  have HW := Lib.hid (And.intro hW (And.intro hx0 hx1))
  clear hW hb hb0 hb1 h h' hx0 hx1
  go_enter Try.func16, Try.ntmps16
  go_upto_region 1 with fail
  rw [HW.out.1]
  go_upto_region 3 with fail
  go_wp2_with fail
  clear z0 z1 z2 z3 z4 z5 z6 z7 z8 y0 y1 y2 y3 y4 y5 y6 y7 y8
  go_loopg [4, 5, 78, 79, 80, 81, 82, 83, 84, 85, 86, 87, 88, 89, 90, 91, 92, 93, 94, 95, 96, 97, 98, 99, 100, 101, 102, 103, 104, 105, 106, 107, 108, 109, 110, 111, 112, 113, 114, 115, 116, 117, 118, 119, 120, 121, 122, 123, 124, 125, 126, 127] (s.ms.length) (fun g v4 v5 v78 v79 v80 v81 v82 v83 v84 v85 v86 v87 v88 v89 v90 v91 v92 v93 v94 v95 v96 v97 v98 v99 v100 v101 v102 v103 v104 v105 v106 v107 v108 v109 v110 v111 v112 v113 v114 v115 v116 v117 v118 v119 v120 v121 v122 v123 v124 v125 v126 v127 wr => ∃ k : Nat, k + g = s.ms.length ∧ v5 = .int .i64 k ∧ BoxG 27 w w.heap.size s wr ∧ BoxG 44 w (w.heap.size + 1) s wr)
  case atStart => exact ⟨0, by omega, rfl, HW.out.2⟩
  case round =>
    obtain ⟨k, hk, rfl, hbx, hby⟩ := hrel
    have HX := Lib.hid (And.intro hbx hby)
    obtain ⟨_, A4, c4, B4, d4, hrow, hrd⟩ := hbx
    obtain ⟨_, A5, c5, B5, d5, hrow5, hrd5⟩ := hby
    have z0 := (nineT hrow).1
    have y0 := (nineT hrow5).1
    have HR := Lib.hid (And.intro hrd hrd5)
    clear hrow hrd hrow5 hrd5
    by_cases hlt : k < s.ms.length
    · have b1 : decide (k < s.ms.length) = true := decide_eq_true hlt
      obtain ⟨a4, rfl, q0, q1, q2⟩ := HR.out.1.ms.mem k hlt
      obtain ⟨a5, rfl, p0, p1, p2⟩ := HR.out.2.ms.mem k hlt
      go_upto_region 6 with fail
      go_region
      all_goals go_wp2_with fail
      all_goals go_roundg (gk - 1)
      all_goals first | omega | exact ⟨k + 1, by omega, by go_num, HX.out.1.drew, HX.out.2.drew⟩
    · have b1 : decide (k < s.ms.length) = false := decide_eq_false hlt
      clear hk
      go_wp2_with fail
      clear z0 y0
      go_loopg [4, 6, 128, 129, 130, 131, 132, 133, 134, 135, 136, 137, 138, 139, 140, 141, 142, 143, 144, 145] (s.fl.length) (fun g v4 v6 v128 v129 v130 v131 v132 v133 v134 v135 v136 v137 v138 v139 v140 v141 v142 v143 v144 v145 wr => ∃ k : Nat, k + g = s.fl.length ∧ v6 = .int .i64 k ∧ BoxG 27 w w.heap.size s wr ∧ BoxG 44 w (w.heap.size + 1) s wr)
      case atStart => exact ⟨0, by omega, rfl, HX.out⟩
      case round =>
        obtain ⟨j, hj, rfl, hbx, hby⟩ := hrel
        have HX2 := Lib.hid (And.intro hbx hby)
        obtain ⟨_, A6, c6, B6, d6, hrow, hrd⟩ := hbx
        obtain ⟨_, A7, c7, B7, d7, hrow5, hrd5⟩ := hby
        have z1 := (nineT hrow).2.1
        have y1 := (nineT hrow5).2.1
        have HR2 := Lib.hid (And.intro hrd hrd5)
        clear hrow hrd hrow5 hrd5
        by_cases hlt2 : j < s.fl.length
        · have b2 : decide (j < s.fl.length) = true := decide_eq_true hlt2
          obtain ⟨a6, rfl, q0⟩ := HR2.out.1.fl.int j hlt2
          obtain ⟨a7, rfl, p0⟩ := HR2.out.2.fl.int j hlt2
          go_upto_region 11 with fail
          go_region
          all_goals go_wp2_with fail
          all_goals go_roundg (gk - 1)
          all_goals first | omega | exact ⟨j + 1, by omega, by go_num, HX2.out.1.drew, HX2.out.2.drew⟩
        · have b2 : decide (j < s.fl.length) = false := decide_eq_false hlt2
          go_wp2_with fail
          go_ret
          exact ⟨rfl, HX2.out.1.lo⟩

theorem given_results (tmps : Array Value) (X : World) (bo : Nat) (r : St) (Mv Fv : Value) (h4 : tmps[2]?.getD undef = .pointer (some ⟨bo, 0, none⟩))
    (hb : X.heap[bo]? = some (.cells (cellsS r Mv Fv) 27 (0, 0))) :
    (results Try.f13 tmps).run Try.prog X = .ok (.agg (cellsS r Mv Fv)) X := by
  obtain ⟨z0, z1, z2, z3, z4, z5, z6, z7, z8⟩ := nine hb
  simp [results, Try.results13, go_sem, h4, z0, z1, z2, z3, z4, z5, z6, z7, z8]

structure GI (w : World) (s : St) (A : Option Addr) (c : Nat) (B : Option Addr) (d : Nat) (k : Nat) (W : World) : Prop where
  lo : Below w.heap.size w W
  sz : w.heap.size + 3 ≤ W.heap.size
  r0 : W.heap[w.heap.size]? = some (.cells (cellsS s (.slice A s.ms.length c) (.slice B s.fl.length d)) 44 (0, 0))
  r1 : W.heap[w.heap.size + 1]? = some (.cells zeroS 27 (0, 0))
  r2 : ∃ S e, W.heap[w.heap.size + 2]? = some (.cells (cellsS s (.slice S k e) (.slice B s.fl.length d)) 27 (0, 0)) ∧ Own encM 3 63 W (w.heap.size + 3) (.slice S k e) (s.ms.take k)

theorem given_calls (s : St) (A : Option Addr) (c : Nat) (B : Option Addr) (d : Nat) (w : World) (h : RdS w A B s) (hn : s.ms.length ≤ 1000000) :
    Calls Try.prog 13 #[s.v A c B d] w fun e w' => (∃ A' c', e = .returned (s.v A' c' B d) ∧ RdS w' A' B s) ∧ Below w.heap.size w w' := by
  obtain ⟨W, hW⟩ : ∃ W, ((w.alloc (.cells (cellsS s (.slice A s.ms.length c) (.slice B s.fl.length d)) 44)).alloc (.cells zeroS 27)).alloc (.cells (cellsS s (.slice none 0 0) (.slice B s.fl.length d)) 27) = W := ⟨_, rfl⟩
  have hb : Below w.heap.size w W := by
    rw [← hW]
    exact (((Below.refl _ _).alloc (Nat.le_refl _) _).alloc (by simp) _).alloc (by simp; omega) _
  have hsz : W.heap.size = w.heap.size + 3 := by rw [← hW]; simp
  have hb0 : W.heap[w.heap.size]? = some (.cells (cellsS s (.slice A s.ms.length c) (.slice B s.fl.length d)) 44 (0, 0)) := by
    rw [← hW, Below.heap_alloc _ _ _ (by simp; omega), Below.heap_alloc _ _ _ (by simp)]; exact heap_alloc_new w _
  have hb1 : W.heap[w.heap.size + 1]? = some (.cells zeroS 27 (0, 0)) := by
    rw [← hW, Below.heap_alloc _ _ _ (by simp)]
    have := heap_alloc_new (w.alloc (.cells (cellsS s (.slice A s.ms.length c) (.slice B s.fl.length d)) 44)) (.cells zeroS 27)
    simpa using this
  have hb2 : W.heap[w.heap.size + 2]? = some (.cells (cellsS s (.slice none 0 0) (.slice B s.fl.length d)) 27 (0, 0)) := by
    rw [← hW]
    have := heap_alloc_new ((w.alloc (.cells (cellsS s (.slice A s.ms.length c) (.slice B s.fl.length d)) 44)).alloc (.cells zeroS 27)) (.cells (cellsS s (.slice none 0 0) (.slice B s.fl.length d)) 27)
    simpa using this
  have hgi : GI w s A c B d 0 W := ⟨hb, by omega, hb0, hb1, none, 0, hb2, World.ownsRow_nil _ _ _ _⟩
  have HW := Lib.hid (And.intro hW (And.intro hgi (And.intro h hn)))
  have hl := h.ms.small
  clear hW hb hsz hb0 hb1 hb2 hgi h hn
  go_enter Try.func13, Try.ntmps13
  go_upto_region 2 with fail
  rw [HW.out.1]
  go_wp2_with fail
  go_loopg [4, 5, 27, 28, 29, 30, 31, 32, 33, 34, 35, 36, 37, 38, 39, 40, 41, 42, 43, 44, 45, 46, 47, 48, 49, 50] (s.ms.length) (fun g v4 v5 v27 v28 v29 v30 v31 v32 v33 v34 v35 v36 v37 v38 v39 v40 v41 v42 v43 v44 v45 v46 v47 v48 v49 v50 wr => ∃ k : Nat, k + g = s.ms.length ∧ v4 = .int .i64 k ∧ GI w s A c B d k wr)
  case atStart => exact ⟨0, by omega, rfl, HW.out.2.1⟩
  case round =>
    obtain ⟨k, hk, rfl, hgi⟩ := hrel
    have HG := Lib.hid hgi
    obtain ⟨hlo, hsz, hr0, hr1, S, e, hr2, hown⟩ := hgi
    have z0 := (nineT hr0).1
    by_cases hlt : k < s.ms.length
    · have b1 : decide (k < s.ms.length) = true := decide_eq_true hlt
      obtain ⟨a, ha, q0, q1, q2⟩ := (HW.out.2.2.1.below hlo).ms.mem k hlt
      subst ha
      obtain ⟨m, hm⟩ : ∃ m, s.ms[k] = m := ⟨_, rfl⟩
      rw [hm] at q0 q1 q2
      have hst : s.ms.take (k + 1) = s.ms.take k ++ [m] := by rw [List.take_succ_eq_append_getElem hlt, hm]
      obtain ⟨V, hV⟩ : ∃ V, wr.alloc (.cells #[.bool m.act, .int .i64 m.sent, .int .i64 m.recv] 79) = V := ⟨_, rfl⟩
      have hVb : Below wr.heap.size wr V := by rw [← hV]; exact (Below.refl _ _).alloc (Nat.le_refl _) _
      have hVr : V.heap[wr.heap.size]? = some (.cells #[.bool m.act, .int .i64 m.sent, .int .i64 m.recv] 79 (0, 0)) := by rw [← hV]; exact heap_alloc_new wr _
      have hVs : V.heap.size = wr.heap.size + 1 := by rw [← hV]; simp
      have c0 := cell_of_row _ _ 0 _ _ _ hVr
      have c1 := cell_of_row _ _ 1 _ _ _ hVr
      have c2 := cell_of_row _ _ 2 _ _ _ hVr
      simp at c0 c1 c2
      have hVr2 := (hVb.block _ (by omega)).trans hr2
      have x0 := (nine hVr2).1
      obtain ⟨V2, hV2⟩ : ∃ V2, V.alloc (.cells #[.bool m.act, .int .i64 m.sent, .int .i64 m.recv] 63) = V2 := ⟨_, rfl⟩
      have hV2b : Below V.heap.size V V2 := by rw [← hV2]; exact (Below.refl _ _).alloc (Nat.le_refl _) _
      have hV2r : V2.heap[V.heap.size]? = some (.cells #[.bool m.act, .int .i64 m.sent, .int .i64 m.recv] 63 (0, 0)) := by rw [← hV2]; exact heap_alloc_new V _
      have hVV : Below wr.heap.size wr V2 := hVb.trans (hV2b.mono hVb.size)
      have hrd : Rd encM 3 V2 (some ⟨V.heap.size, 0, none⟩) [m] := rd_row (enc := encM) (sz := 3) (xs := [m]) hV2r rfl (by simp)
      have hown2 : Own encM 3 63 V2 (w.heap.size + 3) (.slice S k e) (s.ms.take k) := own_rest hown hVV
      have hkl : (s.ms.take k).length = k := by simp; omega
      have hkl1 : (s.ms.take (k + 1)).length = k + 1 := by simp; omega
      have hbs := hVV.size
      have hnb : ∀ j, (Value.slice S k e).ownBlock = some j → w.heap.size + 3 ≤ j := fun j hj => (hown.blk j hj).1
      have hrow2 := (hV2b.block _ (by omega)).trans hVr2
      have HH := Lib.hid (And.intro hV (And.intro hV2 (And.intro hrd (And.intro hown2 (And.intro (show ((s.ms.take k).length + 1) * 24 ≤ 140737488355328 by have := HW.out.2.2.2; omega) (And.intro (show w.heap.size + 3 ≤ V2.heap.size by omega) hst))))))
      have HI := Lib.hid (And.intro hkl1 (And.intro hnb (And.intro hrow2 (And.intro hVV (show w.heap.size + 2 < V2.heap.size by omega)))))
      clear hr1 hr2 hown hm hst hV hVb hVr hVs hVr2 hV2 hV2b hV2r hVV hrd hown2 hkl hkl1 hbs hnb hrow2 hsz hlo hr0
      go_upto_region 6 with fail
      rw [HH.out.1]
      go_wp2_with (at_builtin; rw [HH.out.2.1]; refine wpList_append_typed lenM oneM V2 rfl (.tmp 40) (.tmp 48) 22 rfl (w.heap.size + 3) 63 (.agg #[.bool false, .int .i64 0, .int .i64 0]) 24 Try.underlying22 info63 rfl (by decide) (by decide) (.slice S k e) (s.ms.take k) rfl HH.out.2.2.2.1 ⟨V.heap.size, 0, none⟩ 1 1 [m] rfl rfl HH.out.2.2.1 HH.out.2.2.2.2.1 HH.out.2.2.2.2.2.1 ?_; rw [← HH.out.2.2.2.2.2.2]; intro v' w1 hown1 hgrow; obtain ⟨S2, e2, hv, _, _, hblk⟩ := hown1.form lenM; rw [HI.out.1] at hv; subst hv; have hrow3 := (hgrow.block (w.heap.size + 2) HI.out.2.2.2.2 (fun e => by have := HI.out.2.1 _ e.symm; omega)).trans HI.out.2.2.1; have t0 := (nine hrow3).1; have f0 := (nineF hrow3).1; have HO := Lib.hid (And.intro hown1 (And.intro hgrow hrow3)); clear hown1 hgrow hrow3 hblk)
      go_roundg (gk - 1)
      case measure => omega
      case rel =>
        have g1 : w1.grownBy (w1.setCell ⟨w.heap.size + 2, 0, none⟩ (.slice S2 (k + 1) e2)) (some (w.heap.size + 2)) := ⟨rfl, rfl, rfl, by simp, fun i _ hi => heap_setCell_other w1 ⟨w.heap.size + 2, 0, none⟩ i _ (fun e => hi (by simp [e]))⟩
        have hw1 : Below w.heap.size w w1 := (HG.out.lo.trans (HI.out.2.2.2.1.mono HG.out.lo.size)).grown HO.out.2.1 (by have := HI.out.2.2.2.2; omega) (fun j hj => by have := HI.out.2.1 j hj; omega)
        have keep : ∀ i, i < w.heap.size + 2 → (w1.setCell ⟨w.heap.size + 2, 0, none⟩ (.slice S2 (k + 1) e2)).heap[i]? = wr.heap[i]? := fun i hi => by
          rw [heap_setCell_other w1 ⟨w.heap.size + 2, 0, none⟩ i _ (by show i ≠ w.heap.size + 2; omega), HO.out.2.1.block i (by have := HI.out.2.2.2.2; omega) (fun e => by have := HI.out.2.1 _ e.symm; omega)]
          exact HI.out.2.2.2.1.block i (by have := HG.out.sz; omega)
        refine ⟨k + 1, by omega, by go_num, ⟨hw1.setCell (p := ⟨w.heap.size + 2, 0, none⟩) (by show w.heap.size ≤ w.heap.size + 2; omega) _, ?_, (keep _ (by omega)).trans HG.out.r0, (keep _ (by omega)).trans HG.out.r1, S2, e2, ?_, ?_⟩⟩
        · have := HO.out.2.1.size; have := HI.out.2.2.2.1.size; have := HG.out.sz; simp [World.setCell]; omega
        · rw [heap_setCell_same w1 (w.heap.size + 2) 0 _ _ _ HO.out.2.2]; simp [cellsS]
        · refine HO.out.1.grown g1 (.inr ?_)
          intro e
          have := (HO.out.1.blk _ e).1
          omega
    · have b1 : decide (k < s.ms.length) = false := decide_eq_false hlt
      obtain rfl : k = s.ms.length := by omega
      rw [List.take_length] at hown
      have hr1' : wr.heap[w.heap.size + 1]? = some (.cells (cellsS St.zero (.slice none 0 0) (.slice none 0 0)) 27 (0, 0)) := hr1
      obtain ⟨x0, x1, x2, x3, x4, x5, x6, x7, x8⟩ := nine hr2
      obtain ⟨y0, y1, y2, y3, y4, y5, y6, y7, y8⟩ := nine hr1'
      obtain ⟨f0, f1, f2, f3, f4, f5, f6, f7, f8⟩ := nineF hr1'
      have q0 := filled (s0 := St.zero) (M0 := .slice none 0 0) (F0 := .slice none 0 0) (.slice S s.ms.length e) (.slice B s.fl.length d) (.int .i64 s.wn) (.int .i64 s.ws) (.int .i64 s.wr) (.int .i64 s.ls) (.int .i64 s.lr) (.int .i64 s.wv) (.bool s.told) hr1
      have q1 := fill_kx w.heap.size (w.heap.size + 1) (by omega) wr (.slice S s.ms.length e) (.slice B s.fl.length d) (.int .i64 s.wn) (.int .i64 s.ws) (.int .i64 s.wr) (.int .i64 s.ls) (.int .i64 s.lr) (.int .i64 s.wv) (.bool s.told)
      have q2 := filled_other (w := wr) (bo := w.heap.size + 1) (.slice S s.ms.length e) (.slice B s.fl.length d) (.int .i64 s.wn) (.int .i64 s.ws) (.int .i64 s.wr) (.int .i64 s.ls) (.int .i64 s.lr) (.int .i64 s.wv) (.bool s.told)
      obtain ⟨Z, hZ⟩ : ∃ Z, fill9 wr (w.heap.size + 1) s S e B d = Z := ⟨_, rfl⟩
      unfold fill9 at hZ
      rw [hZ] at q0 q1 q2
      have HQ := Lib.hid (And.intro hZ (And.intro q0 (And.intro q1 q2)))
      have HO := Lib.hid (And.intro hown (And.intro hsz hlo))
      clear hr1 hr1' hr2 hr0 hown q0 q1 q2 hZ hsz hlo hk
      go_wp2_with fail
      rw [HQ.out.1]
      refine bodyPost_ret (given_results _ Z _ s _ _ rfl HQ.out.2.1) rfl ?_
      have k1 := HQ.out.2.2.1.1
      obtain ⟨A9, c9, hv, hr9⟩ := HO.out.1.rd lenM
      obtain ⟨rfl, _, _⟩ := Value.slice.inj hv
      refine ⟨⟨S, e, rfl, ?_, ?_⟩, HO.out.2.2.trans ⟨k1.os, k1.tape, k1.output, k1.size, k1.low⟩⟩
      · exact hr9.keep (fun a ha => HQ.out.2.2.2 _ (by have := (HO.out.1.blk a.block (by rw [ha]; rfl)).1; omega))
      · exact HW.out.2.2.1.fl.below (HO.out.2.2.trans ⟨k1.os, k1.tape, k1.output, k1.size, k1.low⟩)
end Go.Proofs.Ythpcipfloofbcaa
