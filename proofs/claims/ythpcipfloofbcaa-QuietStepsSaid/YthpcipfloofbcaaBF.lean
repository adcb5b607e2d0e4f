import Derived.Test.YthpcipfloofbcaaBE
import Derived.Deep.DeepCutAuto
namespace Go.Proofs.Ythpcipfloofbcaa
open Go.RowKit
set_option maxHeartbeats 8000000
set_option maxRecDepth 100000
set_option linter.unusedSimpArgs false
set_option linter.unusedVariables false

def askR (s : St) : St × Int := match askF s with | .ok s' => (s', 0) | .error k => (St.zero, k)
/-- a state handed back: by the argument's own slices, or the empty one -/
def APost (A : Option Addr) (c : Nat) (B : Option Addr) (d : Nat) (w : World) (r : St × Int) (e : Ending) (w' : World) : Prop := ∃ A' c' B' d', e = .returned (.tuple #[r.1.v A' c' B' d', .int .i64 r.2]) ∧ RdS w' A' B' r.1 ∧ Below w.heap.size w w' ∧ ((A' = A ∧ B' = B) ∨ (A' = none ∧ B' = none))

theorem ask_results (tmps : Array Value) (X : World) (bo : Nat) (r : St) (Mv Fv : Value) (k : Int) (h4 : tmps[2]?.getD undef = .pointer (some ⟨bo, 0, none⟩)) (h5 : tmps[3]?.getD undef = .int .i64 k)
    (hb : X.heap[bo]? = some (.cells (cellsS r Mv Fv) 44 (0, 0))) :
    (results Try.f37 tmps).run Try.prog X = .ok (.tuple #[.agg (cellsS r Mv Fv), .int .i64 k]) X := by
  obtain ⟨z0, z1, z2, z3, z4, z5, z6, z7, z8⟩ := nineT hb
  simp [results, Try.results37, go_sem, h4, h5, z0, z1, z2, z3, z4, z5, z6, z7, z8]

structure AI (w : World) (s : St) (A : Option Addr) (c : Nat) (B : Option Addr) (d : Nat) (W : World) : Prop where
  lo : Below w.heap.size w W
  r0 : W.heap[w.heap.size]? = some (.cells (cellsS s (.slice A s.ms.length c) (.slice B s.fl.length d)) 44 (0, 0))
  r1 : W.heap[w.heap.size + 1]? = some (.cells zeroS 44 (0, 0))
theorem AI.below {w W W' : World} {s : St} {A : Option Addr} {c : Nat} {B : Option Addr} {d : Nat} (h : AI w s A c B d W) (hb : Below W.heap.size W W') : AI w s A c B d W' :=
  ⟨h.lo.trans (hb.mono h.lo.size), (hb.block _ (Array.getElem?_eq_some_iff.1 h.r0).1).trans h.r0, (hb.block _ (Array.getElem?_eq_some_iff.1 h.r1).1).trans h.r1⟩
theorem AI.set {w W : World} {s s2 : St} {A : Option Addr} {c : Nat} {B : Option Addr} {d : Nat} (h : AI w s A c B d W) (j : Nat) (v : Value) (hc : (cellsS s (.slice A s.ms.length c) (.slice B s.fl.length d)).setIfInBounds j v = cellsS s2 (.slice A s2.ms.length c) (.slice B s2.fl.length d)) : AI w s2 A c B d (W.setCell ⟨w.heap.size, j, none⟩ v) :=
  ⟨h.lo.setCell (p := ⟨w.heap.size, j, none⟩) (Nat.le_refl _) _, by rw [heap_setCell_same W w.heap.size j _ _ _ h.r0]; rw [← hc]; try rfl, by rw [heap_setCell_other W ⟨w.heap.size, j, none⟩ _ _ (by show w.heap.size + 1 ≠ w.heap.size; omega)]; exact h.r1⟩

/-- the error's end -/
theorem ask_fail {w Y Z : World} {s : St} {A : Option Addr} {c : Nat} {B : Option Addr} {d : Nat} (h : AI w s A c B d Y)
    (hZ : (((((((((Y.setCell ⟨w.heap.size + 1, 0, none⟩ (.slice none 0 0)).setCell ⟨w.heap.size + 1, 1, none⟩ (.slice none 0 0)).setCell ⟨w.heap.size + 1, 2, none⟩ (.int .i64 0)).setCell ⟨w.heap.size + 1, 3, none⟩ (.int .i64 0)).setCell ⟨w.heap.size + 1, 4, none⟩ (.int .i64 0)).setCell ⟨w.heap.size + 1, 5, none⟩ (.int .i64 0)).setCell ⟨w.heap.size + 1, 6, none⟩ (.int .i64 0)).setCell ⟨w.heap.size + 1, 7, none⟩ (.int .i64 0)).setCell ⟨w.heap.size + 1, 8, none⟩ (.bool false)) = Z) :
    Z.heap[w.heap.size + 1]? = some (.cells (cellsS St.zero (.slice none 0 0) (.slice none 0 0)) 44 (0, 0)) ∧ Below w.heap.size w Z := by
  have q0 := filledT (s0 := St.zero) (M0 := .slice none 0 0) (F0 := .slice none 0 0) (.slice none 0 0) (.slice none 0 0) (.int .i64 0) (.int .i64 0) (.int .i64 0) (.int .i64 0) (.int .i64 0) (.int .i64 0) (.bool false) h.r1
  have q3 := filled_below w.heap.size Y (w.heap.size + 1) (by omega) (.slice none 0 0) (.slice none 0 0) (.int .i64 0) (.int .i64 0) (.int .i64 0) (.int .i64 0) (.int .i64 0) (.int .i64 0) (.bool false)
  rw [hZ] at q0 q3
  exact ⟨q0, h.lo.trans q3.1⟩
theorem ask_done {w Y Z : World} {s : St} {A : Option Addr} {c : Nat} {B : Option Addr} {d : Nat} (h : AI w s A c B d Y) (hZ : fill9 Y (w.heap.size + 1) s A c B d = Z) :
    Z.heap[w.heap.size + 1]? = some (.cells (cellsS s (.slice A s.ms.length c) (.slice B s.fl.length d)) 44 (0, 0)) ∧ Below w.heap.size w Z := by
  unfold fill9 at hZ
  have q0 := filledT (s0 := St.zero) (M0 := .slice none 0 0) (F0 := .slice none 0 0) (.slice A s.ms.length c) (.slice B s.fl.length d) (.int .i64 s.wn) (.int .i64 s.ws) (.int .i64 s.wr) (.int .i64 s.ls) (.int .i64 s.lr) (.int .i64 s.wv) (.bool s.told) h.r1
  have q3 := filled_below w.heap.size Y (w.heap.size + 1) (by omega) (.slice A s.ms.length c) (.slice B s.fl.length d) (.int .i64 s.wn) (.int .i64 s.ws) (.int .i64 s.wr) (.int .i64 s.ls) (.int .i64 s.lr) (.int .i64 s.wv) (.bool s.told)
  rw [hZ] at q0 q3
  exact ⟨q0, h.lo.trans q3.1⟩
theorem AI.zero {w Y : World} {s : St} {A : Option Addr} {c : Nat} {B : Option Addr} {d : Nat} (h : AI w s A c B d Y) : Y.heap[w.heap.size + 1]? = some (.cells (cellsS St.zero (.slice none 0 0) (.slice none 0 0)) 44 (0, 0)) := h.r1

theorem rask_calls (s : St) (A : Option Addr) (c : Nat) (B : Option Addr) (d : Nat) (w : World) (h : RdS w A B s) (hf : Fine s) :
    Calls Try.prog 37 #[s.v A c B d] w (APost A c B d w (askR s)) := by
  obtain ⟨W, hW⟩ : ∃ W, (w.alloc (.cells (cellsS s (.slice A s.ms.length c) (.slice B s.fl.length d)) 44)).alloc (.cells zeroS 44) = W := ⟨_, rfl⟩
  have hb : Below w.heap.size w W := by
    rw [← hW]
    exact ((Below.refl _ _).alloc (Nat.le_refl _) _).alloc (by simp) _
  have hb0 : W.heap[w.heap.size]? = some (.cells (cellsS s (.slice A s.ms.length c) (.slice B s.fl.length d)) 44 (0, 0)) := by
    rw [← hW, Below.heap_alloc _ _ _ (by simp)]; exact heap_alloc_new w _
  have hb1 : W.heap[w.heap.size + 1]? = some (.cells zeroS 44 (0, 0)) := by
    rw [← hW]
    have := heap_alloc_new (w.alloc (.cells (cellsS s (.slice A s.ms.length c) (.slice B s.fl.length d)) 44)) (.cells zeroS 44)
    simpa using this
  have hw0 := hf.wn.1
  have hw1 := hf.wn.2
  have hai : AI w s A c B d W := ⟨hb, hb0, hb1⟩
  obtain ⟨x, hx⟩ : ∃ x, s.ms[s.wn.toNat]'(by omega) = x := ⟨_, rfl⟩
  have hat : s.at s.wn = some x := by unfold St.at; rw [if_pos hw0, List.getElem?_eq_getElem (by omega), hx]
  obtain ⟨a, ha, q0, q1, q2⟩ := (h.ms.below hb).mem s.wn.toNat (by omega)
  rw [hx] at q0 q1 q2
  obtain ⟨V, hV⟩ : ∃ V, W.alloc (.cells #[.bool x.act, .int .i64 x.sent, .int .i64 x.recv] 79) = V := ⟨_, rfl⟩
  have hVb : Below W.heap.size W V := by rw [← hV]; exact (Below.refl _ _).alloc (Nat.le_refl _) _
  have hVr : V.heap[W.heap.size]? = some (.cells #[.bool x.act, .int .i64 x.sent, .int .i64 x.recv] 79 (0, 0)) := by rw [← hV]; exact heap_alloc_new W _
  have c0 := cell_of_row _ _ 0 _ _ _ hVr
  have c1 := cell_of_row _ _ 1 _ _ _ hVr
  have c2 := cell_of_row _ _ 2 _ _ _ hVr
  simp at c0 c1 c2
  have haV := hai.below hVb
  have hmem := hf.mem x (by rw [← hx]; exact List.getElem_mem _)
  obtain ⟨z0, z1, z2, z3, z4, z5, z6, z7, z8⟩ := nineT hb0
  obtain ⟨y0, y1, y2, y3, y4, y5, y6, y7, y8⟩ := nineT haV.r0
  have HW := Lib.hid (And.intro hW (And.intro hV (And.intro haV (And.intro h (And.intro hf (And.intro hat (And.intro hmem hVr)))))))
  subst ha
  clear hW hV haV h hat hb hb0 hb1 hai hx hVb hVr
  have hfws := hf.ws
  have hfwv := hf.wv
  have hfls := hf.n1
  clear hf
  cases hact : x.act with
  | true =>
    rw [hact] at c0
    have hr : askR s = (St.zero, 11) := by unfold askR askF; simp only [HW.out.2.2.2.2.2.1, hact, if_true]
    rw [hr]
    obtain ⟨p0, p1, p2, p3, p4, p5, p6, p7, p8⟩ := nineT HW.out.2.2.1.zero
    obtain ⟨f0, f1, f2, f3, f4, f5, f6, f7, f8⟩ := nineFT HW.out.2.2.1.zero
    have HA := Lib.hid hact
    clear hr hact
    go_enter Try.func37, Try.ntmps37
    go_upto_region 1 with fail
    rw [HW.out.1]
    go_upto_region 2 with fail
    rw [HW.out.2.1]
    go_wp2_with fail
    obtain ⟨Z, hZ⟩ : ∃ Z, (((((((((V.setCell ⟨w.heap.size + 1, 0, none⟩ (.slice none 0 0)).setCell ⟨w.heap.size + 1, 1, none⟩ (.slice none 0 0)).setCell ⟨w.heap.size + 1, 2, none⟩ (.int .i64 0)).setCell ⟨w.heap.size + 1, 3, none⟩ (.int .i64 0)).setCell ⟨w.heap.size + 1, 4, none⟩ (.int .i64 0)).setCell ⟨w.heap.size + 1, 5, none⟩ (.int .i64 0)).setCell ⟨w.heap.size + 1, 6, none⟩ (.int .i64 0)).setCell ⟨w.heap.size + 1, 7, none⟩ (.int .i64 0)).setCell ⟨w.heap.size + 1, 8, none⟩ (.bool false)) = Z := ⟨_, rfl⟩
    rw [hZ]
    obtain ⟨e1, e2⟩ := ask_fail HW.out.2.2.1 hZ
    refine bodyPost_ret (ask_results _ Z _ St.zero _ _ 11 rfl rfl e1) rfl ?_
    exact ⟨none, 0, none, 0, rfl, RdS.zero _, e2, .inr ⟨rfl, rfl⟩⟩
  | false =>
    rw [hact] at c0
    have HA := Lib.hid hact
    obtain ⟨m1, m2, m3, m4⟩ := HW.out.2.2.2.2.2.2.1
    obtain ⟨n1, n2, n3, n4⟩ := hfws
    obtain ⟨v1, v2⟩ := hfwv
    clear hact
    go_enter Try.func37, Try.ntmps37
    go_upto_region 1 with fail
    rw [HW.out.1]
    go_upto_region 2 with fail
    rw [HW.out.2.1]
    go_upto_region 4 with fail
    go_cut [36] (fun s36 wx => s36 = .bool (!(decide (s.wv < 1000000) && decide (s.ws + x.sent ≤ 10000000) && decide (s.wr + x.recv ≤ 10000000))) ∧ V = wx)
    case first =>
      by_cases h1 : s.wv = 1000000
      · have b1 : (s.wv == 1000000) = true := by rw [h1]; rfl
        have H1 := Lib.hid h1
        clear h1
        go_wp2_with fail
        go_meet
        exact ⟨by have := H1.out; simp; omega, rfl⟩
      · have b1 : (s.wv == 1000000) = false := by rw [beq_eq_false_iff_ne]; exact h1
        have H1 := Lib.hid h1
        clear h1
        by_cases h2 : s.ws + x.sent ≤ 10000000
        · have b2 : decide (10000000 < s.ws + x.sent) = false := decide_eq_false (by omega)
          have H2 := Lib.hid h2
          clear h2
          by_cases h3 : s.wr + x.recv ≤ 10000000
          · have b3 : decide (10000000 < s.wr + x.recv) = false := decide_eq_false (by omega)
            have H3 := Lib.hid h3
            clear h3
            go_wp2_with fail
            go_meet
            exact ⟨by have := H1.out; have := H2.out; have := H3.out; simp; omega, rfl⟩
          · have b3 : decide (10000000 < s.wr + x.recv) = true := decide_eq_true (by omega)
            have H3 := Lib.hid h3
            clear h3
            go_wp2_with fail
            go_meet
            exact ⟨by have := H3.out; simp; omega, rfl⟩
        · have b2 : decide (10000000 < s.ws + x.sent) = true := decide_eq_true (by omega)
          have H2 := Lib.hid h2
          clear h2
          go_wp2_with fail
          go_meet
          exact ⟨by have := H2.out; simp; omega, rfl⟩
    case rest =>
      obtain ⟨rfl, rfl⟩ := hcut
      cases hd : (decide (s.wv < 1000000) && decide (s.ws + x.sent ≤ 10000000) && decide (s.wr + x.recv ≤ 10000000)) with
      | false =>
        have hr : askR s = (St.zero, 5) := by
          unfold askR askF; simp only [HW.out.2.2.2.2.2.1, HA.out, Bool.false_eq_true, if_false]
          rw [if_neg (fun hh => by rw [decide_eq_true hh.1, decide_eq_true hh.2.1, decide_eq_true hh.2.2] at hd; simp at hd)]
        have HRr := Lib.hid hr
        obtain ⟨p0, p1, p2, p3, p4, p5, p6, p7, p8⟩ := nineT HW.out.2.2.1.zero
        obtain ⟨f0, f1, f2, f3, f4, f5, f6, f7, f8⟩ := nineFT HW.out.2.2.1.zero
        clear hr hd
        go_wp2_with fail
        obtain ⟨Z, hZ⟩ : ∃ Z, (((((((((V.setCell ⟨w.heap.size + 1, 0, none⟩ (.slice none 0 0)).setCell ⟨w.heap.size + 1, 1, none⟩ (.slice none 0 0)).setCell ⟨w.heap.size + 1, 2, none⟩ (.int .i64 0)).setCell ⟨w.heap.size + 1, 3, none⟩ (.int .i64 0)).setCell ⟨w.heap.size + 1, 4, none⟩ (.int .i64 0)).setCell ⟨w.heap.size + 1, 5, none⟩ (.int .i64 0)).setCell ⟨w.heap.size + 1, 6, none⟩ (.int .i64 0)).setCell ⟨w.heap.size + 1, 7, none⟩ (.int .i64 0)).setCell ⟨w.heap.size + 1, 8, none⟩ (.bool false)) = Z := ⟨_, rfl⟩
        rw [hZ]
        obtain ⟨e1, e2⟩ := ask_fail HW.out.2.2.1 hZ
        refine bodyPost_ret (ask_results _ Z _ St.zero _ _ 5 rfl rfl e1) rfl ?_
        rw [HRr.out]
        exact ⟨none, 0, none, 0, rfl, RdS.zero _, e2, .inr ⟨rfl, rfl⟩⟩
      | true =>
        simp only [Bool.and_eq_true, decide_eq_true_eq] at hd
        obtain ⟨⟨d1, d2⟩, d3⟩ := hd
        have hai := ((HW.out.2.2.1.set (s2 := { s with wn := s.wn + 1 }) 2 (.int .i64 (s.wn + 1)) (by simp [cellsS])).set (s2 := { s with wn := s.wn + 1, ws := s.ws + x.sent }) 3 (.int .i64 (s.ws + x.sent)) (by simp [cellsS])).set (s2 := { s with wn := s.wn + 1, ws := s.ws + x.sent, wr := s.wr + x.recv }) 4 (.int .i64 (s.wr + x.recv)) (by simp [cellsS])
        obtain ⟨Y, hY⟩ : ∃ Y, (((V.setCell ⟨w.heap.size, 2, none⟩ (.int .i64 (s.wn + 1))).setCell ⟨w.heap.size, 3, none⟩ (.int .i64 (s.ws + x.sent))).setCell ⟨w.heap.size, 4, none⟩ (.int .i64 (s.wr + x.recv))) = Y := ⟨_, rfl⟩
        rw [hY] at hai
        have HY := Lib.hid (And.intro hY hai)
        have HD := Lib.hid (And.intro d1 (And.intro d2 d3))
        obtain ⟨f0, f1, f2, f3, f4, f5, f6, f7, f8⟩ := nineFT HW.out.2.2.1.r0
        clear hY hai
        go_upto_region 7 with fail
        rw [HY.out.1]
        clear z0 z1 z2 z3 z4 z5 z6 z7 z8 y0 y1 y2 y3 y4 y5 y6 y7 y8 f0 f1 f2 f3 f4 f5 f6 f7 f8 q0 q1 q2 c0 c1 c2
        by_cases hl : s.wn + 1 < (s.ms.length : Int)
        · have hr : askR s = (({ s with wn := s.wn + 1, ws := s.ws + x.sent, wr := s.wr + x.recv } : St), 0) := by
            unfold askR askF; simp only [HW.out.2.2.2.2.2.1, HA.out, Bool.false_eq_true, if_false]
            rw [if_pos ⟨HD.out.1, HD.out.2.1, HD.out.2.2⟩, if_pos hl]
          have HRr := Lib.hid hr
          have b1 : (s.wn + 1 == (s.ms.length : Int)) = false := by rw [beq_eq_false_iff_ne]; omega
          clear hr
          obtain ⟨z0, z1, z2, z3, z4, z5, z6, z7, z8⟩ := nineT HY.out.2.r0
          obtain ⟨y0, y1, y2, y3, y4, y5, y6, y7, y8⟩ := nineT HY.out.2.zero
          obtain ⟨f0, f1, f2, f3, f4, f5, f6, f7, f8⟩ := nineFT HY.out.2.zero
          obtain ⟨Z, hZ⟩ : ∃ Z, fill9 Y (w.heap.size + 1) ({ s with wn := s.wn + 1, ws := s.ws + x.sent, wr := s.wr + x.recv } : St) (some a) c B d = Z := ⟨_, rfl⟩
          have hdn := ask_done HY.out.2 hZ
          unfold fill9 at hZ
          have HZ := Lib.hid (And.intro hZ hdn)
          clear hZ hdn
          go_wp2_with fail
          rw [HZ.out.1]
          refine bodyPost_ret (ask_results _ Z _ ({ s with wn := s.wn + 1, ws := s.ws + x.sent, wr := s.wr + x.recv } : St) _ _ 0 rfl rfl HZ.out.2.1) rfl ?_
          rw [HRr.out]
          exact ⟨some a, c, B, d, rfl, ⟨HW.out.2.2.2.1.ms.below HZ.out.2.2, HW.out.2.2.2.1.fl.below HZ.out.2.2⟩, HZ.out.2.2, .inl ⟨rfl, rfl⟩⟩
        · have b1 : (s.wn + 1 == (s.ms.length : Int)) = true := by rw [beq_iff_eq]; omega
          have HLL := Lib.hid hl
          clear hl
          obtain ⟨Y2, hY2⟩ : ∃ Y2, Y.alloc (.cells #[.int .i64 (s.wn + 1), .int .i64 (s.ws + x.sent), .int .i64 (s.wr + x.recv)] 42) = Y2 := ⟨_, rfl⟩
          have hYb : Below Y.heap.size Y Y2 := by rw [← hY2]; exact (Below.refl _ _).alloc (Nat.le_refl _) _
          have hYr : Y2.heap[Y.heap.size]? = some (.cells #[.int .i64 (s.wn + 1), .int .i64 (s.ws + x.sent), .int .i64 (s.wr + x.recv)] 42 (0, 0)) := by rw [← hY2]; exact heap_alloc_new Y _
          have c0 := cell_of_row _ _ 0 _ _ _ hYr
          have c1 := cell_of_row _ _ 1 _ _ _ hYr
          have c2 := cell_of_row _ _ 2 _ _ _ hYr
          simp at c0 c1 c2
          have hai2 := HY.out.2.below hYb
          have HY2 := Lib.hid (And.intro hY2 (And.intro hai2 (And.intro hYr (show w.heap.size + 1 < Y.heap.size from (Array.getElem?_eq_some_iff.1 HY.out.2.r1).1))))
          obtain ⟨z0, z1, z2, z3, z4, z5, z6, z7, z8⟩ := nineT HY.out.2.r0
          obtain ⟨y0, y1, y2, y3, y4, y5, y6, y7, y8⟩ := nineT hai2.r0
          clear hY2 hYb hYr hai2
          go_upto_region 8 with fail
          go_upto_region 9 with fail
          rw [HY2.out.1]
          clear z0 z1 z2 z3 z4 z5 z6 z7 z8
          go_cut [83] (fun s83 wx => s83 = .bool ((s.ws + x.sent == s.ls) && (s.wr + x.recv == s.lr) && (s.ws + x.sent == s.wr + x.recv)) ∧ Y2 = wx)
          case first =>
            cases h1 : (s.ws + x.sent == s.ls) with
            | false =>
              go_wp2_with fail
              go_meet
              exact ⟨by simp [*], rfl⟩
            | true =>
              cases h2 : (s.wr + x.recv == s.lr) with
              | false =>
                go_wp2_with fail
                go_meet
                exact ⟨by simp [*], rfl⟩
              | true =>
                go_wp2_with fail
                go_meet
                exact ⟨by simp [*], rfl⟩
          case rest =>
            obtain ⟨rfl, rfl⟩ := hcut
            have hT : ((s.ws + x.sent == s.ls) && (s.wr + x.recv == s.lr) && (s.ws + x.sent == s.wr + x.recv)) = (decide (s.ws + x.sent = s.wr + x.recv) && decide (s.ws + x.sent = s.ls) && decide (s.wr + x.recv = s.lr)) := by
              rw [Bool.eq_iff_iff]
              simp only [Bool.and_eq_true, beq_iff_eq, decide_eq_true_eq]
              constructor
              · rintro ⟨⟨h1, h2⟩, h3⟩; exact ⟨⟨by omega, by omega⟩, by omega⟩
              · rintro ⟨⟨h1, h2⟩, h3⟩; exact ⟨⟨by omega, by omega⟩, by omega⟩
            have HT := Lib.hid hT
            clear hT
            generalize ((s.ws + x.sent == s.ls) && (s.wr + x.recv == s.lr) && (s.ws + x.sent == s.wr + x.recv)) = T at *
            obtain ⟨f0, f1, f2, f3, f4, f5, f6, f7, f8⟩ := nineFT HY2.out.2.1.r0
            go_upto_if 83 with fail
            go_cut [83] (fun s83 wx => AI w { s with wn := s.wn + 1, ws := s.ws + x.sent, wr := s.wr + x.recv, told := T || s.told } (some a) c B d wx ∧ wx.heap[Y.heap.size]? = some (.cells #[.int .i64 (s.wn + 1), .int .i64 (s.ws + x.sent), .int .i64 (s.wr + x.recv)] 42 (0, 0)))
            case first =>
              cases T with
              | false =>
                go_wp2_with fail
                go_meet
                exact ⟨HY2.out.2.1, HY2.out.2.2.1⟩
              | true =>
                go_wp2_with fail
                go_meet
                exact ⟨HY2.out.2.1.set 8 (.bool true) (by simp [cellsS]), by rw [heap_setCell_other Y2 ⟨w.heap.size, 8, none⟩ _ _ (by show Y.heap.size ≠ w.heap.size; have := HY2.out.2.2.2; omega)]; exact HY2.out.2.2.1⟩
            case rest =>
              have HC := Lib.hid hcut
              obtain ⟨hcai, hcr⟩ := hcut
              have c0 := cell_of_row _ _ 0 _ _ _ hcr
              have c1 := cell_of_row _ _ 1 _ _ _ hcr
              have c2 := cell_of_row _ _ 2 _ _ _ hcr
              simp at c0 c1 c2
              clear y0 y1 y2 y3 y4 y5 y6 y7 y8 f0 f1 f2 f3 f4 f5 f6 f7 f8
              obtain ⟨z0, z1, z2, z3, z4, z5, z6, z7, z8⟩ := nineT hcai.r0
              obtain ⟨f0, f1, f2, f3, f4, f5, f6, f7, f8⟩ := nineFT hcai.r0
              clear hcai hcr
              go_upto_region 11 with fail
              go_cut [85] (fun s85 wx => AI w ({ s with wn := s.wn + 1, ws := s.ws + x.sent, wr := s.wr + x.recv, told := T || s.told, ls := s.ws + x.sent, lr := s.wr + x.recv } : St) (some a) c B d wx)
              case first =>
                go_region
                all_goals (go_wp2_with fail; go_meet; exact ((HC.out.1.below ((Below.refl _ _).drew)).set 5 (.int .i64 (s.ws + x.sent)) (s2 := { s with wn := s.wn + 1, ws := s.ws + x.sent, wr := s.wr + x.recv, told := T || s.told, ls := s.ws + x.sent }) (by simp [cellsS])).set 6 (.int .i64 (s.wr + x.recv)) (by simp [cellsS]))
              case rest =>
                have HC2 := Lib.hid hcut
                clear z0 z1 z2 z3 z4 z5 z6 z7 z8 f0 f1 f2 f3 f4 f5 f6 f7 f8 c0 c1 c2
                obtain ⟨z0, z1, z2, z3, z4, z5, z6, z7, z8⟩ := nineT hcut.r0
                obtain ⟨f0, f1, f2, f3, f4, f5, f6, f7, f8⟩ := nineFT hcut.r0
                clear hcut
                have hai := (((HC2.out.set (s2 := { s with wn := s.wn + 1, ws := s.ws + x.sent, wr := s.wr + x.recv, told := T || s.told, ls := s.ws + x.sent, lr := s.wr + x.recv, wv := s.wv + 1 }) 7 (.int .i64 (s.wv + 1)) (by simp [cellsS])).set (s2 := { s with wn := 0, ws := s.ws + x.sent, wr := s.wr + x.recv, told := T || s.told, ls := s.ws + x.sent, lr := s.wr + x.recv, wv := s.wv + 1 }) 2 (.int .i64 0) (by simp [cellsS])).set (s2 := { s with wn := 0, ws := 0, wr := s.wr + x.recv, told := T || s.told, ls := s.ws + x.sent, lr := s.wr + x.recv, wv := s.wv + 1 }) 3 (.int .i64 0) (by simp [cellsS])).set (s2 := ({ s with told := T || s.told, ls := s.ws + x.sent, lr := s.wr + x.recv, wv := s.wv + 1, wn := 0, ws := 0, wr := 0 } : St)) 4 (.int .i64 0) (by simp [cellsS])
                obtain ⟨Y5, hY5⟩ : ∃ Y5, ((((wc.setCell ⟨w.heap.size, 7, none⟩ (.int .i64 (s.wv + 1))).setCell ⟨w.heap.size, 2, none⟩ (.int .i64 0)).setCell ⟨w.heap.size, 3, none⟩ (.int .i64 0)).setCell ⟨w.heap.size, 4, none⟩ (.int .i64 0)) = Y5 := ⟨_, rfl⟩
                rw [hY5] at hai
                have hr : askR s = (({ s with told := T || s.told, ls := s.ws + x.sent, lr := s.wr + x.recv, wv := s.wv + 1, wn := 0, ws := 0, wr := 0 } : St), 0) := by
                  unfold askR askF; simp only [HW.out.2.2.2.2.2.1, HA.out, Bool.false_eq_true, if_false]
                  rw [if_pos ⟨HD.out.1, HD.out.2.1, HD.out.2.2⟩, if_neg HLL.out, HT.out]
                have HRr := Lib.hid hr
                have H5 := Lib.hid (And.intro hY5 hai)
                clear hY5 hai hr
                go_upto_region 14 with fail
                rw [H5.out.1]
                clear z0 z1 z2 z3 z4 z5 z6 z7 z8 f0 f1 f2 f3 f4 f5 f6 f7 f8
                obtain ⟨z0, z1, z2, z3, z4, z5, z6, z7, z8⟩ := nineT H5.out.2.r0
                obtain ⟨y0, y1, y2, y3, y4, y5, y6, y7, y8⟩ := nineT H5.out.2.zero
                obtain ⟨f0, f1, f2, f3, f4, f5, f6, f7, f8⟩ := nineFT H5.out.2.zero
                obtain ⟨Z, hZ⟩ : ∃ Z, fill9 Y5 (w.heap.size + 1) ({ s with told := T || s.told, ls := s.ws + x.sent, lr := s.wr + x.recv, wv := s.wv + 1, wn := 0, ws := 0, wr := 0 } : St) (some a) c B d = Z := ⟨_, rfl⟩
                have hdn := ask_done H5.out.2 hZ
                unfold fill9 at hZ
                have HZ := Lib.hid (And.intro hZ hdn)
                clear hZ hdn
                go_wp2_with fail
                rw [HZ.out.1]
                refine bodyPost_ret (ask_results _ Z _ ({ s with told := T || s.told, ls := s.ws + x.sent, lr := s.wr + x.recv, wv := s.wv + 1, wn := 0, ws := 0, wr := 0 } : St) _ _ 0 rfl rfl HZ.out.2.1) rfl ?_
                rw [HRr.out]
                exact ⟨some a, c, B, d, rfl, ⟨HW.out.2.2.2.1.ms.below HZ.out.2.2, HW.out.2.2.2.1.fl.below HZ.out.2.2⟩, HZ.out.2.2, .inl ⟨rfl, rfl⟩⟩
end Go.Proofs.Ythpcipfloofbcaa
