import Derived.Test.YthpcipfloofbcaaZ
import Derived.Deep.DeepCutAuto
namespace Go.Proofs.Ythpcipfloofbcaa
open Go.RowKit
set_option maxHeartbeats 4000000
set_option maxRecDepth 100000
set_option linter.unusedSimpArgs false
set_option linter.unusedVariables false

/-! the reference's functions, by the program's plain functions: its state reads as the program's does, but for the type's number -/
theorem info79 : (Try.prog.info? 79).map (fun i => (i.zero, i.size, i.bytes)) = some (some (.agg #[.bool false, .int .i64 0, .int .i64 0]), 3, 24) := by kernel_rfl

theorem nineT {W : World} {b : Nat} {t : TypeId} {s : St} {M F : Value} (h : W.heap[b]? = some (.cells (cellsS s M F) t (0, 0))) :
    W.cell? ⟨b, 0, none⟩ = some M ∧ W.cell? ⟨b, 1, none⟩ = some F ∧ W.cell? ⟨b, 2, none⟩ = some (.int .i64 s.wn) ∧ W.cell? ⟨b, 3, none⟩ = some (.int .i64 s.ws) ∧ W.cell? ⟨b, 4, none⟩ = some (.int .i64 s.wr) ∧ W.cell? ⟨b, 5, none⟩ = some (.int .i64 s.ls) ∧ W.cell? ⟨b, 6, none⟩ = some (.int .i64 s.lr) ∧ W.cell? ⟨b, 7, none⟩ = some (.int .i64 s.wv) ∧ W.cell? ⟨b, 8, none⟩ = some (.bool s.told) := by
  have hz := fun j => cell_of_row _ b j _ _ _ h
  have z0 := hz 0
  have z1 := hz 1
  have z2 := hz 2
  have z3 := hz 3
  have z4 := hz 4
  have z5 := hz 5
  have z6 := hz 6
  have z7 := hz 7
  have z8 := hz 8
  simp [cellsS] at z0 z1 z2 z3 z4 z5 z6 z7 z8
  exact ⟨z0, z1, z2, z3, z4, z5, z6, z7, z8⟩
theorem nineFT {W : World} {b : Nat} {t : TypeId} {s : St} {M F : Value} (h : W.heap[b]? = some (.cells (cellsS s M F) t (0, 0))) :
    W.frozen? ⟨b, 0, none⟩ = false ∧ W.frozen? ⟨b, 1, none⟩ = false ∧ W.frozen? ⟨b, 2, none⟩ = false ∧ W.frozen? ⟨b, 3, none⟩ = false ∧ W.frozen? ⟨b, 4, none⟩ = false ∧ W.frozen? ⟨b, 5, none⟩ = false ∧ W.frozen? ⟨b, 6, none⟩ = false ∧ W.frozen? ⟨b, 7, none⟩ = false ∧ W.frozen? ⟨b, 8, none⟩ = false :=
  ⟨frozen_of_row _ b 0 _ _ h, frozen_of_row _ b 1 _ _ h, frozen_of_row _ b 2 _ _ h, frozen_of_row _ b 3 _ _ h, frozen_of_row _ b 4 _ _ h, frozen_of_row _ b 5 _ _ h, frozen_of_row _ b 6 _ _ h, frozen_of_row _ b 7 _ _ h, frozen_of_row _ b 8 _ _ h⟩
theorem filledT {w : World} {bo : Nat} {t : TypeId} {s0 : St} {M0 F0 : Value} (a0 a1 a2 a3 a4 a5 a6 a7 a8 : Value) (h : w.heap[bo]? = some (.cells (cellsS s0 M0 F0) t (0, 0))) :
    (((((((((w.setCell ⟨bo, 0, none⟩ a0).setCell ⟨bo, 1, none⟩ a1).setCell ⟨bo, 2, none⟩ a2).setCell ⟨bo, 3, none⟩ a3).setCell ⟨bo, 4, none⟩ a4).setCell ⟨bo, 5, none⟩ a5).setCell ⟨bo, 6, none⟩ a6).setCell ⟨bo, 7, none⟩ a7).setCell ⟨bo, 8, none⟩ a8).heap[bo]? = some (.cells #[a0, a1, a2, a3, a4, a5, a6, a7, a8] t (0, 0)) := by
  have h0 := heap_setCell_same _ bo 0 _ _ a0 h
  have h1 := heap_setCell_same _ bo 1 _ _ a1 h0
  have h2 := heap_setCell_same _ bo 2 _ _ a2 h1
  have h3 := heap_setCell_same _ bo 3 _ _ a3 h2
  have h4 := heap_setCell_same _ bo 4 _ _ a4 h3
  have h5 := heap_setCell_same _ bo 5 _ _ a5 h4
  have h6 := heap_setCell_same _ bo 6 _ _ a6 h5
  have h7 := heap_setCell_same _ bo 7 _ _ a7 h6
  have h8 := heap_setCell_same _ bo 8 _ _ a8 h7
  simpa [cellsS] using h8

theorem rnew_bad (n : Int) (hn : ¬ (1 ≤ n ∧ n ≤ 10)) (w : World) : Calls Try.prog 25 #[.int .i64 n] w (SPost w (newF n)) := by
  have hr : newF n = (St.zero, 4) := if_neg hn
  rw [hr]
  clear hr
  by_cases h1 : n < 1
  · have h1b := decide_eq_true h1
    have h1h := Lib.hid h1
    clear h1 hn
    go_enter Try.func25, Try.ntmps25
    go_wp2_with fail
    refine bodyPost_ret (by simp [results, Try.results25, go_sem]; try rfl) rfl ?_
    exact ⟨none, 0, none, 0, rfl, RdS.zero _, (Below.refl _ _).alloc (Nat.le_refl _) _, Fresh.none _, Fresh.none _⟩
  · have h1b := decide_eq_false h1
    have h2b : decide (10 < n) = true := decide_eq_true (by omega)
    have h1h := Lib.hid h1
    clear h1 hn
    go_enter Try.func25, Try.ntmps25
    go_wp2_with fail
    refine bodyPost_ret (by simp [results, Try.results25, go_sem]; try rfl) rfl ?_
    exact ⟨none, 0, none, 0, rfl, RdS.zero _, (Below.refl _ _).alloc (Nat.le_refl _) _, Fresh.none _, Fresh.none _⟩

theorem rnew_ok (N : Nat) (h1 : 1 ≤ N) (h2 : N ≤ 10) (w : World) : Calls Try.prog 25 #[.int .i64 N] w (SPost w (newS N, 0)) := by
  obtain ⟨i, hi, hz0, hz1, hz2⟩ := info_parts info79
  obtain ⟨W, hmk, hown, hg⟩ := run_makeSlice_full (P := Try.prog) (w := w.alloc (.cells zeroS 44)) w.heap.size 41 79 i _ 3 Try.underlying41 hi hz0 hz1 .i64 .i64 N (by omega) (by rw [hz2]; omega) (by simp [maxLen]; omega) (by simp)
  rw [made63] at hown
  have ho : Own encM 3 79 W w.heap.size (.slice (some ⟨w.heap.size + 1, 0, none⟩) N N) (List.replicate N (⟨false, 0, 0⟩ : Mem)) := by
    unfold Own
    rw [List.length_replicate]
    simpa using hown
  clear hown
  simp only [World.size_alloc] at hmk
  have h1b : decide ((N : Int) < 1) = false := decide_eq_false (by omega)
  have h2b : decide (10 < (N : Int)) = false := decide_eq_false (by omega)
  have hb0 : W.heap[w.heap.size]? = some (.cells zeroS 44 (0, 0)) := (hg.block _ (by simp) (by simp)).trans (heap_alloc_new w _)
  have hb1 : Below w.heap.size w W := ((Below.refl w.heap.size w).alloc (Nat.le_refl _) (.cells zeroS 44)).grown hg (by simp) (fun k hk => by cases hk)
  have hlt : w.heap.size + 1 < W.heap.size := (ho.blk _ rfl).2.1
  have hw1 : W.heap.size < (W.alloc (.cells #[.slice (some ⟨w.heap.size + 1, 0, none⟩) N N, .slice none 0 0, .int .i64 0, .int .i64 0, .int .i64 0, .int .i64 (-1), .int .i64 (-1), .int .i64 0, .bool false] 44)).heap.size := by simp
  have x1 : (W.alloc (.cells #[.slice (some ⟨w.heap.size + 1, 0, none⟩) N N, .slice none 0 0, .int .i64 0, .int .i64 0, .int .i64 0, .int .i64 (-1), .int .i64 (-1), .int .i64 0, .bool false] 44)).heap[W.heap.size]? = some (.cells #[.slice (some ⟨w.heap.size + 1, 0, none⟩) N N, .slice none 0 0, .int .i64 0, .int .i64 0, .int .i64 0, .int .i64 (-1), .int .i64 (-1), .int .i64 0, .bool false] 44 (0, 0)) := heap_alloc_new W _
  have x2 : (W.alloc (.cells #[.slice (some ⟨w.heap.size + 1, 0, none⟩) N N, .slice none 0 0, .int .i64 0, .int .i64 0, .int .i64 0, .int .i64 (-1), .int .i64 (-1), .int .i64 0, .bool false] 44)).heap[w.heap.size]? = some (.cells zeroS 44 (0, 0)) := (Below.heap_alloc _ _ _ (by omega)).trans hb0
  have x3 : Own encM 3 79 (W.alloc (.cells #[.slice (some ⟨w.heap.size + 1, 0, none⟩) N N, .slice none 0 0, .int .i64 0, .int .i64 0, .int .i64 0, .int .i64 (-1), .int .i64 (-1), .int .i64 0, .bool false] 44)) w.heap.size (.slice (some ⟨w.heap.size + 1, 0, none⟩) N N) (List.replicate N (⟨false, 0, 0⟩ : Mem)) := ho.grown (row := none) (World.grownBy_alloc W _ none) (.inr (by simp [Value.ownBlock]))
  have x4 : Below w.heap.size w (W.alloc (.cells #[.slice (some ⟨w.heap.size + 1, 0, none⟩) N N, .slice none 0 0, .int .i64 0, .int .i64 0, .int .i64 0, .int .i64 (-1), .int .i64 (-1), .int .i64 0, .bool false] 44)) := hb1.alloc (by omega) _
  obtain ⟨X, hX⟩ : ∃ X, W.alloc (.cells #[.slice (some ⟨w.heap.size + 1, 0, none⟩) N N, .slice none 0 0, .int .i64 0, .int .i64 0, .int .i64 0, .int .i64 (-1), .int .i64 (-1), .int .i64 0, .bool false] 44) = X := ⟨_, rfl⟩
  rw [hX] at x1 x2 x3 x4
  obtain ⟨o1, o2⟩ := x3.set lenM (by simp) 0 (by simp; omega) 0 (by omega) (.bool true) ⟨true, 0, 0⟩ (by simp)
  simp only [Nat.zero_mul, Nat.add_zero] at o1 o2
  obtain ⟨c0, c1⟩ := x3.cell lenM (by simp) 0 (by simp; omega) 0 (.bool false) (by simp)
  simp only [Nat.zero_mul, Nat.add_zero] at c0 c1
  have c2 := cell_of_row _ W.heap.size 0 _ _ _ x1
  simp at c2
  have y1 : (X.setCell ⟨w.heap.size + 1, 0, none⟩ (.bool true)).heap[W.heap.size]? = some (.cells #[.slice (some ⟨w.heap.size + 1, 0, none⟩) N N, .slice none 0 0, .int .i64 0, .int .i64 0, .int .i64 0, .int .i64 (-1), .int .i64 (-1), .int .i64 0, .bool false] 44 (0, 0)) := (o2.block _ (Array.getElem?_eq_some_iff.1 x1).1 (by simp; omega)).trans x1
  have y2 : (X.setCell ⟨w.heap.size + 1, 0, none⟩ (.bool true)).heap[w.heap.size]? = some (.cells (cellsS St.zero (.slice none 0 0) (.slice none 0 0)) 44 (0, 0)) := (o2.block _ (Array.getElem?_eq_some_iff.1 x2).1 (by simp)).trans x2
  have y3 : Below w.heap.size w (X.setCell ⟨w.heap.size + 1, 0, none⟩ (.bool true)) := x4.setCell (by simp) _
  obtain ⟨Y, hY⟩ : ∃ Y, X.setCell ⟨w.heap.size + 1, 0, none⟩ (.bool true) = Y := ⟨_, rfl⟩
  rw [hY] at y1 y2 y3 o1 o2
  have q0 := filledT (.slice (some ⟨w.heap.size + 1, 0, none⟩) N N) (.slice none 0 0) (.int .i64 0) (.int .i64 0) (.int .i64 0) (.int .i64 (-1)) (.int .i64 (-1)) (.int .i64 0) (.bool false) y2
  have q1 := filled_other (w := Y) (bo := w.heap.size) (.slice (some ⟨w.heap.size + 1, 0, none⟩) N N) (.slice none 0 0) (.int .i64 0) (.int .i64 0) (.int .i64 0) (.int .i64 (-1)) (.int .i64 (-1)) (.int .i64 0) (.bool false)
  have q2 := filled_below w.heap.size Y w.heap.size (Nat.le_refl _) (.slice (some ⟨w.heap.size + 1, 0, none⟩) N N) (.slice none 0 0) (.int .i64 0) (.int .i64 0) (.int .i64 0) (.int .i64 (-1)) (.int .i64 (-1)) (.int .i64 0) (.bool false)
  obtain ⟨Z, hZ⟩ : ∃ Z, (((((((((Y.setCell ⟨w.heap.size, 0, none⟩ (.slice (some ⟨w.heap.size + 1, 0, none⟩) N N)).setCell ⟨w.heap.size, 1, none⟩ (.slice none 0 0)).setCell ⟨w.heap.size, 2, none⟩ (.int .i64 0)).setCell ⟨w.heap.size, 3, none⟩ (.int .i64 0)).setCell ⟨w.heap.size, 4, none⟩ (.int .i64 0)).setCell ⟨w.heap.size, 5, none⟩ (.int .i64 (-1))).setCell ⟨w.heap.size, 6, none⟩ (.int .i64 (-1))).setCell ⟨w.heap.size, 7, none⟩ (.int .i64 0)).setCell ⟨w.heap.size, 8, none⟩ (.bool false)) = Z := ⟨_, rfl⟩
  rw [hZ] at q0 q1 q2
  have HX := Lib.hid hX
  have HY := Lib.hid hY
  have HZ := Lib.hid (And.intro hZ (And.intro q0 (And.intro q1 (And.intro q2 (And.intro o1 y3)))))
  have hcY := fun j => cell_of_row _ W.heap.size j _ _ _ y1
  have d0 := hcY 0
  have d1 := hcY 1
  have d2 := hcY 2
  have d3 := hcY 3
  have d4 := hcY 4
  have d5 := hcY 5
  have d6 := hcY 6
  have d7 := hcY 7
  have d8 := hcY 8
  simp at d0 d1 d2 d3 d4 d5 d6 d7 d8
  have hcz := fun j => cell_of_row _ w.heap.size j _ _ _ y2
  have z0 := hcz 0
  have z1 := hcz 1
  have z2 := hcz 2
  have z3 := hcz 3
  have z4 := hcz 4
  have z5 := hcz 5
  have z6 := hcz 6
  have z7 := hcz 7
  have z8 := hcz 8
  simp [cellsS, St.zero] at z0 z1 z2 z3 z4 z5 z6 z7 z8
  have fz0 := frozen_of_row _ w.heap.size 0 _ _ y2
  have fz1 := frozen_of_row _ w.heap.size 1 _ _ y2
  have fz2 := frozen_of_row _ w.heap.size 2 _ _ y2
  have fz3 := frozen_of_row _ w.heap.size 3 _ _ y2
  have fz4 := frozen_of_row _ w.heap.size 4 _ _ y2
  have fz5 := frozen_of_row _ w.heap.size 5 _ _ y2
  have fz6 := frozen_of_row _ w.heap.size 6 _ _ y2
  have fz7 := frozen_of_row _ w.heap.size 7 _ _ y2
  have fz8 := frozen_of_row _ w.heap.size 8 _ _ y2
  have hN0 : (0 : Int) < (N : Int) := by omega
  have hN1 : 0 < N := h1
  have HN := Lib.hid (And.intro h1 h2)
  clear ho hg h1 h2 hb0 hb1 hlt hX hY hZ q0 q1 q2 o1 o2 x1 x2 x3 x4 y1 y2 y3 hcY hcz hw1
  go_enter Try.func25, Try.ntmps25
  go_upto_region 4 with fail
  rw [HX.out]
  go_upto_region 5 with fail
  rw [HY.out]
  go_wp2_with fail
  rw [HZ.out.1]
  have e0 := fun j => cell_of_row _ w.heap.size j _ _ _ HZ.out.2.1
  have e1 := e0 0
  have e2 := e0 1
  have e3 := e0 2
  have e4 := e0 3
  have e5 := e0 4
  have e6 := e0 5
  have e7 := e0 6
  have e8 := e0 7
  have e9 := e0 8
  simp at e1 e2 e3 e4 e5 e6 e7 e8 e9
  refine bodyPost_ret (by simp [results, Try.results25, go_sem, e1, e2, e3, e4, e5, e6, e7, e8, e9]; try rfl) rfl ?_
  refine ⟨some ⟨w.heap.size + 1, 0, none⟩, N, none, 0, ?_, ?_, ?_, fun a ha => by cases ha; simp, Fresh.none _⟩
  · simp [newS, St.v]
  · have hg := (HZ.out.2.2.2.2.1.rd lenM)
    obtain ⟨A, c, hv, hr⟩ := hg
    simp only [Value.slice.injEq] at hv
    obtain ⟨rfl, _, _⟩ := hv
    exact ⟨hr.keep (fun a ha => by cases ha; exact HZ.out.2.2.1 _ (by simp)), Rd.nil _ _ _ _⟩
  · exact HZ.out.2.2.2.2.2.trans HZ.out.2.2.2.1.1

theorem rnew_calls (n : Int) (w : World) : Calls Try.prog 25 #[.int .i64 n] w (SPost w (newF n)) := by
  by_cases hn : 1 ≤ n ∧ n ≤ 10
  · have hr : newF n = (newS n.toNat, 0) := if_pos hn
    rw [hr]
    have := rnew_ok n.toNat (by omega) (by omega) w
    rwa [show ((n.toNat : Nat) : Int) = n by omega] at this
  · exact rnew_bad n hn w

def wI (n most : Int) : Bool := decide (0 ≤ n) && decide (n ≤ most)
theorem rwithin_calls (n most : Int) (w : World) : Calls Try.prog 40 #[.int .i64 n, .int .i64 most] w fun e w' => e = .returned (.bool (wI n most)) ∧ w = w' := by
  by_cases h : 0 ≤ n
  · have hb : decide (0 ≤ n) = true := decide_eq_true h
    have HB := Lib.hid hb
    clear h
    go_enter Try.func40, Try.ntmps40
    go_wp2_with fail
    go_ret
    exact ⟨ret_bool (by unfold wI; rw [HB.out, Bool.true_and]), rfl⟩
  · have hb : decide (0 ≤ n) = false := decide_eq_false h
    have HB := Lib.hid hb
    clear h
    go_enter Try.func40, Try.ntmps40
    go_wp2_with fail
    go_ret
    exact ⟨ret_bool (by unfold wI; rw [HB.out, Bool.false_and]), rfl⟩

theorem rquiet_calls (s : St) (A : Option Addr) (c : Nat) (B : Option Addr) (d : Nat) (w : World) (h : RdS w A B s) :
    Calls Try.prog 38 #[s.v A c B d] w fun e w' => e = .returned (.bool (quietB s)) ∧ Below w.heap.size w w' := by
  obtain ⟨W, hW⟩ : ∃ W, w.alloc (.cells (cellsS s (.slice A s.ms.length c) (.slice B s.fl.length d)) 44) = W := ⟨_, rfl⟩
  have hb : Below w.heap.size w W := by rw [← hW]; exact (Below.refl _ _).alloc (Nat.le_refl _) _
  have hr0 : W.heap[w.heap.size]? = some (.cells (cellsS s (.slice A s.ms.length c) (.slice B s.fl.length d)) 44 (0, 0)) := by rw [← hW]; exact heap_alloc_new w _
  obtain ⟨z0, z1, _⟩ := nineT hr0
  have hl := h.ms.small
  have HW := Lib.hid (And.intro hW (And.intro hb (h.below hb)))
  clear hW hb hr0 h
  go_enter Try.func38, Try.ntmps38
  go_upto_region 1 with fail
  rw [HW.out.1]
  go_wp2_with fail
  go_loopg [2, 3, 4, 5, 6, 7, 8, 9, 10, 11, 12, 13, 14, 15, 16] (s.ms.length) (fun g v2 v3 v4 v5 v6 v7 v8 v9 v10 v11 v12 v13 v14 v15 v16 wr => ∃ k : Nat, k + g = s.ms.length ∧ v3 = .int .i64 k ∧ (∀ j (h : j < k) (h' : j < s.ms.length), s.ms[j].act = false) ∧ W = wr)
  case atStart => exact ⟨0, by omega, rfl, fun j h => by omega, rfl⟩
  case round =>
    obtain ⟨k, hk, rfl, hall, rfl⟩ := hrel
    have HA := Lib.hid hall
    clear hall
    by_cases hlt : k < s.ms.length
    · have hb1 : decide (k < s.ms.length) = true := decide_eq_true hlt
      obtain ⟨a, rfl, q0, q1, q2⟩ := HW.out.2.2.ms.mem k hlt
      cases ha : s.ms[k].act with
      | true =>
        rw [ha] at q0
        have HT := Lib.hid ha
        clear ha
        go_wp2_with fail
        go_ret
        refine ⟨ret_bool ?_, HW.out.2.1⟩
        symm
        rw [Bool.eq_false_iff]
        intro hq
        have := ((quietB_iff s).1 hq).2 k _ (List.getElem?_eq_getElem hlt)
        rw [HT.out] at this; simp at this
      | false =>
        rw [ha] at q0
        have HT := Lib.hid ha
        clear ha
        go_wp2_with fail
        go_roundg (gk - 1)
        case measure => omega
        case rel => exact ⟨k + 1, by omega, by go_num, fun j h h' => by
          by_cases e : j = k
          · subst e; exact HT.out
          · exact HA.out j (by omega) h', rfl⟩
    · have hb1 : decide (k < s.ms.length) = false := decide_eq_false hlt
      go_wp2_with fail
      go_ret
      refine ⟨ret_bool ?_, HW.out.2.1⟩
      have hp : ∀ (i : Nat) (x : Mem), s.ms[i]? = some x → x.act = false := fun i x hx => by
        obtain ⟨hi, rfl⟩ := List.getElem?_eq_some_iff.1 hx
        exact HA.out i (by omega) hi
      cases hfl : s.fl with
      | nil => rw [(quietB_iff s).2 ⟨hfl, hp⟩]; rfl
      | cons q l =>
        have : quietB s = false := by
          rw [Bool.eq_false_iff]; intro hq
          have := ((quietB_iff s).1 hq).1
          rw [hfl] at this; simp at this
        rw [this]
        simp
        try omega
end Go.Proofs.Ythpcipfloofbcaa
