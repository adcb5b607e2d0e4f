import Derived.Test.YthpcipfloofbcaaO
import Derived.Test.YthpcipfloofbcaaP
import Derived.Test.YthpcipfloofbcaaQ
import Derived.Deep.DeepCutAuto
namespace Go.Proofs.Ythpcipfloofbcaa
open Go.RowKit
set_option maxHeartbeats 4000000
set_option maxRecDepth 100000
set_option linter.unusedSimpArgs false
set_option linter.unusedVariables false

def onceM (N : Int) : List Mov := [⟨1, 0, N - 1⟩, ⟨2, 0, 0⟩, ⟨3, 0, 0⟩, ⟨4, 0, 0⟩, ⟨1, N - 1, 0⟩, ⟨2, N - 1, 0⟩, ⟨3, 0, 0⟩, ⟨1, 0, N - 1⟩, ⟨3, 0, 0⟩, ⟨2, N - 1, 0⟩]
def onceA (N : Nat) : Nat → St
  | 0 => (playF (newS N) (onceM N)).1
  | k + 1 => (stepF (onceA N k) ⟨4, 0, 0⟩).1
theorem once_play (N : Nat) (h1 : 3 ≤ N) (h2 : N ≤ 8) : playF (newS N) (onceM N) = (onceA N 0, 10, 0) := by
  rcases (by omega : N = 3 ∨ N = 4 ∨ N = 5 ∨ N = 6 ∨ N = 7 ∨ N = 8) with rfl | rfl | rfl | rfl | rfl | rfl <;> kernel_rfl
theorem once_step (N : Nat) (h1 : 3 ≤ N) (h2 : N ≤ 8) (k : Nat) (hk : k + 1 < N) : stepF (onceA N k) ⟨4, 0, 0⟩ = (onceA N (k + 1), 0) := by
  rcases (by omega : N = 3 ∨ N = 4 ∨ N = 5 ∨ N = 6 ∨ N = 7 ∨ N = 8) with rfl | rfl | rfl | rfl | rfl | rfl <;>
  rcases (by omega : k = 0 ∨ k = 1 ∨ k = 2 ∨ k = 3 ∨ k = 4 ∨ k = 5 ∨ k = 6) with rfl | rfl | rfl | rfl | rfl | rfl | rfl <;> first | omega | kernel_rfl
theorem once_end (N : Nat) (h1 : 3 ≤ N) (h2 : N ≤ 8) : quietF (onceA N (N - 1)) = (false, 0) ∧ (onceA N (N - 1)).wv = 1 ∧ (onceA N (N - 1)).ls = 2 ∧ (onceA N (N - 1)).lr = 2 ∧ (onceA N (N - 1)).told = false := by
  rcases (by omega : N = 3 ∨ N = 4 ∨ N = 5 ∨ N = 6 ∨ N = 7 ∨ N = 8) with rfl | rfl | rfl | rfl | rfl | rfl <;> refine ⟨?_, ?_, ?_, ?_, ?_⟩ <;> kernel_rfl

/-- the box of QuietOnce's state, between two rounds -/
structure Boxed34 (w0 : World) (b : Nat) (S : St) (W : World) : Prop where
  lo : Below w0.heap.size w0 W
  row : ∃ A c B d, W.heap[b]? = some (.cells (cellsS S (.slice A S.ms.length c) (.slice B S.fl.length d)) 27 (0, 0)) ∧ RdS W A B S ∧ Fresh (b + 1) A ∧ Fresh (b + 1) B

theorem once_calls (a b : Int) (ha0 : 0 ≤ a) (ha1 : a < 256) (hb0 : 0 ≤ b) (hb1 : b < 256) (w : World) : Calls Try.prog 3 #[.int .u8 a, .int .u8 b] w fun e w' => e = .returned (.bool true) ∧ Below w.heap.size w w' := by
  obtain ⟨N, hN⟩ : ∃ N : Nat, a.tmod 6 = (N : Int) - 3 := ⟨(a.tmod 6 + 3).toNat, by have := Int.tmod_nonneg 6 ha0; omega⟩
  have h1 : 3 ≤ N := by have := Int.tmod_nonneg 6 ha0; omega
  have h2 : N ≤ 8 := by have := Int.tmod_lt_of_pos a (show (0 : Int) < 6 by omega); omega
  have HN := Lib.hid (And.intro h1 h2)
  have hnew := new_ok N (by omega) (by omega) w
  have H1 := Lib.hid hnew
  clear hnew
  have hplay := once_play N h1 h2
  have hstep := once_step N h1 h2
  obtain ⟨e1, e2, e3, e4, e5⟩ := once_end N h1 h2
  have hle : (N - 1) + 1 = N := by omega
  generalize newS N = s0 at *
  generalize hSA : onceA N = SA at *
  have HE := Lib.hid (And.intro hstep (And.intro e1 (And.intro e2 (And.intro e3 (And.intro e4 (And.intro e5 hle))))))
  clear hstep e1 e2 e3 e4 e5 hle
  go_enter Try.func3, Try.ntmps3
  go_wp2_with fail
  rw [show (3 : Int) + ((N : Int) - 3) = N by omega]
  (with_reducible refine (H1.out).mono ?_); rintro e w1 ⟨A, c, B, d, rfl, hrd, hb, hfA, hfB⟩
  have hle0 := hb.size
  obtain ⟨W1, hW1⟩ : ∃ W1, w1.alloc (.cells #[.slice A s0.ms.length c, .slice B s0.fl.length d, .int .i64 s0.wn, .int .i64 s0.ws, .int .i64 s0.wr, .int .i64 s0.ls, .int .i64 s0.lr, .int .i64 s0.wv, .bool s0.told] 27) = W1 := ⟨_, rfl⟩
  have hb1 : Below w1.heap.size w1 W1 := by rw [← hW1]; exact (Below.refl _ _).alloc (Nat.le_refl _) _
  have hr1 : W1.heap[w1.heap.size]? = some (.cells #[.slice A s0.ms.length c, .slice B s0.fl.length d, .int .i64 s0.wn, .int .i64 s0.ws, .int .i64 s0.wr, .int .i64 s0.ls, .int .i64 s0.lr, .int .i64 s0.wv, .bool s0.told] 27 (0, 0)) := by rw [← hW1]; exact heap_alloc_new w1 _
  obtain ⟨W2, hW2⟩ : ∃ W2, W1.alloc (.cells #[.int .i64 1, .int .i64 0, .int .i64 ((N : Int) - 1), .int .i64 2, .int .i64 0, .int .i64 0, .int .i64 3, .int .i64 0, .int .i64 0, .int .i64 4, .int .i64 0, .int .i64 0, .int .i64 1, .int .i64 ((N : Int) - 1), .int .i64 0, .int .i64 2, .int .i64 ((N : Int) - 1), .int .i64 0, .int .i64 3, .int .i64 0, .int .i64 0, .int .i64 1, .int .i64 0, .int .i64 ((N : Int) - 1), .int .i64 3, .int .i64 0, .int .i64 0, .int .i64 2, .int .i64 ((N : Int) - 1), .int .i64 0] 34) = W2 := ⟨_, rfl⟩
  have hb2 : Below W1.heap.size W1 W2 := by rw [← hW2]; exact (Below.refl _ _).alloc (Nat.le_refl _) _
  have hr2 : W2.heap[W1.heap.size]? = some (.cells #[.int .i64 1, .int .i64 0, .int .i64 ((N : Int) - 1), .int .i64 2, .int .i64 0, .int .i64 0, .int .i64 3, .int .i64 0, .int .i64 0, .int .i64 4, .int .i64 0, .int .i64 0, .int .i64 1, .int .i64 ((N : Int) - 1), .int .i64 0, .int .i64 2, .int .i64 ((N : Int) - 1), .int .i64 0, .int .i64 3, .int .i64 0, .int .i64 0, .int .i64 1, .int .i64 0, .int .i64 ((N : Int) - 1), .int .i64 3, .int .i64 0, .int .i64 0, .int .i64 2, .int .i64 ((N : Int) - 1), .int .i64 0] 34 (0, 0)) := by rw [← hW2]; exact heap_alloc_new W1 _
  have hs2 : W1.heap.size < W2.heap.size := (Array.getElem?_eq_some_iff.1 hr2).1
  have hs1 : w1.heap.size < W1.heap.size := (Array.getElem?_eq_some_iff.1 hr1).1
  have hp := play_calls s0 A c B d (onceM N) (some ⟨W1.heap.size, 0, none⟩) 10 W2 ((hrd.below hb1).below hb2) (rd_row (enc := encV) (sz := 3) (xs := onceM N) hr2 rfl (by simp [onceM])) (fun a ha => by cases ha; exact hs2)
  rw [hplay] at hp
  have HP := Lib.hid hp
  have HW := Lib.hid (And.intro hW1 (And.intro hW2 (And.intro ((hb.trans (hb1.mono hle0)).trans (hb2.mono (Nat.le_trans hle0 hb1.size))) (And.intro ((hb2.block _ hs1).trans hr1) (And.intro hs1 (And.intro hs2 hle0))))))
  have hz := fun j => cell_of_row _ w1.heap.size j _ _ _ hr1
  have z0 := hz 0
  have z1 := hz 1
  have z2 := hz 2
  have z3 := hz 3
  have z4 := hz 4
  have z5 := hz 5
  have z6 := hz 6
  have z7 := hz 7
  have z8 := hz 8
  simp [cellsS] at z0 z1 z2 z3 z4 z5 z6 z7 z8
  clear hz
  clear hW1 hW2 hb1 hb2 hr1 hr2 hs2 hs1 hp hrd hb hfA hfB hle0 hplay
  go_upto_region 3 with fail
  rw [HW.out.1]
  go_wp2_with fail
  rw [HW.out.2.1]
  refine (HP.out).mono ?_
  rintro e w3 ⟨A2, c2, B2, d2, rfl, hrd3, hb3, hfA, hfB⟩
  have hsz2 := Nat.lt_trans HW.out.2.2.2.2.1 HW.out.2.2.2.2.2.1
  have hrow3 : w3.heap[w1.heap.size]? = some (.cells #[.slice A s0.ms.length c, .slice B s0.fl.length d, .int .i64 s0.wn, .int .i64 s0.ws, .int .i64 s0.wr, .int .i64 s0.ls, .int .i64 s0.lr, .int .i64 s0.wv, .bool s0.told] 27 (0, 0)) := (hb3.block _ hsz2).trans HW.out.2.2.2.1
  have q0 := filled (s0 := s0) (M0 := .slice A s0.ms.length c) (F0 := .slice B s0.fl.length d) (.slice A2 (SA 0).ms.length c2) (.slice B2 (SA 0).fl.length d2) (.int .i64 (SA 0).wn) (.int .i64 (SA 0).ws) (.int .i64 (SA 0).wr) (.int .i64 (SA 0).ls) (.int .i64 (SA 0).lr) (.int .i64 (SA 0).wv) (.bool (SA 0).told) hrow3
  have q1 := fill_kx w.heap.size w1.heap.size HW.out.2.2.2.2.2.2 w3 (.slice A2 (SA 0).ms.length c2) (.slice B2 (SA 0).fl.length d2) (.int .i64 (SA 0).wn) (.int .i64 (SA 0).ws) (.int .i64 (SA 0).wr) (.int .i64 (SA 0).ls) (.int .i64 (SA 0).lr) (.int .i64 (SA 0).wv) (.bool (SA 0).told)
  obtain ⟨W4, hW4⟩ : ∃ W4, (((((((((w3.setCell ⟨w1.heap.size, 0, none⟩ (.slice A2 (SA 0).ms.length c2)).setCell ⟨w1.heap.size, 1, none⟩ (.slice B2 (SA 0).fl.length d2)).setCell ⟨w1.heap.size, 2, none⟩ (.int .i64 (SA 0).wn)).setCell ⟨w1.heap.size, 3, none⟩ (.int .i64 (SA 0).ws)).setCell ⟨w1.heap.size, 4, none⟩ (.int .i64 (SA 0).wr)).setCell ⟨w1.heap.size, 5, none⟩ (.int .i64 (SA 0).ls)).setCell ⟨w1.heap.size, 6, none⟩ (.int .i64 (SA 0).lr)).setCell ⟨w1.heap.size, 7, none⟩ (.int .i64 (SA 0).wv)).setCell ⟨w1.heap.size, 8, none⟩ (.bool (SA 0).told)) = W4 := ⟨_, rfl⟩
  rw [hW4] at q0 q1
  have hrd4 : RdS W4 A2 B2 (SA 0) := hrd3.kx q1.1 (fun a ha e => by have := hfA a ha; omega) (fun a ha e => by have := hfB a ha; omega)
  have hlo4 : Below w.heap.size w W4 := (HW.out.2.2.1.trans (hb3.mono HW.out.2.2.1.size)).trans ⟨q1.1.os, q1.1.tape, q1.1.output, q1.1.size, q1.1.low⟩
  have hbx : Boxed34 w w1.heap.size (SA 0) W4 := ⟨hlo4, A2, c2, B2, d2, q0, hrd4, fun a ha => by have := hfA a ha; omega, fun a ha => by have := hfB a ha; omega⟩
  have HX := Lib.hid (And.intro hW4 hbx)
  clear z0 z1 z2 z3 z4 z5 z6 z7 z8
  have hz := fun j => cell_of_row _ w1.heap.size j _ _ _ hrow3
  have z0 := hz 0
  have z1 := hz 1
  have z2 := hz 2
  have z3 := hz 3
  have z4 := hz 4
  have z5 := hz 5
  have z6 := hz 6
  have z7 := hz 7
  have z8 := hz 8
  simp [cellsS] at z0 z1 z2 z3 z4 z5 z6 z7 z8
  clear hz
  have fz0 := frozen_of_row _ w1.heap.size 0 _ _ hrow3
  have fz1 := frozen_of_row _ w1.heap.size 1 _ _ hrow3
  have fz2 := frozen_of_row _ w1.heap.size 2 _ _ hrow3
  have fz3 := frozen_of_row _ w1.heap.size 3 _ _ hrow3
  have fz4 := frozen_of_row _ w1.heap.size 4 _ _ hrow3
  have fz5 := frozen_of_row _ w1.heap.size 5 _ _ hrow3
  have fz6 := frozen_of_row _ w1.heap.size 6 _ _ hrow3
  have fz7 := frozen_of_row _ w1.heap.size 7 _ _ hrow3
  have fz8 := frozen_of_row _ w1.heap.size 8 _ _ hrow3
  clear hrow3 q0 q1 hW4 hrd4 hlo4 hbx hrd3 hb3 hfA hfB hsz2
  go_upto_region 7 with fail
  rw [HX.out.1]
  clear z0 fz0 z1 fz1 z2 fz2 z3 fz3 z4 fz4 z5 fz5 z6 fz6 z7 fz7 z8 fz8
  have h1N : (1 : Int) < (N : Int) := by omega
  go_wp2_with fail
  go_loopg [4, 7, 10, 54, 55, 56, 57, 58, 59, 60, 61, 62, 63, 64, 65, 66] (N - 1) (fun g v4 v7 v10 v54 v55 v56 v57 v58 v59 v60 v61 v62 v63 v64 v65 v66 wr => ∃ i : Nat, i + g = N ∧ 1 ≤ i ∧ v10 = .int .i64 i ∧ Boxed34 w w1.heap.size (SA (i - 1)) wr)
  case atStart => exact ⟨1, by omega, Nat.le_refl 1, rfl, HX.out.2⟩
  case round =>
    obtain ⟨i, hi, hi1, rfl, hbx⟩ := hrel
    by_cases hlt : i < N
    · have hb1 : decide (i < N) = true := decide_eq_true hlt
      have hi8 : i ≤ 8 := by omega
      have hst := HE.out.1 (i - 1) (by omega)
      rw [show i - 1 + 1 = i by omega] at hst
      obtain ⟨hlo, A2, c2, B2, d2, hrow, hrd, hfA, hfB⟩ := hbx
      generalize hs2 : SA i = s2 at hst
      generalize SA (i - 1) = s1 at hst hrow hrd
      have hcall := step_calls s1 A2 c2 B2 d2 ⟨4, 0, 0⟩ wr hrd
      rw [hst] at hcall
      have HCA := Lib.hid hcall
      have HY := Lib.hid (And.intro hlo (And.intro hrow (And.intro hs2 (And.intro hi (And.intro hi1 hlt)))))
      have hz := fun j => cell_of_row _ w1.heap.size j _ _ _ hrow
      have z0 := hz 0
      have z1 := hz 1
      have z2 := hz 2
      have z3 := hz 3
      have z4 := hz 4
      have z5 := hz 5
      have z6 := hz 6
      have z7 := hz 7
      have z8 := hz 8
      simp [cellsS] at z0 z1 z2 z3 z4 z5 z6 z7 z8
      clear hz
      have fz0 := frozen_of_row _ w1.heap.size 0 _ _ hrow
      have fz1 := frozen_of_row _ w1.heap.size 1 _ _ hrow
      have fz2 := frozen_of_row _ w1.heap.size 2 _ _ hrow
      have fz3 := frozen_of_row _ w1.heap.size 3 _ _ hrow
      have fz4 := frozen_of_row _ w1.heap.size 4 _ _ hrow
      have fz5 := frozen_of_row _ w1.heap.size 5 _ _ hrow
      have fz6 := frozen_of_row _ w1.heap.size 6 _ _ hrow
      have fz7 := frozen_of_row _ w1.heap.size 7 _ _ hrow
      have fz8 := frozen_of_row _ w1.heap.size 8 _ _ hrow
      clear hcall hst hlo hrow hrd hfA hfB hs2 hi hlt
      go_wp2_with fail
      refine (HCA.out).mono ?_
      rintro e w5 ⟨A3, c3, B3, d3, rfl, hrd5, hb5, hfA, hfB⟩
      have hbl := (Array.getElem?_eq_some_iff.1 HY.out.2.1).1
      have hrow5 : w5.heap[w1.heap.size]? = some (.cells (cellsS s1 (.slice A2 s1.ms.length c2) (.slice B2 s1.fl.length d2)) 27 (0, 0)) := (hb5.block _ hbl).trans HY.out.2.1
      have q0 := filled (.slice A3 s2.ms.length c3) (.slice B3 s2.fl.length d3) (.int .i64 s2.wn) (.int .i64 s2.ws) (.int .i64 s2.wr) (.int .i64 s2.ls) (.int .i64 s2.lr) (.int .i64 s2.wv) (.bool s2.told) hrow5
      have q1 := fill_kx w.heap.size w1.heap.size HW.out.2.2.2.2.2.2 w5 (.slice A3 s2.ms.length c3) (.slice B3 s2.fl.length d3) (.int .i64 s2.wn) (.int .i64 s2.ws) (.int .i64 s2.wr) (.int .i64 s2.ls) (.int .i64 s2.lr) (.int .i64 s2.wv) (.bool s2.told)
      obtain ⟨W6, hW6⟩ : ∃ W6, (((((((((w5.setCell ⟨w1.heap.size, 0, none⟩ (.slice A3 s2.ms.length c3)).setCell ⟨w1.heap.size, 1, none⟩ (.slice B3 s2.fl.length d3)).setCell ⟨w1.heap.size, 2, none⟩ (.int .i64 s2.wn)).setCell ⟨w1.heap.size, 3, none⟩ (.int .i64 s2.ws)).setCell ⟨w1.heap.size, 4, none⟩ (.int .i64 s2.wr)).setCell ⟨w1.heap.size, 5, none⟩ (.int .i64 s2.ls)).setCell ⟨w1.heap.size, 6, none⟩ (.int .i64 s2.lr)).setCell ⟨w1.heap.size, 7, none⟩ (.int .i64 s2.wv)).setCell ⟨w1.heap.size, 8, none⟩ (.bool s2.told)) = W6 := ⟨_, rfl⟩
      rw [hW6] at q0 q1
      have hlo6 : Below w.heap.size w W6 := (HY.out.1.trans (hb5.mono HY.out.1.size)).trans ⟨q1.1.os, q1.1.tape, q1.1.output, q1.1.size, q1.1.low⟩
      have hrd6 : RdS W6 A3 B3 s2 := hrd5.kx q1.1 (fun a ha e => by have := hfA a ha; omega) (fun a ha e => by have := hfB a ha; omega)
      have H6 := Lib.hid (And.intro hW6 (show Boxed34 w w1.heap.size s2 W6 from ⟨hlo6, A3, c3, B3, d3, q0, hrd6, fun a ha => by have := hfA a ha; omega, fun a ha => by have := hfB a ha; omega⟩))
      clear z0 fz0 z1 fz1 z2 fz2 z3 fz3 z4 fz4 z5 fz5 z6 fz6 z7 fz7 z8 fz8
      have hz := fun j => cell_of_row _ w1.heap.size j _ _ _ hrow5
      have z0 := hz 0
      have z1 := hz 1
      have z2 := hz 2
      have z3 := hz 3
      have z4 := hz 4
      have z5 := hz 5
      have z6 := hz 6
      have z7 := hz 7
      have z8 := hz 8
      simp [cellsS] at z0 z1 z2 z3 z4 z5 z6 z7 z8
      clear hz
      have fz0 := frozen_of_row _ w1.heap.size 0 _ _ hrow5
      have fz1 := frozen_of_row _ w1.heap.size 1 _ _ hrow5
      have fz2 := frozen_of_row _ w1.heap.size 2 _ _ hrow5
      have fz3 := frozen_of_row _ w1.heap.size 3 _ _ hrow5
      have fz4 := frozen_of_row _ w1.heap.size 4 _ _ hrow5
      have fz5 := frozen_of_row _ w1.heap.size 5 _ _ hrow5
      have fz6 := frozen_of_row _ w1.heap.size 6 _ _ hrow5
      have fz7 := frozen_of_row _ w1.heap.size 7 _ _ hrow5
      have fz8 := frozen_of_row _ w1.heap.size 8 _ _ hrow5
      clear hrow5 q0 q1 hW6 hlo6 hrd5 hrd6 hb5 hfA hfB hbl
      go_upto_region 13 with fail
      rw [H6.out.1]
      clear z0 fz0 z1 fz1 z2 fz2 z3 fz3 z4 fz4 z5 fz5 z6 fz6 z7 fz7 z8 fz8
      go_wp2_with fail
      go_roundg (gk - 1)
      case measure => have := HY.out; omega
      case rel => exact ⟨i + 1, by have := HY.out; omega, by omega, by go_num, by rw [show i + 1 - 1 = i by omega, HY.out.2.2.1]; exact H6.out.2⟩
    · have hb1 : decide (i < N) = false := decide_eq_false hlt
      obtain rfl : i = N := by omega
      obtain ⟨hlo, A2, c2, B2, d2, hrow, hrd, hfA, hfB⟩ := hbx
      obtain ⟨hstep, e1, e2, e3, e4, e5, hle⟩ := HE.out
      generalize SA (i - 1) = s1 at e1 e2 e3 e4 e5 hrow hrd
      have hq := quiet_calls s1 A2 c2 B2 d2 wr hrd
      rw [e1] at hq
      have hrow' := hrow
      rw [show cellsS s1 (.slice A2 s1.ms.length c2) (.slice B2 s1.fl.length d2) = #[.slice A2 s1.ms.length c2, .slice B2 s1.fl.length d2, .int .i64 s1.wn, .int .i64 s1.ws, .int .i64 s1.wr, .int .i64 2, .int .i64 2, .int .i64 1, .bool false] by simp only [cellsS, e2, e3, e4, e5]] at hrow'
      have HQ := Lib.hid hq
      have hae := awake_calls
      have HAE := Lib.hid hae
      have HY := Lib.hid (And.intro hlo hrow')
      have hz := fun j => cell_of_row _ w1.heap.size j _ _ _ hrow
      have z0 := hz 0
      have z1 := hz 1
      have z2 := hz 2
      have z3 := hz 3
      have z4 := hz 4
      have z5 := hz 5
      have z6 := hz 6
      have z7 := hz 7
      have z8 := hz 8
      simp [cellsS] at z0 z1 z2 z3 z4 z5 z6 z7 z8
      clear hz
      clear hq hlo hrow hrow' hrd hfA hfB hstep hle hlt hi
      clear e1 e2 e3 e4 e5 hae
      go_upto_region 15 with fail
      go_wp2_with fail
      (with_reducible refine (HQ.out).mono ?_)
      rintro e w5 ⟨rfl, hb5⟩
      have hrow5 := (hb5.block _ (Array.getElem?_eq_some_iff.1 HY.out.2).1).trans HY.out.2
      have y5 := cell_of_row _ w1.heap.size 5 _ _ _ hrow5
      have y6 := cell_of_row _ w1.heap.size 6 _ _ _ hrow5
      have y7 := cell_of_row _ w1.heap.size 7 _ _ _ hrow5
      have y8 := cell_of_row _ w1.heap.size 8 _ _ _ hrow5
      simp at y5 y6 y7 y8
      have HB5 := Lib.hid hb5
      clear hrow5 hb5 z0 z1 z2 z3 z4 z5 z6 z7 z8
      go_upto_region 16 with fail
      go_wp2_with fail
      refine (HAE.out _).mono ?_
      rintro e w6 ⟨rfl, hb6⟩
      have HB6 := Lib.hid hb6
      clear hb6
      go_wp2_with fail
      go_ret
      exact ⟨rfl, (HY.out.1.trans (HB5.out.mono HY.out.1.size)).trans (HB6.out.mono (Nat.le_trans HY.out.1.size HB5.out.size))⟩
end Go.Proofs.Ythpcipfloofbcaa
