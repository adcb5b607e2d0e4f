import Derived.Test.YthpcipfloofbcaaBB
import Derived.Deep.DeepCutAuto
namespace Go.Proofs.Ythpcipfloofbcaa
open Go.RowKit
set_option maxHeartbeats 4000000
set_option maxRecDepth 100000
set_option linter.unusedSimpArgs false
set_option linter.unusedVariables false

/-- a state in its box, of whatever type's number -/
structure BoxG (t : TypeId) (w0 : World) (b : Nat) (S : St) (W : World) : Prop where
  lo : Below w0.heap.size w0 W
  row : ∃ A c B d, W.heap[b]? = some (.cells (cellsS S (.slice A S.ms.length c) (.slice B S.fl.length d)) t (0, 0)) ∧ RdS W A B S
theorem BoxG.below {t : TypeId} {w0 w w5 : World} {b : Nat} {s : St} (h : BoxG t w0 b s w) (hw : Below w.heap.size w w5) : BoxG t w0 b s w5 := by
  obtain ⟨hlo, A2, c2, B2, d2, hrow, hrd⟩ := h
  exact ⟨hlo.trans (hw.mono hlo.size), A2, c2, B2, d2, (hw.block _ (Array.getElem?_eq_some_iff.1 hrow).1).trans hrow, hrd.below hw⟩
theorem BoxG.drew {t : TypeId} {w0 w : World} {b : Nat} {s : St} (h : BoxG t w0 b s w) : BoxG t w0 b s w.drew := h.below ((Below.refl _ _).drew)
theorem BoxG.fill {t : TypeId} {w0 w w5 : World} {b : Nat} {s s2 : St} (h : BoxG t w0 b s w) (hb : w0.heap.size ≤ b) (hw : Below w.heap.size w w5) {A : Option Addr} {B : Option Addr} (c d : Nat) (hr : RdS w5 A B s2) (hA : Fresh w.heap.size A) (hB : Fresh w.heap.size B) : BoxG t w0 b s2 (fill9 w5 b s2 A c B d) := by
  obtain ⟨hlo, A2, c2, B2, d2, hrow, hrd⟩ := h
  have hbl := (Array.getElem?_eq_some_iff.1 hrow).1
  have hrow5 := (hw.block _ hbl).trans hrow
  have q0 := filledT (.slice A s2.ms.length c) (.slice B s2.fl.length d) (.int .i64 s2.wn) (.int .i64 s2.ws) (.int .i64 s2.wr) (.int .i64 s2.ls) (.int .i64 s2.lr) (.int .i64 s2.wv) (.bool s2.told) hrow5
  have q1 := fill_kx w0.heap.size b hb w5 (.slice A s2.ms.length c) (.slice B s2.fl.length d) (.int .i64 s2.wn) (.int .i64 s2.ws) (.int .i64 s2.wr) (.int .i64 s2.ls) (.int .i64 s2.lr) (.int .i64 s2.wv) (.bool s2.told)
  exact ⟨(hlo.trans (hw.mono hlo.size)).trans ⟨q1.1.os, q1.1.tape, q1.1.output, q1.1.size, q1.1.low⟩, A, c, B, d, q0, hr.kx q1.1 (fun a ha e => by have := hA a ha; omega) (fun a ha e => by have := hB a ha; omega)⟩
theorem BoxG.new (t : TypeId) {w0 w : World} (hlo : Below w0.heap.size w0 w) (s : St) (A : Option Addr) (c : Nat) (B : Option Addr) (d : Nat) (h : RdS w A B s) : BoxG t w0 w.heap.size s (w.alloc (.cells (cellsS s (.slice A s.ms.length c) (.slice B s.fl.length d)) t)) :=
  ⟨hlo.alloc hlo.size _, A, c, B, d, heap_alloc_new w _, h.below ((Below.refl _ _).alloc (Nat.le_refl _) _)⟩

theorem rQuiet_calls (s : St) (A : Option Addr) (c : Nat) (B : Option Addr) (d : Nat) (w : World) (h : RdS w A B s) :
    Calls Try.prog 19 #[s.v A c B d] w fun e w' => e = .returned (.tuple #[.bool (quietF s).1, .int .i64 (quietF s).2]) ∧ Below w.heap.size w w' := by
  obtain ⟨W, hW⟩ : ∃ W, w.alloc (.cells (cellsS s (.slice A s.ms.length c) (.slice B s.fl.length d)) 44) = W := ⟨_, rfl⟩
  have hb : Below w.heap.size w W := by rw [← hW]; exact (Below.refl _ _).alloc (Nat.le_refl _) _
  have hr0 : W.heap[w.heap.size]? = some (.cells (cellsS s (.slice A s.ms.length c) (.slice B s.fl.length d)) 44 (0, 0)) := by rw [← hW]; exact heap_alloc_new w _
  have hck := rcheck_calls s A c B d W (h.below hb)
  have HC := Lib.hid hck
  have HW := Lib.hid (And.intro hW (And.intro hb hr0))
  have HR := Lib.hid h
  clear hck hW hb hr0 h
  by_cases hk : checkF s = 0
  · have hkc : (checkF s != 0) = false := by rw [bne_eq_false_iff_eq]; exact hk
    have hr : quietF s = (quietB s, 0) := by unfold quietF; rw [if_pos hk]
    rw [hr]
    have HK := Lib.hid hk
    clear hr hk
    go_enter Try.func19, Try.ntmps19
    go_wp2_with fail
    rw [HW.out.1]
    (with_reducible refine (HC.out).mono ?_); rintro e w1 ⟨rfl, hb1⟩
    have hrow := (hb1.block _ (Array.getElem?_eq_some_iff.1 HW.out.2.2).1).trans HW.out.2.2
    obtain ⟨z0, z1, z2, z3, z4, z5, z6, z7, z8⟩ := nineT hrow
    have hrd := (HR.out.below HW.out.2.1).below hb1
    have hlo := HW.out.2.1.trans (hb1.mono HW.out.2.1.size)
    have hc := rquiet_calls s A c B d w1 hrd
    have HX := Lib.hid (And.intro hc hlo)
    clear hb1 hrow hrd hlo hc
    go_wp2_with fail
    (with_reducible refine (HX.out.1).mono ?_); rintro e w2 ⟨rfl, hb2⟩; have HY := Lib.hid hb2; clear hb2
    go_wp2_with fail
    refine bodyPost_ret (by simp [results, Try.results19, go_sem]; try rfl) rfl ?_
    exact ⟨rfl, HX.out.2.trans (HY.out.mono HX.out.2.size)⟩
  · have hkc : (checkF s != 0) = true := by rw [bne_iff_ne]; exact hk
    have hr : quietF s = (false, checkF s) := by unfold quietF; rw [if_neg hk]
    rw [hr]
    have HK := Lib.hid hk
    clear hr hk
    go_enter Try.func19, Try.ntmps19
    go_wp2_with fail
    rw [HW.out.1]
    (with_reducible refine (HC.out).mono ?_); rintro e w1 ⟨rfl, hb1⟩
    have HX := Lib.hid hb1
    clear hb1
    go_wp2_with fail
    refine bodyPost_ret (by simp [results, Try.results19, go_sem]; try rfl) rfl ?_
    exact ⟨rfl, HW.out.2.1.trans (HX.out.mono HW.out.2.1.size)⟩

theorem rNaive_calls (s : St) (A : Option Addr) (c : Nat) (B : Option Addr) (d : Nat) (w : World) (h : RdS w A B s) :
    Calls Try.prog 23 #[s.v A c B d] w fun e w' => e = .returned (.tuple #[.bool (naiveF s).1, .int .i64 (naiveF s).2]) ∧ Below w.heap.size w w' := by
  obtain ⟨W, hW⟩ : ∃ W, w.alloc (.cells (cellsS s (.slice A s.ms.length c) (.slice B s.fl.length d)) 44) = W := ⟨_, rfl⟩
  have hb : Below w.heap.size w W := by rw [← hW]; exact (Below.refl _ _).alloc (Nat.le_refl _) _
  have hr0 : W.heap[w.heap.size]? = some (.cells (cellsS s (.slice A s.ms.length c) (.slice B s.fl.length d)) 44 (0, 0)) := by rw [← hW]; exact heap_alloc_new w _
  have hbx : BoxG 44 w w.heap.size s W := ⟨hb, A, c, B, d, hr0, h.below hb⟩
  have hck := rcheck_calls s A c B d W (h.below hb)
  have HC := Lib.hid hck
  have HW := Lib.hid (And.intro hW (And.intro hb (And.intro hr0 hbx)))
  clear hck hW hb hr0 h hbx
  by_cases hk : checkF s = 0
  · have hkc : (checkF s != 0) = false := by rw [bne_eq_false_iff_eq]; exact hk
    have hr : naiveF s = (netM s.ms == 0, 0) := by unfold naiveF; rw [if_pos hk]
    rw [hr]
    have HK := Lib.hid ((check_iff s).1 hk)
    clear hr hk
    go_enter Try.func23, Try.ntmps23
    go_wp2_with fail
    rw [HW.out.1]
    (with_reducible refine (HC.out).mono ?_); rintro e w1 ⟨rfl, hb1⟩
    have HX := Lib.hid (HW.out.2.2.2.below hb1)
    clear hb1
    go_wp2_with fail
    go_loopg [5, 6, 12, 13, 14, 15, 16, 17, 18, 19, 20, 21, 22, 23, 24, 25, 26, 27, 28, 29, 30, 31, 32, 33] (s.ms.length) (fun g v5 v6 v12 v13 v14 v15 v16 v17 v18 v19 v20 v21 v22 v23 v24 v25 v26 v27 v28 v29 v30 v31 v32 v33 wr => ∃ k : Nat, k + g = s.ms.length ∧ v6 = .int .i64 k ∧ v5 = .int .i64 (netM (s.ms.take k)) ∧ BoxG 44 w w.heap.size s wr)
    case atStart => exact ⟨0, by omega, rfl, rfl, HX.out⟩
    case round =>
      obtain ⟨k, hk, rfl, rfl, hbx⟩ := hrel
      have HX := Lib.hid hbx
      obtain ⟨hlo, A4, c4, B4, d4, hrow, hrd⟩ := hbx
      have hml := HK.out.n1
      have z0 := (nineT hrow).1
      have HR := Lib.hid (And.intro hrow hrd)
      clear hlo hrow hrd
      by_cases hkl : k < s.ms.length
      · obtain ⟨a4, rfl, q0, q1, q2⟩ := HR.out.2.ms.mem k hkl
        have hmem := HK.out.mem _ (List.getElem_mem hkl)
        have hbd := netM_bound (s.ms.take k) (fun x hx => HK.out.mem x (List.mem_of_mem_take hx))
        rw [List.length_take, Nat.min_eq_left (by omega)] at hbd
        have hst : netM (s.ms.take (k + 1)) = netM (s.ms.take k) + s.ms[k].sent - s.ms[k].recv := netM_take _ _ hkl
        have HS := Lib.hid hst
        generalize netM (s.ms.take k) = nk at *
        generalize s.ms[k].sent = xs at *
        generalize s.ms[k].recv = xr at *
        have b1 : IntKind.i64.wrap (nk + xs) = nk + xs := by rw [IntKind.wrap_i64]; omega
        have b2 : IntKind.i64.wrap (nk + xs - xr) = nk + xs - xr := by rw [IntKind.wrap_i64]; omega
        have b3 : decide (k < s.ms.length) = true := decide_eq_true hkl
        clear hst hmem hbd
        go_upto_region 8 with fail
        go_region
        all_goals go_wp2_with fail
        all_goals go_roundg (gk - 1)
        all_goals first | omega | exact ⟨k + 1, by omega, by go_num, by rw [HS.out], HX.out.drew⟩
      · have b3 : decide (k < s.ms.length) = false := decide_eq_false hkl
        obtain rfl : k = s.ms.length := by omega
        rw [List.take_length]
        clear hk hkl hml
        go_wp2_with fail
        refine bodyPost_ret (by simp [results, Try.results23, go_sem]; try rfl) rfl ?_
        exact ⟨rfl, HX.out.lo⟩
  · have hkc : (checkF s != 0) = true := by rw [bne_iff_ne]; exact hk
    have hr : naiveF s = (false, checkF s) := by unfold naiveF; rw [if_neg hk]
    rw [hr]
    have HK := Lib.hid hk
    clear hr hk
    go_enter Try.func23, Try.ntmps23
    go_wp2_with fail
    rw [HW.out.1]
    (with_reducible refine (HC.out).mono ?_); rintro e w1 ⟨rfl, hb1⟩
    have HX := Lib.hid hb1
    clear hb1
    go_wp2_with fail
    refine bodyPost_ret (by simp [results, Try.results23, go_sem]; try rfl) rfl ?_
    exact ⟨rfl, HW.out.2.1.trans (HX.out.mono HW.out.2.1.size)⟩
end Go.Proofs.Ythpcipfloofbcaa
