import Derived.Test.YthpcipfloofbcaaBH
import Derived.Deep.DeepCutAuto
namespace Go.Proofs.Ythpcipfloofbcaa
open Go.RowKit
set_option maxHeartbeats 8000000
set_option maxRecDepth 100000
set_option linter.unusedSimpArgs false
set_option linter.unusedVariables false
attribute [local irreducible] wpStill

theorem ask_is {s : St} (hf : Fine s) : askR s = stepF s ⟨4, 0, 0⟩ := by
  rw [step_good (m := ⟨4, 0, 0⟩) hf ⟨by simp, by simp⟩, moveF4 _ _ rfl, ask_fin]

theorem rdetect_results (tmps : Array Value) (X : World) (bo : Nat) (r : St) (Mv Fv : Value) (k : Int) (h4 : tmps[4]?.getD undef = .pointer (some ⟨bo, 0, none⟩)) (h5 : tmps[5]?.getD undef = .int .i64 k)
    (hb : X.heap[bo]? = some (.cells (cellsS r Mv Fv) 44 (0, 0))) :
    (results Try.f18 tmps).run Try.prog X = .ok (.tuple #[.agg (cellsS r Mv Fv), .int .i64 k]) X := by
  obtain ⟨z0, z1, z2, z3, z4, z5, z6, z7, z8⟩ := nineT hb
  simp [results, Try.results18, go_sem, h4, h5, z0, z1, z2, z3, z4, z5, z6, z7, z8]

structure DR (w0 : World) (s : St) (W : World) : Prop where
  lo : Below w0.heap.size w0 W
  b1 : W.heap[w0.heap.size + 1]? = some (.cells zeroS 44 (0, 0))
  row : ∃ A c B d, W.heap[w0.heap.size]? = some (.cells (cellsS s (.slice A s.ms.length c) (.slice B s.fl.length d)) 44 (0, 0)) ∧ RdS W A B s ∧ Fresh (w0.heap.size + 2) A ∧ Fresh (w0.heap.size + 2) B

theorem rdetect_bad (s : St) (A : Option Addr) (c : Nat) (B : Option Addr) (d : Nat) (waves : Int) (w : World) (h : RdS w A B s) (hk : ¬ checkF s = 0) :
    Calls Try.prog 18 #[s.v A c B d, .int .i64 waves] w (SPost w (St.zero, checkF s)) := by
  obtain ⟨W, hW⟩ : ∃ W, (w.alloc (.cells (cellsS s (.slice A s.ms.length c) (.slice B s.fl.length d)) 44)).alloc (.cells zeroS 44) = W := ⟨_, rfl⟩
  have hb : Below w.heap.size w W := by
    rw [← hW]
    exact ((Below.refl _ _).alloc (Nat.le_refl _) _).alloc (by simp) _
  have hsz : W.heap.size = w.heap.size + 2 := by rw [← hW]; simp
  have hb1 : W.heap[w.heap.size + 1]? = some (.cells zeroS 44 (0, 0)) := by
    rw [← hW]
    have := heap_alloc_new (w.alloc (.cells (cellsS s (.slice A s.ms.length c) (.slice B s.fl.length d)) 44)) (.cells zeroS 44)
    simpa using this
  have hck := rcheck_calls s A c B d W (h.below hb)
  have HC := Lib.hid hck
  have HW := Lib.hid (And.intro hW (And.intro hb (And.intro hsz hb1)))
  have hkc : (checkF s != 0) = true := by rw [bne_iff_ne]; exact hk
  have HK := Lib.hid hk
  clear hck hW hb hsz hb1 h hk
  go_enter Try.func18, Try.ntmps18
  go_wp2_with fail
  rw [HW.out.1]
  (with_reducible refine (HC.out).mono ?_); rintro e w1 ⟨rfl, hb1⟩
  have hF := (hb1.block _ (by have := HW.out.2.2.1; omega)).trans HW.out.2.2.2
  have hHF := Lib.hid hb1
  have hF' : w1.heap[w.heap.size + 1]? = some (.cells (cellsS St.zero (.slice none 0 0) (.slice none 0 0)) 44 (0, 0)) := hF
  obtain ⟨z0, z1, z2, z3, z4, z5, z6, z7, z8⟩ := nineT hF'
  obtain ⟨f0, f1, f2, f3, f4, f5, f6, f7, f8⟩ := nineFT hF'
  have HF := Lib.hid hF
  clear hb1 hF hF'
  go_wp2_with fail
  have q0 := filledT (s0 := St.zero) (M0 := .slice none 0 0) (F0 := .slice none 0 0) (.slice none 0 0) (.slice none 0 0) (.int .i64 0) (.int .i64 0) (.int .i64 0) (.int .i64 0) (.int .i64 0) (.int .i64 0) (.bool false) HF.out
  have q2 := filled_below w.heap.size w1 (w.heap.size + 1) (by omega) (.slice none 0 0) (.slice none 0 0) (.int .i64 0) (.int .i64 0) (.int .i64 0) (.int .i64 0) (.int .i64 0) (.int .i64 0) (.bool false)
  obtain ⟨X, hX⟩ : ∃ X, (((((((((w1.setCell ⟨w.heap.size + 1, 0, none⟩ (.slice none 0 0)).setCell ⟨w.heap.size + 1, 1, none⟩ (.slice none 0 0)).setCell ⟨w.heap.size + 1, 2, none⟩ (.int .i64 0)).setCell ⟨w.heap.size + 1, 3, none⟩ (.int .i64 0)).setCell ⟨w.heap.size + 1, 4, none⟩ (.int .i64 0)).setCell ⟨w.heap.size + 1, 5, none⟩ (.int .i64 0)).setCell ⟨w.heap.size + 1, 6, none⟩ (.int .i64 0)).setCell ⟨w.heap.size + 1, 7, none⟩ (.int .i64 0)).setCell ⟨w.heap.size + 1, 8, none⟩ (.bool false)) = X := ⟨_, rfl⟩
  rw [hX] at q0 q2 ⊢
  refine bodyPost_ret (rdetect_results _ X _ St.zero _ _ (checkF s) rfl rfl q0) rfl ?_
  exact ⟨_, _, _, _, rfl, RdS.zero _, (HW.out.2.1.trans (hHF.out.mono HW.out.2.1.size)).trans q2.1, Fresh.none _, Fresh.none _⟩
theorem rdetect_range (s : St) (A : Option Addr) (c : Nat) (B : Option Addr) (d : Nat) (waves : Int) (w : World) (h : RdS w A B s) (hk : checkF s = 0) (hv : ¬ (0 ≤ waves ∧ waves ≤ 100)) :
    Calls Try.prog 18 #[s.v A c B d, .int .i64 waves] w (SPost w (St.zero, 4)) := by
  obtain ⟨W, hW⟩ : ∃ W, (w.alloc (.cells (cellsS s (.slice A s.ms.length c) (.slice B s.fl.length d)) 44)).alloc (.cells zeroS 44) = W := ⟨_, rfl⟩
  have hb : Below w.heap.size w W := by
    rw [← hW]
    exact ((Below.refl _ _).alloc (Nat.le_refl _) _).alloc (by simp) _
  have hsz : W.heap.size = w.heap.size + 2 := by rw [← hW]; simp
  have hb1 : W.heap[w.heap.size + 1]? = some (.cells zeroS 44 (0, 0)) := by
    rw [← hW]
    have := heap_alloc_new (w.alloc (.cells (cellsS s (.slice A s.ms.length c) (.slice B s.fl.length d)) 44)) (.cells zeroS 44)
    simpa using this
  have hck := rcheck_calls s A c B d W (h.below hb)
  have HC := Lib.hid hck
  have HW := Lib.hid (And.intro hW (And.intro hb (And.intro hsz hb1)))
  have hkc : (checkF s != 0) = false := by rw [bne_eq_false_iff_eq]; exact hk
  have HV := Lib.hid hv
  have HK := Lib.hid hk
  clear hck hW hb hsz hb1 h hk hv
  go_enter Try.func18, Try.ntmps18
  go_wp2_with fail
  rw [HW.out.1]
  (with_reducible refine (HC.out).mono ?_); rintro e w1 ⟨rfl, hb1⟩
  have hF := (hb1.block _ (by have := HW.out.2.2.1; omega)).trans HW.out.2.2.2
  have hHF := Lib.hid hb1
  have hF' : w1.heap[w.heap.size + 1]? = some (.cells (cellsS St.zero (.slice none 0 0) (.slice none 0 0)) 44 (0, 0)) := hF
  obtain ⟨z0, z1, z2, z3, z4, z5, z6, z7, z8⟩ := nineT hF'
  obtain ⟨f0, f1, f2, f3, f4, f5, f6, f7, f8⟩ := nineFT hF'
  have HF := Lib.hid hF
  clear hb1 hF hF'
  by_cases hneg : waves < 0
  · have d1 : decide (waves < 0) = true := decide_eq_true hneg
    have HN := Lib.hid hneg
    clear hneg
    go_wp2_with fail
    have q0 := filledT (s0 := St.zero) (M0 := .slice none 0 0) (F0 := .slice none 0 0) (.slice none 0 0) (.slice none 0 0) (.int .i64 0) (.int .i64 0) (.int .i64 0) (.int .i64 0) (.int .i64 0) (.int .i64 0) (.bool false) HF.out
    have q2 := filled_below w.heap.size w1 (w.heap.size + 1) (by omega) (.slice none 0 0) (.slice none 0 0) (.int .i64 0) (.int .i64 0) (.int .i64 0) (.int .i64 0) (.int .i64 0) (.int .i64 0) (.bool false)
    obtain ⟨X, hX⟩ : ∃ X, (((((((((w1.setCell ⟨w.heap.size + 1, 0, none⟩ (.slice none 0 0)).setCell ⟨w.heap.size + 1, 1, none⟩ (.slice none 0 0)).setCell ⟨w.heap.size + 1, 2, none⟩ (.int .i64 0)).setCell ⟨w.heap.size + 1, 3, none⟩ (.int .i64 0)).setCell ⟨w.heap.size + 1, 4, none⟩ (.int .i64 0)).setCell ⟨w.heap.size + 1, 5, none⟩ (.int .i64 0)).setCell ⟨w.heap.size + 1, 6, none⟩ (.int .i64 0)).setCell ⟨w.heap.size + 1, 7, none⟩ (.int .i64 0)).setCell ⟨w.heap.size + 1, 8, none⟩ (.bool false)) = X := ⟨_, rfl⟩
    rw [hX] at q0 q2 ⊢
    refine bodyPost_ret (rdetect_results _ X _ St.zero _ _ 4 rfl rfl q0) rfl ?_
    exact ⟨_, _, _, _, rfl, RdS.zero _, (HW.out.2.1.trans (hHF.out.mono HW.out.2.1.size)).trans q2.1, Fresh.none _, Fresh.none _⟩
  · have d1 : decide (waves < 0) = false := decide_eq_false hneg
    have d2 : decide (100 < waves) = true := decide_eq_true (by have := HV.out; omega)
    have HN := Lib.hid hneg
    clear hneg
    go_wp2_with fail
    have q0 := filledT (s0 := St.zero) (M0 := .slice none 0 0) (F0 := .slice none 0 0) (.slice none 0 0) (.slice none 0 0) (.int .i64 0) (.int .i64 0) (.int .i64 0) (.int .i64 0) (.int .i64 0) (.int .i64 0) (.bool false) HF.out
    have q2 := filled_below w.heap.size w1 (w.heap.size + 1) (by omega) (.slice none 0 0) (.slice none 0 0) (.int .i64 0) (.int .i64 0) (.int .i64 0) (.int .i64 0) (.int .i64 0) (.int .i64 0) (.bool false)
    obtain ⟨X, hX⟩ : ∃ X, (((((((((w1.setCell ⟨w.heap.size + 1, 0, none⟩ (.slice none 0 0)).setCell ⟨w.heap.size + 1, 1, none⟩ (.slice none 0 0)).setCell ⟨w.heap.size + 1, 2, none⟩ (.int .i64 0)).setCell ⟨w.heap.size + 1, 3, none⟩ (.int .i64 0)).setCell ⟨w.heap.size + 1, 4, none⟩ (.int .i64 0)).setCell ⟨w.heap.size + 1, 5, none⟩ (.int .i64 0)).setCell ⟨w.heap.size + 1, 6, none⟩ (.int .i64 0)).setCell ⟨w.heap.size + 1, 7, none⟩ (.int .i64 0)).setCell ⟨w.heap.size + 1, 8, none⟩ (.bool false)) = X := ⟨_, rfl⟩
    rw [hX] at q0 q2 ⊢
    refine bodyPost_ret (rdetect_results _ X _ St.zero _ _ 4 rfl rfl q0) rfl ?_
    exact ⟨_, _, _, _, rfl, RdS.zero _, (HW.out.2.1.trans (hHF.out.mono HW.out.2.1.size)).trans q2.1, Fresh.none _, Fresh.none _⟩

theorem DR.below {w0 w w5 : World} {s : St} (h : DR w0 s w) (hw : Below w.heap.size w w5) : DR w0 s w5 := by
  obtain ⟨hlo, hb, A2, c2, B2, d2, hrow, hrd, f1, f2⟩ := h
  exact ⟨hlo.trans (hw.mono hlo.size), (hw.block _ (Array.getElem?_eq_some_iff.1 hb).1).trans hb, A2, c2, B2, d2, (hw.block _ (Array.getElem?_eq_some_iff.1 hrow).1).trans hrow, hrd.below hw, f1, f2⟩
theorem DR.fill {w0 w w5 : World} {s s2 : St} (h : DR w0 s w) (hw : Below w.heap.size w w5) {A : Option Addr} {B : Option Addr} (c d : Nat) (hr : RdS w5 A B s2) (hA : Fresh (w0.heap.size + 2) A) (hB : Fresh (w0.heap.size + 2) B) : DR w0 s2 (fill9 w5 w0.heap.size s2 A c B d) := by
  obtain ⟨hlo, hb, A2, c2, B2, d2, hrow, hrd, _, _⟩ := h
  have hbl := (Array.getElem?_eq_some_iff.1 hb).1
  have hrow5 := (hw.block _ (by omega)).trans hrow
  have q0 := filledT (.slice A s2.ms.length c) (.slice B s2.fl.length d) (.int .i64 s2.wn) (.int .i64 s2.ws) (.int .i64 s2.wr) (.int .i64 s2.ls) (.int .i64 s2.lr) (.int .i64 s2.wv) (.bool s2.told) hrow5
  have q1 := fill_kx w0.heap.size w0.heap.size (Nat.le_refl _) w5 (.slice A s2.ms.length c) (.slice B s2.fl.length d) (.int .i64 s2.wn) (.int .i64 s2.ws) (.int .i64 s2.wr) (.int .i64 s2.ls) (.int .i64 s2.lr) (.int .i64 s2.wv) (.bool s2.told)
  refine ⟨(hlo.trans (hw.mono hlo.size)).trans ⟨q1.1.os, q1.1.tape, q1.1.output, q1.1.size, q1.1.low⟩, q1.1.same _ _ ((hw.block _ hbl).trans hb) rfl (by omega), A, c, B, d, q0, hr.kx q1.1 (fun a ha e => by have := hA a ha; omega) (fun a ha e => by have := hB a ha; omega), fun a ha => by have := hA a ha; omega, fun a ha => by have := hB a ha; omega⟩

theorem rdetect_ok (s : St) (A : Option Addr) (c : Nat) (B : Option Addr) (d : Nat) (waves : Int) (w : World) (h : RdS w A B s) (hfine : Fine s) (h0 : 0 ≤ waves) (h1 : waves ≤ 100) :
    Calls Try.prog 18 #[s.v A c B d, .int .i64 waves] w (SPost w (detN 1001 s (s.wv + waves))) := by
  obtain ⟨W, hW⟩ : ∃ W, (w.alloc (.cells (cellsS s (.slice A s.ms.length c) (.slice B s.fl.length d)) 44)).alloc (.cells zeroS 44) = W := ⟨_, rfl⟩
  have hb : Below w.heap.size w W := by
    rw [← hW]
    exact ((Below.refl _ _).alloc (Nat.le_refl _) _).alloc (by simp) _
  have hsz : W.heap.size = w.heap.size + 2 := by rw [← hW]; simp
  have hb0 : W.heap[w.heap.size]? = some (.cells (cellsS s (.slice A s.ms.length c) (.slice B s.fl.length d)) 44 (0, 0)) := by
    rw [← hW, Below.heap_alloc _ _ _ (by simp)]; exact heap_alloc_new w _
  have hb1 : W.heap[w.heap.size + 1]? = some (.cells zeroS 44 (0, 0)) := by
    rw [← hW]
    have := heap_alloc_new (w.alloc (.cells (cellsS s (.slice A s.ms.length c) (.slice B s.fl.length d)) 44)) (.cells zeroS 44)
    simpa using this
  have hck := rcheck_calls s A c B d W (h.below hb)
  rw [(check_iff s).2 hfine] at hck
  have hfwv := hfine.wv
  have k1 : IntKind.i64.wrap (s.wv + waves) = s.wv + waves := by rw [IntKind.wrap_i64]; omega
  have d1 : decide (waves < 0) = false := decide_eq_false (by omega)
  have d2 : decide (100 < waves) = false := decide_eq_false (by omega)
  have HC := Lib.hid hck
  have HW := Lib.hid (And.intro hW (And.intro hb (And.intro hsz (And.intro hb0 hb1))))
  have HR := Lib.hid (And.intro h (And.intro hfine (And.intro h0 h1)))
  clear hck hW hb hsz hb0 hb1 h hfine h0 h1 hfwv
  go_enter Try.func18, Try.ntmps18
  go_wp2_with fail
  rw [HW.out.1]
  (with_reducible refine (HC.out).mono ?_); rintro e w1 ⟨rfl, hb1⟩
  have g0 := (hb1.block _ (by have := HW.out.2.2.1; omega)).trans HW.out.2.2.2.1
  have g1 := (hb1.block _ (by have := HW.out.2.2.1; omega)).trans HW.out.2.2.2.2
  have hlo : Below w.heap.size w w1 := HW.out.2.1.trans (hb1.mono HW.out.2.1.size)
  have hxs : w.heap.size + 2 ≤ w1.heap.size := by have := hb1.size; have := HW.out.2.2.1; omega
  have hfine := HR.out.2.1
  have hrd : RdS w1 A B s := HR.out.1.below hlo
  have hcp := rcopied_calls s A c B d w1 hrd hfine
  obtain ⟨z0, z1, z2, z3, z4, z5, z6, z7, z8⟩ := nineT g0
  have HCP := Lib.hid hcp
  have HG := Lib.hid (And.intro g0 (And.intro g1 (And.intro hlo hxs)))
  clear g0 g1 hlo hxs hfine hrd hb1 hcp
  go_upto_region 6 with fail
  go_wp2_with fail
  (with_reducible refine (HCP.out).mono ?_); rintro e w2 ⟨g, cc, Fv, rfl, ho1, ho2, hb2⟩
  obtain ⟨FA, Fc, rfl, hrF⟩ := ho2.rd lenI
  obtain ⟨A9, c9, hv9, hrM⟩ := ho1.rd lenM
  obtain ⟨rfl, _, rfl⟩ := Value.slice.inj hv9
  have r0 := (hb2.block _ (by have := HG.out.2.2.2; omega)).trans HG.out.1
  have r1 := (hb2.block _ (by have := HG.out.2.2.2; omega)).trans HG.out.2.1
  have hgb := (ho1.blk g rfl).1
  have hfb : ∀ a, FA = some a → w1.heap.size ≤ a.block := fun a ha => by subst ha; exact (ho2.blk a.block rfl).1
  obtain ⟨Y, hY⟩ : ∃ Y, fill9 w2 w.heap.size s (some ⟨g, 0, none⟩) cc FA Fc = Y := ⟨_, rfl⟩
  have hdr : DR w s Y := by
    have hx := HG.out.2.2.2
    have hst := (show DR w s w2 → True from fun _ => trivial)
    unfold fill9 at hY
    have q0 := filledT (.slice (some ⟨g, 0, none⟩) s.ms.length cc) (.slice FA s.fl.length Fc) (.int .i64 s.wn) (.int .i64 s.ws) (.int .i64 s.wr) (.int .i64 s.ls) (.int .i64 s.lr) (.int .i64 s.wv) (.bool s.told) r0
    have q1 := fill_kx w.heap.size w.heap.size (Nat.le_refl _) w2 (.slice (some ⟨g, 0, none⟩) s.ms.length cc) (.slice FA s.fl.length Fc) (.int .i64 s.wn) (.int .i64 s.ws) (.int .i64 s.wr) (.int .i64 s.ls) (.int .i64 s.lr) (.int .i64 s.wv) (.bool s.told)
    rw [hY] at q0 q1
    exact ⟨(HG.out.2.2.1.trans (hb2.mono HG.out.2.2.1.size)).trans ⟨q1.1.os, q1.1.tape, q1.1.output, q1.1.size, q1.1.low⟩, q1.1.same _ _ r1 rfl (by omega), some ⟨g, 0, none⟩, cc, FA, Fc, q0, (RdS.mk hrM hrF).kx q1.1 (fun a ha e => by cases ha; have : g = w.heap.size := e; omega) (fun a ha e => by have := hfb a ha; omega), fun a ha => by cases ha; show w.heap.size + 2 ≤ g; omega, fun a ha => by have := hfb a ha; omega⟩
  unfold fill9 at hY
  have HY := Lib.hid (And.intro hY hdr)
  clear z0 z1 z2 z3 z4 z5 z6 z7 z8
  obtain ⟨z0, z1, z2, z3, z4, z5, z6, z7, z8⟩ := nineT r0
  obtain ⟨f0, f1, f2, f3, f4, f5, f6, f7, f8⟩ := nineFT r0
  clear hY hdr r0 r1 ho1 ho2 hb2 hrM hrF hgb hfb hv9
  go_upto_region 7 with fail
  rw [HY.out.1]
  clear z0 z1 z2 z3 z4 z5 z6 z7 z8 f0 f1 f2 f3 f4 f5 f6 f7 f8
  have hcut := HY.out.2
  · have HD := Lib.hid hcut
    obtain ⟨hlo, hzz, A2, c2, B2, d2, hrow, hrd, f1, f2⟩ := hcut
    obtain ⟨z0, z1, z2, z3, z4, z5, z6, z7, z8⟩ := nineT hrow
    clear hlo hzz hrow hrd f1 f2
    go_wp2_with fail
    clear z0 z1 z2 z3 z4 z5 z6 z7 z8
    go_loopg [8, 9, 29, 30, 31, 32, 33, 34, 35, 36, 37, 38, 39, 40, 41, 42, 43, 44, 45, 46, 47] 1001 (fun g v8 v9 v29 v30 v31 v32 v33 v34 v35 v36 v37 v38 v39 v40 v41 v42 v43 v44 v45 v46 v47 wr => ∃ s' : St, DR w s' wr ∧ Fine s' ∧ (s.wv + waves - s'.wv) * s'.ms.length - s'.wn ≤ g ∧ detN g s' (s.wv + waves) = detN 1001 s (s.wv + waves))
    case atStart =>
      refine ⟨s, HD.out, HR.out.2.1, ?_, rfl⟩
      have e0 : s.wv + waves - s.wv = waves := by omega
      have hn := HR.out.2.1.n1
      have hw0 := HR.out.2.1.wn
      have hm : waves * (s.ms.length : Int) ≤ 100 * 10 := Int.mul_le_mul HR.out.2.2.2 (by omega) (by omega) (by omega)
      rw [e0]; omega
    case round =>
      obtain ⟨s1, hdi, hfi, hms, hdet⟩ := hrel
      have hwv := hfi.wv
      have hpos : ∀ D : Int, 0 < D → (s1.ms.length : Int) ≤ D * s1.ms.length := fun D hD => by
        have := Int.mul_le_mul_of_nonneg_right (show (1 : Int) ≤ D by omega) (show (0 : Int) ≤ (s1.ms.length : Int) by omega)
        omega
      have hmul : ∀ D : Int, (D - 1) * s1.ms.length = D * s1.ms.length - s1.ms.length := fun D => by rw [Int.sub_mul, Int.one_mul]
      have HD := Lib.hid (And.intro hdi (And.intro hfi (And.intro hms (And.intro hdet (And.intro hpos hmul)))))
      obtain ⟨hlo, hzz, A2, c2, B2, d2, hrow, hrd, f1, f2⟩ := hdi
      obtain ⟨z0, z1, z2, z3, z4, z5, z6, z7, z8⟩ := nineT hrow
      have HN := Lib.hid (And.intro hrow (And.intro hrd (And.intro f1 f2)))
      have HZ := Lib.hid hzz
      clear hlo hzz hrow hrd f1 f2 hfi hms hdet hpos hmul hwv
      go_upto_region 8 with fail
      go_cut [37] (fun s37 wx => s37 = .bool (!s1.told && decide (s1.wv < s.wv + waves)) ∧ wr = wx)
      case first =>
        cases ht : s1.told with
        | true =>
          rw [ht] at z8
          go_wp2_with fail
          go_meet
          exact ⟨by rw [ht]; rfl, rfl⟩
        | false =>
          rw [ht] at z8
          go_wp2_with fail
          go_meet
          exact ⟨by rw [ht]; rfl, rfl⟩
      case rest =>
        obtain ⟨rfl, rfl⟩ := hcut
        cases hgo : (!s1.told && decide (s1.wv < s.wv + waves)) with
        | false =>
          have HDN := Lib.hid (detN_done gk s1 _ hgo)
          have HGO := Lib.hid hgo
          clear hgo
          have hF' : wr.heap[w.heap.size + 1]? = some (.cells (cellsS St.zero (.slice none 0 0) (.slice none 0 0)) 44 (0, 0)) := HZ.out
          obtain ⟨y0, y1, y2, y3, y4, y5, y6, y7, y8⟩ := nineT hF'
          obtain ⟨p0, p1, p2, p3, p4, p5, p6, p7, p8⟩ := nineFT hF'
          have q0 := filledT (s0 := St.zero) (M0 := .slice none 0 0) (F0 := .slice none 0 0) (.slice A2 s1.ms.length c2) (.slice B2 s1.fl.length d2) (.int .i64 s1.wn) (.int .i64 s1.ws) (.int .i64 s1.wr) (.int .i64 s1.ls) (.int .i64 s1.lr) (.int .i64 s1.wv) (.bool s1.told) HZ.out
          have q1 := fill_kx w.heap.size (w.heap.size + 1) (by omega) wr (.slice A2 s1.ms.length c2) (.slice B2 s1.fl.length d2) (.int .i64 s1.wn) (.int .i64 s1.ws) (.int .i64 s1.wr) (.int .i64 s1.ls) (.int .i64 s1.lr) (.int .i64 s1.wv) (.bool s1.told)
          obtain ⟨Z, hZ⟩ : ∃ Z, fill9 wr (w.heap.size + 1) s1 A2 c2 B2 d2 = Z := ⟨_, rfl⟩
          unfold fill9 at hZ
          rw [hZ] at q0 q1
          have HQ := Lib.hid (And.intro hZ (And.intro q0 q1))
          clear hF' q0 q1 hZ
          go_wp2_with fail
          rw [HQ.out.1]
          refine bodyPost_ret (rdetect_results _ Z _ s1 _ _ 0 rfl rfl HQ.out.2.1) rfl ?_
          rw [← HD.out.2.2.2.1, HDN.out]
          have k1 := HQ.out.2.2.1
          exact ⟨A2, c2, B2, d2, rfl, HN.out.2.1.kx k1 (fun a ha e => by have := HN.out.2.2.1 a ha; omega) (fun a ha e => by have := HN.out.2.2.2 a ha; omega), HD.out.1.lo.trans ⟨k1.os, k1.tape, k1.output, k1.size, k1.low⟩, fun a ha => by have := HN.out.2.2.1 a ha; omega, fun a ha => by have := HN.out.2.2.2 a ha; omega⟩
        | true =>
          have hlt : s1.wv < s.wv + waves := by simp at hgo; exact hgo.2
          obtain ⟨g1, rfl⟩ : ∃ g1, gk = g1 + 1 := ⟨gk - 1, by
            have := HD.out.2.2.2.2.1 (s.wv + waves - s1.wv) (by omega)
            have := HD.out.2.2.1
            have := HD.out.2.1.wn
            omega⟩
          have hd1 : detN (g1 + 1) s1 (s.wv + waves) = (if (stepF s1 ⟨4, 0, 0⟩).2 = 0 then detN g1 (stepF s1 ⟨4, 0, 0⟩).1 (s.wv + waves) else (St.zero, (stepF s1 ⟨4, 0, 0⟩).2)) := by
            simp only [detN, hgo, if_true]
          have hst := rask_calls s1 A2 c2 B2 d2 wr HN.out.2.1 HD.out.2.1
          rw [ask_is HD.out.2.1] at hst
          have hask := asked HD.out.2.1
          generalize stepF s1 ⟨4, 0, 0⟩ = r at hst hask hd1
          obtain ⟨s2, k⟩ := r
          simp only at hst hask hd1
          have HS := Lib.hid hst
          have HA := Lib.hid (And.intro hask (And.intro hd1 (And.intro hgo hlt)))
          clear hst hask hd1 hgo hlt
          go_wp2_with fail
          (with_reducible refine (HS.out).mono ?_); rintro e w5 ⟨A3, c3, B3, d3, rfl, hrd5, hb5, hor⟩
          have hfA : Fresh (w.heap.size + 2) A3 := by
            rcases hor with ⟨e1, _⟩ | ⟨e1, _⟩
            · rw [e1]; exact HN.out.2.2.1
            · rw [e1]; exact Fresh.none _
          have hfB : Fresh (w.heap.size + 2) B3 := by
            rcases hor with ⟨_, e1⟩ | ⟨_, e1⟩
            · rw [e1]; exact HN.out.2.2.2
            · rw [e1]; exact Fresh.none _
          clear hor
          obtain ⟨W5, hW5⟩ : ∃ W5, w5.alloc (.cells (cellsS s2 (.slice A3 s2.ms.length c3) (.slice B3 s2.fl.length d3)) 44) = W5 := ⟨_, rfl⟩
          have hb6 : Below w5.heap.size w5 W5 := by rw [← hW5]; exact (Below.refl _ _).alloc (Nat.le_refl _) _
          have hr6 : W5.heap[w5.heap.size]? = some (.cells (cellsS s2 (.slice A3 s2.ms.length c3) (.slice B3 s2.fl.length d3)) 44 (0, 0)) := by rw [← hW5]; exact heap_alloc_new w5 _
          have hbw : Below wr.heap.size wr W5 := hb5.trans (hb6.mono hb5.size)
          have hdi := HD.out.1.below hbw
          have hn5 := (hbw.block _ (Array.getElem?_eq_some_iff.1 HN.out.1).1).trans HN.out.1
          have hz5 := (hbw.block _ (Array.getElem?_eq_some_iff.1 HZ.out).1).trans HZ.out
          have H5 := Lib.hid (And.intro hW5 (And.intro hbw (And.intro hdi (And.intro (hrd5.below hb6) (And.intro hfA hfB)))))
          clear z0 z1 z2 z3 z4 z5 z6 z7 z8
          clear hW5 hb6 hbw hdi hrd5 hb5 hfA hfB
          by_cases hk : k = 0
          · subst hk
            obtain ⟨z0, z1, z2, z3, z4, z5, z6, z7, z8⟩ := nineT hr6
            obtain ⟨y0, y1, y2, y3, y4, y5, y6, y7, y8⟩ := nineT hn5
            obtain ⟨p0, p1, p2, p3, p4, p5, p6, p7, p8⟩ := nineFT hn5
            have H6 := Lib.hid (And.intro hr6 (And.intro hn5 hz5))
            clear hr6 hn5 hz5
            go_upto_region 10 with fail
            rw [H5.out.1]
            go_wp2_with fail
            go_roundg g1
            case measure => omega
            case rel =>
              obtain ⟨hf2, hm2, hfl2, hw2⟩ := HA.out.1 trivial
              refine ⟨s2, HD.out.1.fill H5.out.2.1 c3 d3 H5.out.2.2.2.1 H5.out.2.2.2.2.1 H5.out.2.2.2.2.2, hf2, ?_, ?_⟩
              · have h1 := HD.out.2.2.1
                rw [hm2]
                rcases hw2 with ⟨e1, e2⟩ | ⟨e1, e2, e3⟩
                · rw [e1, e2]; omega
                · rw [e1, e2]
                  have := HD.out.2.2.2.2.2 (s.wv + waves - s1.wv)
                  rw [show s.wv + waves - (s1.wv + 1) = s.wv + waves - s1.wv - 1 by omega]
                  omega
              · rw [← HD.out.2.2.2.1, HA.out.2.1, if_pos trivial]
          · have hkb : (k != 0) = true := by rw [bne_iff_ne]; exact hk
            have HK := Lib.hid hk
            have hF' : W5.heap[w.heap.size + 1]? = some (.cells (cellsS St.zero (.slice none 0 0) (.slice none 0 0)) 44 (0, 0)) := hz5
            obtain ⟨y0, y1, y2, y3, y4, y5, y6, y7, y8⟩ := nineT hF'
            obtain ⟨p0, p1, p2, p3, p4, p5, p6, p7, p8⟩ := nineFT hF'
            have q0 := filledT (s0 := St.zero) (M0 := .slice none 0 0) (F0 := .slice none 0 0) (.slice none 0 0) (.slice none 0 0) (.int .i64 0) (.int .i64 0) (.int .i64 0) (.int .i64 0) (.int .i64 0) (.int .i64 0) (.bool false) hz5
            have q2 := filled_below w.heap.size W5 (w.heap.size + 1) (by omega) (.slice none 0 0) (.slice none 0 0) (.int .i64 0) (.int .i64 0) (.int .i64 0) (.int .i64 0) (.int .i64 0) (.int .i64 0) (.bool false)
            obtain ⟨X, hX⟩ : ∃ X, (((((((((W5.setCell ⟨w.heap.size + 1, 0, none⟩ (.slice none 0 0)).setCell ⟨w.heap.size + 1, 1, none⟩ (.slice none 0 0)).setCell ⟨w.heap.size + 1, 2, none⟩ (.int .i64 0)).setCell ⟨w.heap.size + 1, 3, none⟩ (.int .i64 0)).setCell ⟨w.heap.size + 1, 4, none⟩ (.int .i64 0)).setCell ⟨w.heap.size + 1, 5, none⟩ (.int .i64 0)).setCell ⟨w.heap.size + 1, 6, none⟩ (.int .i64 0)).setCell ⟨w.heap.size + 1, 7, none⟩ (.int .i64 0)).setCell ⟨w.heap.size + 1, 8, none⟩ (.bool false)) = X := ⟨_, rfl⟩
            rw [hX] at q0 q2
            have HQ := Lib.hid (And.intro hX (And.intro q0 q2))
            clear hr6 hn5 hz5 hF' hk hX q0 q2
            go_upto_region 10 with fail
            rw [H5.out.1]
            go_wp2_with fail
            rw [HQ.out.1]
            refine bodyPost_ret (rdetect_results _ X _ St.zero _ _ k rfl rfl HQ.out.2.1) rfl ?_
            rw [← HD.out.2.2.2.1, HA.out.2.1, if_neg HK.out]
            exact ⟨_, _, _, _, rfl, RdS.zero _, H5.out.2.2.1.lo.trans (HQ.out.2.2.1.mono (Nat.le_refl _)), Fresh.none _, Fresh.none _⟩

theorem rdetect_calls (s : St) (A : Option Addr) (c : Nat) (B : Option Addr) (d : Nat) (waves : Int) (w : World) (h : RdS w A B s) :
    Calls Try.prog 18 #[s.v A c B d, .int .i64 waves] w (SPost w (detF s waves)) := by
  unfold detF
  split
  · rename_i hk
    split
    · rename_i hv
      exact rdetect_ok s A c B d waves w h ((check_iff s).1 hk) hv.1 hv.2
    · rename_i hv
      exact rdetect_range s A c B d waves w h hk hv
  · rename_i hk
    exact rdetect_bad s A c B d waves w h hk
end Go.Proofs.Ythpcipfloofbcaa
