import Derived.Test.YthpcipfloofbcaaW
import Derived.Deep.DeepCutAuto
namespace Go.Proofs.Ythpcipfloofbcaa
open Go.RowKit
set_option maxHeartbeats 4000000
set_option maxRecDepth 100000
set_option linter.unusedSimpArgs false
set_option linter.unusedVariables false
attribute [local irreducible] wpStill

/-- asks, so many at most, until the end is told or a count of waves is reached -/
def detN : Nat → St → Int → St × Int
  | 0, s, _ => (s, 0)
  | g + 1, s, e => if !s.told && decide (s.wv < e) then (if (stepF s ⟨4, 0, 0⟩).2 = 0 then detN g (stepF s ⟨4, 0, 0⟩).1 e else (St.zero, (stepF s ⟨4, 0, 0⟩).2)) else (s, 0)
def detF (s : St) (waves : Int) : St × Int := if checkF s = 0 then (if 0 ≤ waves ∧ waves ≤ 100 then detN 1001 s (s.wv + waves) else (St.zero, 4)) else (St.zero, checkF s)

theorem detN_done (g : Nat) (s : St) (e : Int) (h : (!s.told && decide (s.wv < e)) = false) : detN g s e = (s, 0) := by
  cases g with
  | zero => rfl
  | succ g => simp only [detN, h]; rfl

theorem detect_results (tmps : Array Value) (X : World) (bo : Nat) (r : St) (Mv Fv : Value) (k : Int) (h4 : tmps[4]?.getD undef = .pointer (some ⟨bo, 0, none⟩)) (h5 : tmps[5]?.getD undef = .int .i64 k)
    (hb : X.heap[bo]? = some (.cells (cellsS r Mv Fv) 27 (0, 0))) :
    (results Try.f17 tmps).run Try.prog X = .ok (.tuple #[.agg (cellsS r Mv Fv), .int .i64 k]) X := by
  obtain ⟨z0, z1, z2, z3, z4, z5, z6, z7, z8⟩ := nine hb
  simp [results, Try.results17, go_sem, h4, h5, z0, z1, z2, z3, z4, z5, z6, z7, z8]

structure DI (w0 : World) (s : St) (W : World) : Prop where
  lo : Below w0.heap.size w0 W
  b1 : W.heap[w0.heap.size + 1]? = some (.cells zeroS 27 (0, 0))
  row : ∃ A c B d, W.heap[w0.heap.size]? = some (.cells (cellsS s (.slice A s.ms.length c) (.slice B s.fl.length d)) 27 (0, 0)) ∧ RdS W A B s ∧ Fresh (w0.heap.size + 2) A ∧ Fresh (w0.heap.size + 2) B

theorem detect_bad (s : St) (A : Option Addr) (c : Nat) (B : Option Addr) (d : Nat) (waves : Int) (w : World) (h : RdS w A B s) (hk : ¬ checkF s = 0) :
    Calls Try.prog 17 #[s.v A c B d, .int .i64 waves] w (SPost w (St.zero, checkF s)) := by
  obtain ⟨W, hW⟩ : ∃ W, (w.alloc (.cells (cellsS s (.slice A s.ms.length c) (.slice B s.fl.length d)) 27)).alloc (.cells zeroS 27) = W := ⟨_, rfl⟩
  have hb : Below w.heap.size w W := by
    rw [← hW]
    exact ((Below.refl _ _).alloc (Nat.le_refl _) _).alloc (by simp) _
  have hsz : W.heap.size = w.heap.size + 2 := by rw [← hW]; simp
  have hb1 : W.heap[w.heap.size + 1]? = some (.cells zeroS 27 (0, 0)) := by
    rw [← hW]
    have := heap_alloc_new (w.alloc (.cells (cellsS s (.slice A s.ms.length c) (.slice B s.fl.length d)) 27)) (.cells zeroS 27)
    simpa using this
  have hck := check_calls s A c B d W (h.below hb)
  have HC := Lib.hid hck
  have HW := Lib.hid (And.intro hW (And.intro hb (And.intro hsz hb1)))
  have hkc : (checkF s != 0) = true := by rw [bne_iff_ne]; exact hk
  have HK := Lib.hid hk
  clear hck hW hb hsz hb1 h hk
  go_enter Try.func17, Try.ntmps17
  go_wp2_with fail
  rw [HW.out.1]
  (with_reducible refine (HC.out).mono ?_); rintro e w1 ⟨rfl, hb1⟩
  have hF := (hb1.block _ (by have := HW.out.2.2.1; omega)).trans HW.out.2.2.2
  have hHF := Lib.hid hb1
  have hF' : w1.heap[w.heap.size + 1]? = some (.cells (cellsS St.zero (.slice none 0 0) (.slice none 0 0)) 27 (0, 0)) := hF
  obtain ⟨z0, z1, z2, z3, z4, z5, z6, z7, z8⟩ := nine hF'
  obtain ⟨f0, f1, f2, f3, f4, f5, f6, f7, f8⟩ := nineF hF'
  have HF := Lib.hid hF
  clear hb1 hF hF'
  go_wp2_with fail
  have q0 := filled (s0 := St.zero) (M0 := .slice none 0 0) (F0 := .slice none 0 0) (.slice none 0 0) (.slice none 0 0) (.int .i64 0) (.int .i64 0) (.int .i64 0) (.int .i64 0) (.int .i64 0) (.int .i64 0) (.bool false) HF.out
  have q2 := filled_below w.heap.size w1 (w.heap.size + 1) (by omega) (.slice none 0 0) (.slice none 0 0) (.int .i64 0) (.int .i64 0) (.int .i64 0) (.int .i64 0) (.int .i64 0) (.int .i64 0) (.bool false)
  obtain ⟨X, hX⟩ : ∃ X, (((((((((w1.setCell ⟨w.heap.size + 1, 0, none⟩ (.slice none 0 0)).setCell ⟨w.heap.size + 1, 1, none⟩ (.slice none 0 0)).setCell ⟨w.heap.size + 1, 2, none⟩ (.int .i64 0)).setCell ⟨w.heap.size + 1, 3, none⟩ (.int .i64 0)).setCell ⟨w.heap.size + 1, 4, none⟩ (.int .i64 0)).setCell ⟨w.heap.size + 1, 5, none⟩ (.int .i64 0)).setCell ⟨w.heap.size + 1, 6, none⟩ (.int .i64 0)).setCell ⟨w.heap.size + 1, 7, none⟩ (.int .i64 0)).setCell ⟨w.heap.size + 1, 8, none⟩ (.bool false)) = X := ⟨_, rfl⟩
  rw [hX] at q0 q2 ⊢
  refine bodyPost_ret (detect_results _ X _ St.zero _ _ (checkF s) rfl rfl q0) rfl ?_
  exact ⟨_, _, _, _, rfl, RdS.zero _, (HW.out.2.1.trans (hHF.out.mono HW.out.2.1.size)).trans q2.1, Fresh.none _, Fresh.none _⟩
theorem detect_range (s : St) (A : Option Addr) (c : Nat) (B : Option Addr) (d : Nat) (waves : Int) (w : World) (h : RdS w A B s) (hk : checkF s = 0) (hv : ¬ (0 ≤ waves ∧ waves ≤ 100)) :
    Calls Try.prog 17 #[s.v A c B d, .int .i64 waves] w (SPost w (St.zero, 4)) := by
  obtain ⟨W, hW⟩ : ∃ W, (w.alloc (.cells (cellsS s (.slice A s.ms.length c) (.slice B s.fl.length d)) 27)).alloc (.cells zeroS 27) = W := ⟨_, rfl⟩
  have hb : Below w.heap.size w W := by
    rw [← hW]
    exact ((Below.refl _ _).alloc (Nat.le_refl _) _).alloc (by simp) _
  have hsz : W.heap.size = w.heap.size + 2 := by rw [← hW]; simp
  have hb1 : W.heap[w.heap.size + 1]? = some (.cells zeroS 27 (0, 0)) := by
    rw [← hW]
    have := heap_alloc_new (w.alloc (.cells (cellsS s (.slice A s.ms.length c) (.slice B s.fl.length d)) 27)) (.cells zeroS 27)
    simpa using this
  have hck := check_calls s A c B d W (h.below hb)
  have HC := Lib.hid hck
  have HW := Lib.hid (And.intro hW (And.intro hb (And.intro hsz hb1)))
  have hkc : (checkF s != 0) = false := by rw [bne_eq_false_iff_eq]; exact hk
  have HV := Lib.hid hv
  have HK := Lib.hid hk
  clear hck hW hb hsz hb1 h hk hv
  go_enter Try.func17, Try.ntmps17
  go_wp2_with fail
  rw [HW.out.1]
  (with_reducible refine (HC.out).mono ?_); rintro e w1 ⟨rfl, hb1⟩
  have hF := (hb1.block _ (by have := HW.out.2.2.1; omega)).trans HW.out.2.2.2
  have hHF := Lib.hid hb1
  have hF' : w1.heap[w.heap.size + 1]? = some (.cells (cellsS St.zero (.slice none 0 0) (.slice none 0 0)) 27 (0, 0)) := hF
  obtain ⟨z0, z1, z2, z3, z4, z5, z6, z7, z8⟩ := nine hF'
  obtain ⟨f0, f1, f2, f3, f4, f5, f6, f7, f8⟩ := nineF hF'
  have HF := Lib.hid hF
  clear hb1 hF hF'
  by_cases hneg : waves < 0
  · have d1 : decide (waves < 0) = true := decide_eq_true hneg
    have HN := Lib.hid hneg
    clear hneg
    go_wp2_with fail
    have q0 := filled (s0 := St.zero) (M0 := .slice none 0 0) (F0 := .slice none 0 0) (.slice none 0 0) (.slice none 0 0) (.int .i64 0) (.int .i64 0) (.int .i64 0) (.int .i64 0) (.int .i64 0) (.int .i64 0) (.bool false) HF.out
    have q2 := filled_below w.heap.size w1 (w.heap.size + 1) (by omega) (.slice none 0 0) (.slice none 0 0) (.int .i64 0) (.int .i64 0) (.int .i64 0) (.int .i64 0) (.int .i64 0) (.int .i64 0) (.bool false)
    obtain ⟨X, hX⟩ : ∃ X, (((((((((w1.setCell ⟨w.heap.size + 1, 0, none⟩ (.slice none 0 0)).setCell ⟨w.heap.size + 1, 1, none⟩ (.slice none 0 0)).setCell ⟨w.heap.size + 1, 2, none⟩ (.int .i64 0)).setCell ⟨w.heap.size + 1, 3, none⟩ (.int .i64 0)).setCell ⟨w.heap.size + 1, 4, none⟩ (.int .i64 0)).setCell ⟨w.heap.size + 1, 5, none⟩ (.int .i64 0)).setCell ⟨w.heap.size + 1, 6, none⟩ (.int .i64 0)).setCell ⟨w.heap.size + 1, 7, none⟩ (.int .i64 0)).setCell ⟨w.heap.size + 1, 8, none⟩ (.bool false)) = X := ⟨_, rfl⟩
    rw [hX] at q0 q2 ⊢
    refine bodyPost_ret (detect_results _ X _ St.zero _ _ 4 rfl rfl q0) rfl ?_
    exact ⟨_, _, _, _, rfl, RdS.zero _, (HW.out.2.1.trans (hHF.out.mono HW.out.2.1.size)).trans q2.1, Fresh.none _, Fresh.none _⟩
  · have d1 : decide (waves < 0) = false := decide_eq_false hneg
    have d2 : decide (100 < waves) = true := decide_eq_true (by have := HV.out; omega)
    have HN := Lib.hid hneg
    clear hneg
    go_wp2_with fail
    have q0 := filled (s0 := St.zero) (M0 := .slice none 0 0) (F0 := .slice none 0 0) (.slice none 0 0) (.slice none 0 0) (.int .i64 0) (.int .i64 0) (.int .i64 0) (.int .i64 0) (.int .i64 0) (.int .i64 0) (.bool false) HF.out
    have q2 := filled_below w.heap.size w1 (w.heap.size + 1) (by omega) (.slice none 0 0) (.slice none 0 0) (.int .i64 0) (.int .i64 0) (.int .i64 0) (.int .i64 0) (.int .i64 0) (.int .i64 0) (.bool false)
    obtain ⟨X, hX⟩ : ∃ X, (((((((((w1.setCell ⟨w.heap.size + 1, 0, none⟩ (.slice none 0 0)).setCell ⟨w.heap.size + 1, 1, none⟩ (.slice none 0 0)).setCell ⟨w.heap.size + 1, 2, none⟩ (.int .i64 0)).setCell ⟨w.heap.size + 1, 3, none⟩ (.int .i64 0)).setCell ⟨w.heap.size + 1, 4, none⟩ (.int .i64 0)).setCell ⟨w.heap.size + 1, 5, none⟩ (.int .i64 0)).setCell ⟨w.heap.size + 1, 6, none⟩ (.int .i64 0)).setCell ⟨w.heap.size + 1, 7, none⟩ (.int .i64 0)).setCell ⟨w.heap.size + 1, 8, none⟩ (.bool false)) = X := ⟨_, rfl⟩
    rw [hX] at q0 q2 ⊢
    refine bodyPost_ret (detect_results _ X _ St.zero _ _ 4 rfl rfl q0) rfl ?_
    exact ⟨_, _, _, _, rfl, RdS.zero _, (HW.out.2.1.trans (hHF.out.mono HW.out.2.1.size)).trans q2.1, Fresh.none _, Fresh.none _⟩

theorem asked {s : St} (hf : Fine s) (h : (stepF s ⟨4, 0, 0⟩).2 = 0) : Fine (stepF s ⟨4, 0, 0⟩).1 ∧ (stepF s ⟨4, 0, 0⟩).1.ms = s.ms ∧ (stepF s ⟨4, 0, 0⟩).1.fl = s.fl ∧ (((stepF s ⟨4, 0, 0⟩).1.wn = s.wn + 1 ∧ (stepF s ⟨4, 0, 0⟩).1.wv = s.wv) ∨ ((stepF s ⟨4, 0, 0⟩).1.wn = 0 ∧ (stepF s ⟨4, 0, 0⟩).1.wv = s.wv + 1 ∧ s.wn + 1 = s.ms.length)) := by
  refine ⟨(step_went h hf (fun k hk => moveF_error hk)).fine hf, ?_⟩
  have hw := hf.wn
  unfold stepF at h ⊢
  rw [if_pos ((check_iff s).2 hf)] at h ⊢
  rw [if_pos (by decide)] at h ⊢
  have e : moveF s ⟨4, 0, 0⟩ = askF s := rfl
  rw [e] at h ⊢
  cases ha : askF s with
  | error k => rw [ha] at h; exact absurd h (moveF_error (m := ⟨4, 0, 0⟩) (e.trans ha))
  | ok s' =>
    unfold askF at ha
    split at ha
    · simp at ha
    · split at ha
      · simp at ha
      · split at ha
        · split at ha
          · cases ha; exact ⟨rfl, rfl, .inl ⟨rfl, rfl⟩⟩
          · cases ha; exact ⟨rfl, rfl, .inr ⟨rfl, rfl, by omega⟩⟩
        · simp at ha

theorem DI.below {w0 w w5 : World} {s : St} (h : DI w0 s w) (hw : Below w.heap.size w w5) : DI w0 s w5 := by
  obtain ⟨hlo, hb, A2, c2, B2, d2, hrow, hrd, f1, f2⟩ := h
  exact ⟨hlo.trans (hw.mono hlo.size), (hw.block _ (Array.getElem?_eq_some_iff.1 hb).1).trans hb, A2, c2, B2, d2, (hw.block _ (Array.getElem?_eq_some_iff.1 hrow).1).trans hrow, hrd.below hw, f1, f2⟩
theorem DI.fill {w0 w w5 : World} {s s2 : St} (h : DI w0 s w) (hw : Below w.heap.size w w5) {A : Option Addr} {B : Option Addr} (c d : Nat) (hr : RdS w5 A B s2) (hA : Fresh w.heap.size A) (hB : Fresh w.heap.size B) : DI w0 s2 (fill9 w5 w0.heap.size s2 A c B d) := by
  obtain ⟨hlo, hb, A2, c2, B2, d2, hrow, hrd, _, _⟩ := h
  have hbl := (Array.getElem?_eq_some_iff.1 hb).1
  have hrow5 := (hw.block _ (by omega)).trans hrow
  have q0 := filled (.slice A s2.ms.length c) (.slice B s2.fl.length d) (.int .i64 s2.wn) (.int .i64 s2.ws) (.int .i64 s2.wr) (.int .i64 s2.ls) (.int .i64 s2.lr) (.int .i64 s2.wv) (.bool s2.told) hrow5
  have q1 := fill_kx w0.heap.size w0.heap.size (Nat.le_refl _) w5 (.slice A s2.ms.length c) (.slice B s2.fl.length d) (.int .i64 s2.wn) (.int .i64 s2.ws) (.int .i64 s2.wr) (.int .i64 s2.ls) (.int .i64 s2.lr) (.int .i64 s2.wv) (.bool s2.told)
  refine ⟨(hlo.trans (hw.mono hlo.size)).trans ⟨q1.1.os, q1.1.tape, q1.1.output, q1.1.size, q1.1.low⟩, q1.1.same _ _ ((hw.block _ hbl).trans hb) rfl (by omega), A, c, B, d, q0, hr.kx q1.1 (fun a ha e => by have := hA a ha; omega) (fun a ha e => by have := hB a ha; omega), fun a ha => by have := hA a ha; omega, fun a ha => by have := hB a ha; omega⟩

theorem detect_ok (s : St) (A : Option Addr) (c : Nat) (B : Option Addr) (d : Nat) (waves : Int) (w : World) (h : RdS w A B s) (hfine : Fine s) (h0 : 0 ≤ waves) (h1 : waves ≤ 100) :
    Calls Try.prog 17 #[s.v A c B d, .int .i64 waves] w (SPost w (detN 1001 s (s.wv + waves))) := by
  obtain ⟨W, hW⟩ : ∃ W, (w.alloc (.cells (cellsS s (.slice A s.ms.length c) (.slice B s.fl.length d)) 27)).alloc (.cells zeroS 27) = W := ⟨_, rfl⟩
  have hb : Below w.heap.size w W := by
    rw [← hW]
    exact ((Below.refl _ _).alloc (Nat.le_refl _) _).alloc (by simp) _
  have hsz : W.heap.size = w.heap.size + 2 := by rw [← hW]; simp
  have hb0 : W.heap[w.heap.size]? = some (.cells (cellsS s (.slice A s.ms.length c) (.slice B s.fl.length d)) 27 (0, 0)) := by
    rw [← hW, Below.heap_alloc _ _ _ (by simp)]; exact heap_alloc_new w _
  have hb1 : W.heap[w.heap.size + 1]? = some (.cells zeroS 27 (0, 0)) := by
    rw [← hW]
    have := heap_alloc_new (w.alloc (.cells (cellsS s (.slice A s.ms.length c) (.slice B s.fl.length d)) 27)) (.cells zeroS 27)
    simpa using this
  have hck := check_calls s A c B d W (h.below hb)
  rw [(check_iff s).2 hfine] at hck
  have hfwv := hfine.wv
  have k1 : IntKind.i64.wrap (s.wv + waves) = s.wv + waves := by rw [IntKind.wrap_i64]; omega
  have d1 : decide (waves < 0) = false := decide_eq_false (by omega)
  have d2 : decide (100 < waves) = false := decide_eq_false (by omega)
  have HC := Lib.hid hck
  have HW := Lib.hid (And.intro hW (And.intro hb (And.intro hsz (And.intro hb0 hb1))))
  have HR := Lib.hid (And.intro h (And.intro hfine (And.intro h0 h1)))
  clear hck hW hb hsz hb0 hb1 h hfine h0 h1 hfwv
  go_enter Try.func17, Try.ntmps17
  go_wp2_with fail
  rw [HW.out.1]
  (with_reducible refine (HC.out).mono ?_); rintro e w1 ⟨rfl, hb1⟩
  have g0 := (hb1.block _ (by have := HW.out.2.2.1; omega)).trans HW.out.2.2.2.1
  have g1 := (hb1.block _ (by have := HW.out.2.2.1; omega)).trans HW.out.2.2.2.2
  have hlo : Below w.heap.size w w1 := HW.out.2.1.trans (hb1.mono HW.out.2.1.size)
  have hxs : w.heap.size + 2 ≤ w1.heap.size := by have := hb1.size; have := HW.out.2.2.1; omega
  have hfine := HR.out.2.1
  have hrd : RdS w1 A B s := HR.out.1.below hlo
  have c1 := cloneM_calls A s.ms c w1.drew hrd.ms.drew (by have := hfine.n1; omega)
  have c2 : ∀ w2, Below w1.drew.heap.size w1.drew w2 → Calls Try.prog 27 #[.slice B s.fl.length d] w2 (ClonePost encI 1 3 s.fl w2) := fun w2 hw2 => cloneI_calls B s.fl d w2 (hrd.fl.below (show Below w1.heap.size w1 w2 from ⟨hw2.os, hw2.tape, hw2.output, hw2.size, hw2.block⟩)) (by have := hfine.fl; omega)
  have x0 := cell_of_row _ w.heap.size 0 _ _ _ g0
  have x1 := cell_of_row _ w.heap.size 1 _ _ _ g0
  simp at x0 x1
  have hl0 : w.heap.size < w1.drew.heap.size := (Array.getElem?_eq_some_iff.1 g0).1
  have HC1 := Lib.hid c1
  have HC2 := Lib.hid c2
  have HG := Lib.hid (And.intro g0 (And.intro g1 (And.intro hlo (And.intro hxs (And.intro hfine hl0)))))
  clear c1 c2 g0 g1 hlo hxs hfine hrd hl0 hb1
  go_upto_region 6 with fail
  go_cut [29] (fun s29 wc => DI w s wc)
  case first =>
    go_region_with (first | (go_at_call 26; (with_reducible refine (HC1.out).mono ?_); rintro e w2 ⟨v1, rfl, ho1, hb1⟩; obtain ⟨ga, gc, rfl, hga, hgb⟩ := World.ownsRow.form ho1 HG.out.2.2.2.2.1.n0; clear hga hgb; have y1 : w2.cell? ⟨w.heap.size, 1, none⟩ = some (.slice B s.fl.length d) := (hb1.cell (p := ⟨w.heap.size, 1, none⟩) HG.out.2.2.2.2.2).trans x1; have HO1 := Lib.hid (And.intro ho1 hb1); clear ho1 hb1) | (go_at_call 27; (with_reducible refine (HC2.out _ HO1.out.2).mono ?_); rintro e w3 ⟨v2, rfl, ho2, hb2⟩; obtain ⟨fa, fc, rfl, hfr⟩ := Own.rd lenI ho2; clear hfr; have hq3 : w3.heap[w.heap.size]? = some (.cells (cellsS s (.slice A s.ms.length c) (.slice B s.fl.length d)) 27 (0, 0)) := (hb2.block _ (Nat.lt_of_lt_of_le HG.out.2.2.2.2.2 HO1.out.2.size)).trans ((HO1.out.2.block _ HG.out.2.2.2.2.2).trans HG.out.1); have q0 := cell_of_row _ w.heap.size 0 _ _ _ hq3; have q1 := cell_of_row _ w.heap.size 1 _ _ _ hq3; have qf0 := frozen_of_row _ w.heap.size 0 _ _ hq3; have qf1 := frozen_of_row _ w.heap.size 1 _ _ hq3; simp at q0 q1; have HO2 := Lib.hid (And.intro ho2 hb2); clear ho2 hb2 hq3))
    all_goals have hcl := cloned (base := w.heap.size + 2) HG.out.2.2.2.1 HO1.out.1 (show Below w1.heap.size w1 w2 from ⟨HO1.out.2.os, HO1.out.2.tape, HO1.out.2.output, HO1.out.2.size, HO1.out.2.block⟩) HO2.out.1 HO2.out.2 HG.out.1 HG.out.2.2.2.2.1.n0
    all_goals (go_wp2_with fail; go_meet; obtain ⟨g, cc, hv, hms, hkp⟩ := hcl; obtain ⟨x, rfl, hah⟩ := ahead_of hms hkp HG.out.2.1 HG.out.2.2.1; exact ⟨hah.lo, hah.b1, x.A, x.c, x.B, x.d, hah.b0, hah.rd, fun a ha => (hah.fA a ha).1, fun a ha => (hah.fB a ha).1⟩)
  case rest =>
    have HD := Lib.hid hcut
    obtain ⟨hlo, hzz, A2, c2, B2, d2, hrow, hrd, f1, f2⟩ := hcut
    clear x0 x1
    obtain ⟨z0, z1, z2, z3, z4, z5, z6, z7, z8⟩ := nine hrow
    clear hlo hzz hrow hrd f1 f2
    go_upto_region 7 with fail
    go_wp2_with fail
    clear z0 z1 z2 z3 z4 z5 z6 z7 z8
    go_loopg [8, 9, 35, 36, 37, 38, 39, 40, 41, 42, 43, 44, 45, 46, 47, 48, 49, 50, 51, 52, 53, 54] 1001 (fun g v8 v9 v35 v36 v37 v38 v39 v40 v41 v42 v43 v44 v45 v46 v47 v48 v49 v50 v51 v52 v53 v54 wr => ∃ s' : St, DI w s' wr ∧ Fine s' ∧ (s.wv + waves - s'.wv) * s'.ms.length - s'.wn ≤ g ∧ detN g s' (s.wv + waves) = detN 1001 s (s.wv + waves))
    case atStart =>
      refine ⟨s, HD.out, HR.out.2.1, ?_, rfl⟩
      have e0 : s.wv + waves - s.wv = waves := by omega
      have hn := HR.out.2.1.n1
      have hw0 := HR.out.2.1.wn
      have hm : waves * (s.ms.length : Int) ≤ 100 * 10 := Int.mul_le_mul HR.out.2.2.2 (by omega) (by omega) (by omega)
      rw [e0]; omega
    case round =>
      obtain ⟨s1, hdi, hfi, hms, hdet⟩ := hrel
      have hwv := hfi.wv
      have hpos : ∀ D : Int, 0 < D → (s1.ms.length : Int) ≤ D * s1.ms.length := fun D hD => by
        have := Int.mul_le_mul_of_nonneg_right (show (1 : Int) ≤ D by omega) (show (0 : Int) ≤ (s1.ms.length : Int) by omega)
        omega
      have hmul : ∀ D : Int, (D - 1) * s1.ms.length = D * s1.ms.length - s1.ms.length := fun D => by rw [Int.sub_mul, Int.one_mul]
      have HD := Lib.hid (And.intro hdi (And.intro hfi (And.intro hms (And.intro hdet (And.intro hpos hmul)))))
      obtain ⟨hlo, hzz, A2, c2, B2, d2, hrow, hrd, f1, f2⟩ := hdi
      obtain ⟨z0, z1, z2, z3, z4, z5, z6, z7, z8⟩ := nine hrow
      have HN := Lib.hid (And.intro hrow (And.intro hrd (And.intro f1 f2)))
      have HZ := Lib.hid hzz
      clear hlo hzz hrow hrd f1 f2 hfi hms hdet hpos hmul hwv
      go_upto_region 8 with fail
      go_cut [43] (fun s43 wx => s43 = .bool (!s1.told && decide (s1.wv < s.wv + waves)) ∧ wr = wx)
      case first =>
        cases ht : s1.told with
        | true =>
          rw [ht] at z8
          go_wp2_with fail
          go_meet
          exact ⟨by rw [ht]; rfl, rfl⟩
        | false =>
          rw [ht] at z8
          go_wp2_with fail
          go_meet
          exact ⟨by rw [ht]; rfl, rfl⟩
      case rest =>
        obtain ⟨rfl, rfl⟩ := hcut
        cases hgo : (!s1.told && decide (s1.wv < s.wv + waves)) with
        | false =>
          have HDN := Lib.hid (detN_done gk s1 _ hgo)
          have HGO := Lib.hid hgo
          clear hgo
          have hF' : wr.heap[w.heap.size + 1]? = some (.cells (cellsS St.zero (.slice none 0 0) (.slice none 0 0)) 27 (0, 0)) := HZ.out
          obtain ⟨y0, y1, y2, y3, y4, y5, y6, y7, y8⟩ := nine hF'
          obtain ⟨p0, p1, p2, p3, p4, p5, p6, p7, p8⟩ := nineF hF'
          have q0 := filled (s0 := St.zero) (M0 := .slice none 0 0) (F0 := .slice none 0 0) (.slice A2 s1.ms.length c2) (.slice B2 s1.fl.length d2) (.int .i64 s1.wn) (.int .i64 s1.ws) (.int .i64 s1.wr) (.int .i64 s1.ls) (.int .i64 s1.lr) (.int .i64 s1.wv) (.bool s1.told) HZ.out
          have q1 := fill_kx w.heap.size (w.heap.size + 1) (by omega) wr (.slice A2 s1.ms.length c2) (.slice B2 s1.fl.length d2) (.int .i64 s1.wn) (.int .i64 s1.ws) (.int .i64 s1.wr) (.int .i64 s1.ls) (.int .i64 s1.lr) (.int .i64 s1.wv) (.bool s1.told)
          obtain ⟨Z, hZ⟩ : ∃ Z, fill9 wr (w.heap.size + 1) s1 A2 c2 B2 d2 = Z := ⟨_, rfl⟩
          unfold fill9 at hZ
          rw [hZ] at q0 q1
          have HQ := Lib.hid (And.intro hZ (And.intro q0 q1))
          clear hF' q0 q1 hZ
          go_wp2_with fail
          rw [HQ.out.1]
          refine bodyPost_ret (detect_results _ Z _ s1 _ _ 0 rfl rfl HQ.out.2.1) rfl ?_
          rw [← HD.out.2.2.2.1, HDN.out]
          have k1 := HQ.out.2.2.1
          exact ⟨A2, c2, B2, d2, rfl, HN.out.2.1.kx k1 (fun a ha e => by have := HN.out.2.2.1 a ha; omega) (fun a ha e => by have := HN.out.2.2.2 a ha; omega), HD.out.1.lo.trans ⟨k1.os, k1.tape, k1.output, k1.size, k1.low⟩, fun a ha => by have := HN.out.2.2.1 a ha; omega, fun a ha => by have := HN.out.2.2.2 a ha; omega⟩
        | true =>
          have hlt : s1.wv < s.wv + waves := by simp at hgo; exact hgo.2
          obtain ⟨g1, rfl⟩ : ∃ g1, gk = g1 + 1 := ⟨gk - 1, by
            have := HD.out.2.2.2.2.1 (s.wv + waves - s1.wv) (by omega)
            have := HD.out.2.2.1
            have := HD.out.2.1.wn
            omega⟩
          have hd1 : detN (g1 + 1) s1 (s.wv + waves) = (if (stepF s1 ⟨4, 0, 0⟩).2 = 0 then detN g1 (stepF s1 ⟨4, 0, 0⟩).1 (s.wv + waves) else (St.zero, (stepF s1 ⟨4, 0, 0⟩).2)) := by
            simp only [detN, hgo, if_true]
          have hst := step_calls s1 A2 c2 B2 d2 ⟨4, 0, 0⟩ wr HN.out.2.1
          have hask := asked HD.out.2.1
          generalize stepF s1 ⟨4, 0, 0⟩ = r at hst hask hd1
          obtain ⟨s2, k⟩ := r
          simp only at hst hask hd1
          have HS := Lib.hid hst
          have HA := Lib.hid (And.intro hask (And.intro hd1 (And.intro hgo hlt)))
          clear hst hask hd1 hgo hlt
          go_wp2_with fail
          (with_reducible refine (HS.out).mono ?_); rintro e w5 ⟨A3, c3, B3, d3, rfl, hrd5, hb5, hfA, hfB⟩
          obtain ⟨W5, hW5⟩ : ∃ W5, w5.alloc (.cells (cellsS s2 (.slice A3 s2.ms.length c3) (.slice B3 s2.fl.length d3)) 27) = W5 := ⟨_, rfl⟩
          have hb6 : Below w5.heap.size w5 W5 := by rw [← hW5]; exact (Below.refl _ _).alloc (Nat.le_refl _) _
          have hr6 : W5.heap[w5.heap.size]? = some (.cells (cellsS s2 (.slice A3 s2.ms.length c3) (.slice B3 s2.fl.length d3)) 27 (0, 0)) := by rw [← hW5]; exact heap_alloc_new w5 _
          have hbw : Below wr.heap.size wr W5 := hb5.trans (hb6.mono hb5.size)
          have hdi := HD.out.1.below hbw
          have hn5 := (hbw.block _ (Array.getElem?_eq_some_iff.1 HN.out.1).1).trans HN.out.1
          have hz5 := (hbw.block _ (Array.getElem?_eq_some_iff.1 HZ.out).1).trans HZ.out
          have H5 := Lib.hid (And.intro hW5 (And.intro hbw (And.intro hdi (And.intro (hrd5.below hb6) (And.intro hfA hfB)))))
          clear z0 z1 z2 z3 z4 z5 z6 z7 z8
          clear hW5 hb6 hbw hdi hrd5 hb5 hfA hfB
          by_cases hk : k = 0
          · subst hk
            obtain ⟨z0, z1, z2, z3, z4, z5, z6, z7, z8⟩ := nine hr6
            obtain ⟨y0, y1, y2, y3, y4, y5, y6, y7, y8⟩ := nine hn5
            obtain ⟨p0, p1, p2, p3, p4, p5, p6, p7, p8⟩ := nineF hn5
            have H6 := Lib.hid (And.intro hr6 (And.intro hn5 hz5))
            clear hr6 hn5 hz5
            go_upto_region 10 with fail
            rw [H5.out.1]
            go_wp2_with fail
            go_roundg g1
            case measure => omega
            case rel =>
              obtain ⟨hf2, hm2, hfl2, hw2⟩ := HA.out.1 trivial
              refine ⟨s2, HD.out.1.fill H5.out.2.1 c3 d3 H5.out.2.2.2.1 H5.out.2.2.2.2.1 H5.out.2.2.2.2.2, hf2, ?_, ?_⟩
              · have h1 := HD.out.2.2.1
                rw [hm2]
                rcases hw2 with ⟨e1, e2⟩ | ⟨e1, e2, e3⟩
                · rw [e1, e2]; omega
                · rw [e1, e2]
                  have := HD.out.2.2.2.2.2 (s.wv + waves - s1.wv)
                  rw [show s.wv + waves - (s1.wv + 1) = s.wv + waves - s1.wv - 1 by omega]
                  omega
              · rw [← HD.out.2.2.2.1, HA.out.2.1, if_pos trivial]
          · have hkb : (k != 0) = true := by rw [bne_iff_ne]; exact hk
            have HK := Lib.hid hk
            have hF' : W5.heap[w.heap.size + 1]? = some (.cells (cellsS St.zero (.slice none 0 0) (.slice none 0 0)) 27 (0, 0)) := hz5
            obtain ⟨y0, y1, y2, y3, y4, y5, y6, y7, y8⟩ := nine hF'
            obtain ⟨p0, p1, p2, p3, p4, p5, p6, p7, p8⟩ := nineF hF'
            have q0 := filled (s0 := St.zero) (M0 := .slice none 0 0) (F0 := .slice none 0 0) (.slice none 0 0) (.slice none 0 0) (.int .i64 0) (.int .i64 0) (.int .i64 0) (.int .i64 0) (.int .i64 0) (.int .i64 0) (.bool false) hz5
            have q2 := filled_below w.heap.size W5 (w.heap.size + 1) (by omega) (.slice none 0 0) (.slice none 0 0) (.int .i64 0) (.int .i64 0) (.int .i64 0) (.int .i64 0) (.int .i64 0) (.int .i64 0) (.bool false)
            obtain ⟨X, hX⟩ : ∃ X, (((((((((W5.setCell ⟨w.heap.size + 1, 0, none⟩ (.slice none 0 0)).setCell ⟨w.heap.size + 1, 1, none⟩ (.slice none 0 0)).setCell ⟨w.heap.size + 1, 2, none⟩ (.int .i64 0)).setCell ⟨w.heap.size + 1, 3, none⟩ (.int .i64 0)).setCell ⟨w.heap.size + 1, 4, none⟩ (.int .i64 0)).setCell ⟨w.heap.size + 1, 5, none⟩ (.int .i64 0)).setCell ⟨w.heap.size + 1, 6, none⟩ (.int .i64 0)).setCell ⟨w.heap.size + 1, 7, none⟩ (.int .i64 0)).setCell ⟨w.heap.size + 1, 8, none⟩ (.bool false)) = X := ⟨_, rfl⟩
            rw [hX] at q0 q2
            have HQ := Lib.hid (And.intro hX (And.intro q0 q2))
            clear hr6 hn5 hz5 hF' hk hX q0 q2
            go_upto_region 10 with fail
            rw [H5.out.1]
            go_wp2_with fail
            rw [HQ.out.1]
            refine bodyPost_ret (detect_results _ X _ St.zero _ _ k rfl rfl HQ.out.2.1) rfl ?_
            rw [← HD.out.2.2.2.1, HA.out.2.1, if_neg HK.out]
            exact ⟨_, _, _, _, rfl, RdS.zero _, H5.out.2.2.1.lo.trans (HQ.out.2.2.1.mono (Nat.le_refl _)), Fresh.none _, Fresh.none _⟩

theorem detect_calls (s : St) (A : Option Addr) (c : Nat) (B : Option Addr) (d : Nat) (waves : Int) (w : World) (h : RdS w A B s) :
    Calls Try.prog 17 #[s.v A c B d, .int .i64 waves] w (SPost w (detF s waves)) := by
  unfold detF
  split
  · rename_i hk
    split
    · rename_i hv
      exact detect_ok s A c B d waves w h ((check_iff s).1 hk) hv.1 hv.2
    · rename_i hv
      exact detect_range s A c B d waves w h hk hv
  · rename_i hk
    exact detect_bad s A c B d waves w h hk
end Go.Proofs.Ythpcipfloofbcaa
