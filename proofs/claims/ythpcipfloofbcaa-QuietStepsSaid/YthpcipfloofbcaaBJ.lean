import Derived.Test.YthpcipfloofbcaaBI
import Derived.Test.YthpcipfloofbcaaAA
import Derived.Deep.RegionHeld3
import Derived.Deep.DeepCutAuto
namespace Go.Proofs.Ythpcipfloofbcaa
open Go.RowKit
set_option maxHeartbeats 8000000
set_option maxRecDepth 100000
set_option linter.unusedSimpArgs false
set_option linter.unusedVariables false
attribute [local irreducible] wpStill

theorem seqL_snoc (s : St) (l : List Mov) (m : Mov) : (seqL s (l ++ [m])).length = (seqL s l).length + (if (stepF (runF s l) m).2 = 0 then 1 else 0) := by
  induction l generalizing s with
  | nil =>
    show (seqL s [m]).length = 0 + (if (stepF s m).2 = 0 then 1 else 0)
    simp only [seqL]
    split <;> rfl
  | cons x l ih =>
    show (seqL s (x :: (l ++ [m]))).length = (seqL s (x :: l)).length + (if (stepF (runF (goF s x) l) m).2 = 0 then 1 else 0)
    simp only [seqL, goF]
    split
    · rw [List.length_cons, List.length_cons, ih]; omega
    · rw [ih]
theorem rplay_first {w wr w5 : World} {s1 s2 : St} {k : Int} {A3 B3 : Option Addr} {c3 d3 : Nat} (h : DR w s1 wr) (hb : Below wr.heap.size wr w5) (hsz : w.heap.size + 1 < wr.heap.size) (hr : RdS w5 A3 B3 s2) (hA : Fresh wr.drew.heap.size A3) (hB : Fresh wr.drew.heap.size B3) :
    ∃ b A c B d, Value.pointer (some ⟨w5.heap.size, 0, none⟩) = .pointer (some ⟨b, 0, none⟩) ∧ Value.int .i64 k = .int .i64 k ∧ DR w s1 (w5.alloc (.cells (cellsS s2 (.slice A3 s2.ms.length c3) (.slice B3 s2.fl.length d3)) 44)) ∧ w.heap.size + 2 ≤ b ∧ (w5.alloc (.cells (cellsS s2 (.slice A3 s2.ms.length c3) (.slice B3 s2.fl.length d3)) 44)).heap[b]? = some (.cells (cellsS s2 (.slice A s2.ms.length c) (.slice B s2.fl.length d)) 44 (0, 0)) ∧ RdS (w5.alloc (.cells (cellsS s2 (.slice A3 s2.ms.length c3) (.slice B3 s2.fl.length d3)) 44)) A B s2 ∧ Fresh (w.heap.size + 2) A ∧ Fresh (w.heap.size + 2) B := by
  have hs5 := hb.size
  have hb6 : Below w5.heap.size w5 (w5.alloc (.cells (cellsS s2 (.slice A3 s2.ms.length c3) (.slice B3 s2.fl.length d3)) 44)) := (Below.refl _ _).alloc (Nat.le_refl _) _
  have e : wr.drew.heap.size = wr.heap.size := rfl
  exact ⟨w5.heap.size, A3, c3, B3, d3, rfl, rfl, h.below (hb.trans (hb6.mono hb.size)), by omega, heap_alloc_new w5 _, hr.below hb6, fun a ha => by have := hA a ha; omega, fun a ha => by have := hB a ha; omega⟩
theorem rplay_second {w wr w5 : World} {s1 s2 : St} {k : Int} {A3 B3 : Option Addr} {c3 d3 : Nat} (h : DR w s1 wr) (hb : Below wr.heap.size wr w5) (hsz : w.heap.size + 1 < wr.heap.size) (hr : RdS w5 A3 B3 s2) (hA : Fresh (wr.alloc (.cells zeroS 44)).drew.heap.size A3) (hB : Fresh (wr.alloc (.cells zeroS 44)).drew.heap.size B3) (hrow : w5.heap[wr.heap.size]? = some (.cells (cellsS St.zero (.slice none 0 0) (.slice none 0 0)) 44 (0, 0))) :
    ∃ b A c B d, Value.pointer (some ⟨wr.heap.size, 0, none⟩) = .pointer (some ⟨b, 0, none⟩) ∧ Value.int .i64 k = .int .i64 k ∧ DR w s1 (fill9 w5 wr.heap.size s2 A3 c3 B3 d3) ∧ w.heap.size + 2 ≤ b ∧ (fill9 w5 wr.heap.size s2 A3 c3 B3 d3).heap[b]? = some (.cells (cellsS s2 (.slice A s2.ms.length c) (.slice B s2.fl.length d)) 44 (0, 0)) ∧ RdS (fill9 w5 wr.heap.size s2 A3 c3 B3 d3) A B s2 ∧ Fresh (w.heap.size + 2) A ∧ Fresh (w.heap.size + 2) B := by
  have e : (wr.alloc (.cells zeroS 44)).drew.heap.size = wr.heap.size + 1 := by show (wr.alloc (.cells zeroS 44)).heap.size = _; simp
  have q0 := filledT (.slice A3 s2.ms.length c3) (.slice B3 s2.fl.length d3) (.int .i64 s2.wn) (.int .i64 s2.ws) (.int .i64 s2.wr) (.int .i64 s2.ls) (.int .i64 s2.lr) (.int .i64 s2.wv) (.bool s2.told) hrow
  have q1 := fill_kx wr.heap.size wr.heap.size (Nat.le_refl _) w5 (.slice A3 s2.ms.length c3) (.slice B3 s2.fl.length d3) (.int .i64 s2.wn) (.int .i64 s2.ws) (.int .i64 s2.wr) (.int .i64 s2.ls) (.int .i64 s2.lr) (.int .i64 s2.wv) (.bool s2.told)
  exact ⟨wr.heap.size, A3, c3, B3, d3, rfl, rfl, h.below (hb.trans ⟨q1.1.os, q1.1.tape, q1.1.output, q1.1.size, q1.1.low⟩), by omega, q0, hr.kx q1.1 (fun a ha e' => by have := hA a ha; omega) (fun a ha e' => by have := hB a ha; omega), fun a ha => by have := hA a ha; omega, fun a ha => by have := hB a ha; omega⟩

theorem rplay_third {w wr w5 : World} {s1 s2 : St} {k : Int} {A3 B3 : Option Addr} {c3 d3 : Nat} (h : DR w s1 wr) (hb : Below wr.heap.size wr w5) (hsz : w.heap.size + 1 < wr.heap.size) (hr : RdS w5 A3 B3 s2) (hA : Fresh wr.drew.heap.size A3) (hB : Fresh wr.drew.heap.size B3) :
    ∃ b A c B d, Value.pointer (some ⟨w5.heap.size, 0, none⟩) = .pointer (some ⟨b, 0, none⟩) ∧ Value.int .i64 k = .int .i64 k ∧ DR w s1 (fill9 (w5.alloc (.cells zeroS 44)) w5.heap.size s2 A3 c3 B3 d3) ∧ w.heap.size + 2 ≤ b ∧ (fill9 (w5.alloc (.cells zeroS 44)) w5.heap.size s2 A3 c3 B3 d3).heap[b]? = some (.cells (cellsS s2 (.slice A s2.ms.length c) (.slice B s2.fl.length d)) 44 (0, 0)) ∧ RdS (fill9 (w5.alloc (.cells zeroS 44)) w5.heap.size s2 A3 c3 B3 d3) A B s2 ∧ Fresh (w.heap.size + 2) A ∧ Fresh (w.heap.size + 2) B := by
  have hs5 := hb.size
  have q0 := filledT (w := w5.alloc (.cells zeroS 44)) (bo := w5.heap.size) (s0 := St.zero) (M0 := .slice none 0 0) (F0 := .slice none 0 0) (t := 44) (.slice A3 s2.ms.length c3) (.slice B3 s2.fl.length d3) (.int .i64 s2.wn) (.int .i64 s2.ws) (.int .i64 s2.wr) (.int .i64 s2.ls) (.int .i64 s2.lr) (.int .i64 s2.wv) (.bool s2.told) (heap_alloc_new w5 _)
  have q3 := filled_below w5.heap.size (w5.alloc (.cells zeroS 44)) w5.heap.size (Nat.le_refl _) (.slice A3 s2.ms.length c3) (.slice B3 s2.fl.length d3) (.int .i64 s2.wn) (.int .i64 s2.ws) (.int .i64 s2.wr) (.int .i64 s2.ls) (.int .i64 s2.lr) (.int .i64 s2.wv) (.bool s2.told)
  have hb6 := ((Below.refl w5.heap.size w5).alloc (Nat.le_refl _) (.cells zeroS 44)).trans q3.1
  have e : wr.drew.heap.size = wr.heap.size := rfl
  exact ⟨w5.heap.size, A3, c3, B3, d3, rfl, rfl, h.below (hb.trans (hb6.mono hb.size)), by omega, q0, hr.below hb6, fun a ha => by have := hA a ha; omega, fun a ha => by have := hB a ha; omega⟩

theorem rplay_results (tmps : Array Value) (X : World) (bo : Nat) (r : St) (Mv Fv : Value) (n k : Int) (h4 : tmps[4]?.getD undef = .pointer (some ⟨bo, 0, none⟩)) (h5 : tmps[5]?.getD undef = .int .i64 n) (h6 : tmps[6]?.getD undef = .int .i64 k)
    (hb : X.heap[bo]? = some (.cells (cellsS r Mv Fv) 44 (0, 0))) :
    (results Try.f15 tmps).run Try.prog X = .ok (.tuple #[.agg (cellsS r Mv Fv), .int .i64 n, .int .i64 k]) X := by
  obtain ⟨z0, z1, z2, z3, z4, z5, z6, z7, z8⟩ := nineT hb
  simp [results, Try.results15, go_sem, h4, h5, h6, z0, z1, z2, z3, z4, z5, z6, z7, z8]

theorem rplay_bad (s : St) (A : Option Addr) (c : Nat) (B : Option Addr) (d : Nat) (M : Option Addr) (k cm : Nat) (w : World) (h : RdS w A B s) (hk : ¬ checkF s = 0) :
    Calls Try.prog 15 #[s.v A c B d, .slice M k cm] w (PPost w (St.zero, 0, checkF s)) := by
  obtain ⟨W, hW⟩ : ∃ W, (w.alloc (.cells (cellsS s (.slice A s.ms.length c) (.slice B s.fl.length d)) 44)).alloc (.cells zeroS 44) = W := ⟨_, rfl⟩
  have hb : Below w.heap.size w W := by
    rw [← hW]
    exact ((Below.refl _ _).alloc (Nat.le_refl _) _).alloc (by simp) _
  have hsz : W.heap.size = w.heap.size + 2 := by rw [← hW]; simp
  have hb1 : W.heap[w.heap.size + 1]? = some (.cells zeroS 44 (0, 0)) := by
    rw [← hW]
    have := heap_alloc_new (w.alloc (.cells (cellsS s (.slice A s.ms.length c) (.slice B s.fl.length d)) 44)) (.cells zeroS 44)
    simpa using this
  have hck := rcheck_calls s A c B d W (h.below hb)
  have HC := Lib.hid hck
  have HW := Lib.hid (And.intro hW (And.intro hb (And.intro hsz hb1)))
  have hkc : (checkF s != 0) = true := by rw [bne_iff_ne]; exact hk
  have HK := Lib.hid hk
  clear hck hW hb hsz hb1 h hk
  go_enter Try.func15, Try.ntmps15
  go_wp2_with fail
  rw [HW.out.1]
  (with_reducible refine (HC.out).mono ?_); rintro e w1 ⟨rfl, hb1⟩
  have hF := (hb1.block _ (by have := HW.out.2.2.1; omega)).trans HW.out.2.2.2
  have hHF := Lib.hid hb1
  have hF' : w1.heap[w.heap.size + 1]? = some (.cells (cellsS St.zero (.slice none 0 0) (.slice none 0 0)) 44 (0, 0)) := hF
  obtain ⟨z0, z1, z2, z3, z4, z5, z6, z7, z8⟩ := nineT hF'
  obtain ⟨f0, f1, f2, f3, f4, f5, f6, f7, f8⟩ := nineFT hF'
  have HF := Lib.hid hF
  clear hb1 hF hF'
  go_wp2_with fail
  have q0 := filledT (s0 := St.zero) (M0 := .slice none 0 0) (F0 := .slice none 0 0) (.slice none 0 0) (.slice none 0 0) (.int .i64 0) (.int .i64 0) (.int .i64 0) (.int .i64 0) (.int .i64 0) (.int .i64 0) (.bool false) HF.out
  have q2 := filled_below w.heap.size w1 (w.heap.size + 1) (by omega) (.slice none 0 0) (.slice none 0 0) (.int .i64 0) (.int .i64 0) (.int .i64 0) (.int .i64 0) (.int .i64 0) (.int .i64 0) (.bool false)
  obtain ⟨X, hX⟩ : ∃ X, (((((((((w1.setCell ⟨w.heap.size + 1, 0, none⟩ (.slice none 0 0)).setCell ⟨w.heap.size + 1, 1, none⟩ (.slice none 0 0)).setCell ⟨w.heap.size + 1, 2, none⟩ (.int .i64 0)).setCell ⟨w.heap.size + 1, 3, none⟩ (.int .i64 0)).setCell ⟨w.heap.size + 1, 4, none⟩ (.int .i64 0)).setCell ⟨w.heap.size + 1, 5, none⟩ (.int .i64 0)).setCell ⟨w.heap.size + 1, 6, none⟩ (.int .i64 0)).setCell ⟨w.heap.size + 1, 7, none⟩ (.int .i64 0)).setCell ⟨w.heap.size + 1, 8, none⟩ (.bool false)) = X := ⟨_, rfl⟩
  rw [hX] at q0 q2 ⊢
  refine bodyPost_ret (rplay_results _ X _ St.zero _ _ 0 (checkF s) rfl rfl rfl q0) rfl ?_
  exact ⟨_, _, _, _, rfl, RdS.zero _, (HW.out.2.1.trans (hHF.out.mono HW.out.2.1.size)).trans q2.1, Fresh.none _, Fresh.none _⟩
theorem rplay_ok (s : St) (A : Option Addr) (c : Nat) (B : Option Addr) (d : Nat) (ms : List Mov) (M : Option Addr) (cm : Nat) (w : World) (h : RdS w A B s) (hfine : Fine s) (hM : Rd encV 3 w M ms) (hlen : ms.length ≤ 1000) :
    Calls Try.prog 15 #[s.v A c B d, .slice M ms.length cm] w (PPost w (runF s ms, ((seqL s ms).length : Int), 0)) := by
  obtain ⟨W, hW⟩ : ∃ W, (w.alloc (.cells (cellsS s (.slice A s.ms.length c) (.slice B s.fl.length d)) 44)).alloc (.cells zeroS 44) = W := ⟨_, rfl⟩
  have hb : Below w.heap.size w W := by
    rw [← hW]
    exact ((Below.refl _ _).alloc (Nat.le_refl _) _).alloc (by simp) _
  have hsz : W.heap.size = w.heap.size + 2 := by rw [← hW]; simp
  have hb0 : W.heap[w.heap.size]? = some (.cells (cellsS s (.slice A s.ms.length c) (.slice B s.fl.length d)) 44 (0, 0)) := by
    rw [← hW, Below.heap_alloc _ _ _ (by simp)]; exact heap_alloc_new w _
  have hb1 : W.heap[w.heap.size + 1]? = some (.cells zeroS 44 (0, 0)) := by
    rw [← hW]
    have := heap_alloc_new (w.alloc (.cells (cellsS s (.slice A s.ms.length c) (.slice B s.fl.length d)) 44)) (.cells zeroS 44)
    simpa using this
  have hck := rcheck_calls s A c B d W (h.below hb)
  rw [(check_iff s).2 hfine] at hck
  have HC := Lib.hid hck
  have HW := Lib.hid (And.intro hW (And.intro hb (And.intro hsz (And.intro hb0 hb1))))
  have HR := Lib.hid (And.intro h (And.intro hfine (And.intro hM hlen)))
  clear hck hW hb hsz hb0 hb1 h hfine hM
  go_enter Try.func15, Try.ntmps15
  go_wp2_with fail
  rw [HW.out.1]
  (with_reducible refine (HC.out).mono ?_); rintro e w1 ⟨rfl, hb1⟩
  have g0 := (hb1.block _ (by have := HW.out.2.2.1; omega)).trans HW.out.2.2.2.1
  have g1 := (hb1.block _ (by have := HW.out.2.2.1; omega)).trans HW.out.2.2.2.2
  have hlo : Below w.heap.size w w1 := HW.out.2.1.trans (hb1.mono HW.out.2.1.size)
  have hxs : w.heap.size + 2 ≤ w1.heap.size := by have := hb1.size; have := HW.out.2.2.1; omega
  have hfine := HR.out.2.1
  have hrd : RdS w1 A B s := HR.out.1.below hlo
  have hcp := rcopied_calls s A c B d w1 hrd hfine
  obtain ⟨z0, z1, z2, z3, z4, z5, z6, z7, z8⟩ := nineT g0
  have HCP := Lib.hid hcp
  have HG := Lib.hid (And.intro g0 (And.intro g1 (And.intro hlo hxs)))
  clear g0 g1 hlo hxs hfine hrd hb1 hcp
  go_upto_region 4 with fail
  go_wp2_with fail
  (with_reducible refine (HCP.out).mono ?_); rintro e w2 ⟨g, cc, Fv, rfl, ho1, ho2, hb2⟩
  obtain ⟨FA, Fc, rfl, hrF⟩ := ho2.rd lenI
  obtain ⟨A9, c9, hv9, hrM⟩ := ho1.rd lenM
  obtain ⟨rfl, _, rfl⟩ := Value.slice.inj hv9
  have r0 := (hb2.block _ (by have := HG.out.2.2.2; omega)).trans HG.out.1
  have r1 := (hb2.block _ (by have := HG.out.2.2.2; omega)).trans HG.out.2.1
  have hgb := (ho1.blk g rfl).1
  have hfb : ∀ a, FA = some a → w1.heap.size ≤ a.block := fun a ha => by subst ha; exact (ho2.blk a.block rfl).1
  obtain ⟨Y, hY⟩ : ∃ Y, fill9 w2 w.heap.size s (some ⟨g, 0, none⟩) cc FA Fc = Y := ⟨_, rfl⟩
  have hdr : DR w s Y := by
    have hx := HG.out.2.2.2
    have hst := (show DR w s w2 → True from fun _ => trivial)
    unfold fill9 at hY
    have q0 := filledT (.slice (some ⟨g, 0, none⟩) s.ms.length cc) (.slice FA s.fl.length Fc) (.int .i64 s.wn) (.int .i64 s.ws) (.int .i64 s.wr) (.int .i64 s.ls) (.int .i64 s.lr) (.int .i64 s.wv) (.bool s.told) r0
    have q1 := fill_kx w.heap.size w.heap.size (Nat.le_refl _) w2 (.slice (some ⟨g, 0, none⟩) s.ms.length cc) (.slice FA s.fl.length Fc) (.int .i64 s.wn) (.int .i64 s.ws) (.int .i64 s.wr) (.int .i64 s.ls) (.int .i64 s.lr) (.int .i64 s.wv) (.bool s.told)
    rw [hY] at q0 q1
    exact ⟨(HG.out.2.2.1.trans (hb2.mono HG.out.2.2.1.size)).trans ⟨q1.1.os, q1.1.tape, q1.1.output, q1.1.size, q1.1.low⟩, q1.1.same _ _ r1 rfl (by omega), some ⟨g, 0, none⟩, cc, FA, Fc, q0, (RdS.mk hrM hrF).kx q1.1 (fun a ha e => by cases ha; have : g = w.heap.size := e; omega) (fun a ha e => by have := hfb a ha; omega), fun a ha => by cases ha; show w.heap.size + 2 ≤ g; omega, fun a ha => by have := hfb a ha; omega⟩
  unfold fill9 at hY
  have HY := Lib.hid (And.intro hY hdr)
  clear z0 z1 z2 z3 z4 z5 z6 z7 z8
  obtain ⟨z0, z1, z2, z3, z4, z5, z6, z7, z8⟩ := nineT r0
  obtain ⟨f0, f1, f2, f3, f4, f5, f6, f7, f8⟩ := nineFT r0
  clear hY hdr r0 r1 ho1 ho2 hb2 hrM hrF hgb hfb hv9
  go_upto_region 5 with fail
  rw [HY.out.1]
  clear z0 z1 z2 z3 z4 z5 z6 z7 z8 f0 f1 f2 f3 f4 f5 f6 f7 f8
  have hcut := HY.out.2
  go_wp2_with fail
  go_loopg [8, 9, 10, 11, 20, 21, 22, 23, 24, 25, 26, 27, 28, 29, 30, 31, 32, 33, 34, 35, 36, 37, 38, 39] (ms.length) (fun g v8 v9 v10 v11 v20 v21 v22 v23 v24 v25 v26 v27 v28 v29 v30 v31 v32 v33 v34 v35 v36 v37 v38 v39 wr => ∃ i : Nat, i + g = ms.length ∧ v9 = .int .i64 i ∧ v8 = .int .i64 ((seqL s (ms.take i)).length : Int) ∧ DR w (runF s (ms.take i)) wr)
  case atStart => exact ⟨0, by omega, rfl, rfl, HY.out.2⟩
  case round =>
    obtain ⟨i, hi, rfl, rfl, hdi⟩ := hrel
    by_cases hlt : i < ms.length
    · have hb1 : decide (i < ms.length) = true := decide_eq_true hlt
      have hsn := seqL_snoc s (ms.take i) ms[i]
      have hrn : runF s (ms.take (i + 1)) = goF (runF s (ms.take i)) ms[i] := by
        rw [List.take_succ_eq_append_getElem hlt]; unfold runF; rw [List.foldl_append]; rfl
      rw [← List.take_succ_eq_append_getElem hlt] at hsn
      have hcl := seqL_length s (ms.take i)
      rw [List.length_take, Nat.min_eq_left (by omega)] at hcl
      obtain ⟨a, hMa, q0, q1, q2⟩ := rd_mov (HR.out.2.2.1.below hdi.lo) i hlt
      subst hMa
      unfold goF at hrn
      generalize ms[i] = m at hsn hrn q0 q1 q2
      generalize hs1 : runF s (ms.take i) = s1 at hsn hrn hdi
      have hdi0 := hdi
      obtain ⟨_, hzz, A2, c2, B2, d2, hrow, hrd, f1, f2⟩ := hdi
      have HDI := Lib.hid (show DR w s1 wr from hdi0)
      have hst := fun X (hX : Below wr.heap.size wr X) => rstep_calls s1 A2 c2 B2 d2 m X (hrd.below hX)
      have hB1 : Below wr.heap.size wr wr.drew := (Below.refl _ _).drew
      have hB2 : Below wr.heap.size wr (wr.alloc (.cells zeroS 44)).drew := ((Below.refl _ _).alloc (Nat.le_refl _) _).drew
      have HB := Lib.hid (And.intro hB1 hB2)
      have hBa : Below wr.heap.size wr (wr.alloc (.cells zeroS 44)) := (Below.refl _ _).alloc (Nat.le_refl _) _
      obtain ⟨za0, za1, za2, za3, za4, za5, za6, za7, za8⟩ := nineT ((hBa.block _ (Array.getElem?_eq_some_iff.1 hrow).1).trans hrow)
      have qa0 := (hBa.cell (World.block_lt_of_cell? _ _ q0)).trans q0
      have qa1 := (hBa.cell (World.block_lt_of_cell? _ _ q1)).trans q1
      have qa2 := (hBa.cell (World.block_lt_of_cell? _ _ q2)).trans q2
      clear hBa
      clear hB1 hB2
      generalize stepF s1 m = r at hst hsn hrn
      obtain ⟨s2, k⟩ := r
      simp only at hsn hrn
      generalize (seqL s (ms.take i)).length = cnt at hsn hcl ⊢
      obtain ⟨z0, z1, z2, z3, z4, z5, z6, z7, z8⟩ := nineT hrow
      have hsk := fun (X : World) (hX : Below wr.heap.size wr X) => And.intro ((hX.cell (World.block_lt_of_cell? _ _ z0)).trans z0) (And.intro ((hX.cell (World.block_lt_of_cell? _ _ z1)).trans z1) (And.intro ((hX.cell (World.block_lt_of_cell? _ _ z2)).trans z2) (And.intro ((hX.cell (World.block_lt_of_cell? _ _ z3)).trans z3) (And.intro ((hX.cell (World.block_lt_of_cell? _ _ z4)).trans z4) (And.intro ((hX.cell (World.block_lt_of_cell? _ _ z5)).trans z5) (And.intro ((hX.cell (World.block_lt_of_cell? _ _ z6)).trans z6) (And.intro ((hX.cell (World.block_lt_of_cell? _ _ z7)).trans z7) (And.intro ((hX.cell (World.block_lt_of_cell? _ _ z8)).trans z8) (And.intro ((hX.cell (World.block_lt_of_cell? _ _ q0)).trans q0) (And.intro ((hX.cell (World.block_lt_of_cell? _ _ q1)).trans q1) ((hX.cell (World.block_lt_of_cell? _ _ q2)).trans q2)))))))))))
      have HSK := Lib.hid hsk
      clear hsk
      have hbl := (Array.getElem?_eq_some_iff.1 hrow).1
      have HS := Lib.hid (And.intro hst (And.intro hsn (And.intro hrn hi)))
      have HN := Lib.hid (And.intro hrow (And.intro hrd (And.intro f1 (And.intro f2 (And.intro hzz hbl)))))
      clear hdi0 hrow hrd f1 f2 hzz hst hsn hrn hi hbl za0 za1 za2 za3 za4 za5 za6 za7 za8 qa0 qa1 qa2
      go_upto_region 9 with fail
      go_cut [10, 11] (fun s10 s11 wx => ∃ b A3 c3 B3 d3, s10 = .pointer (some ⟨b, 0, none⟩) ∧ s11 = .int .i64 k ∧ DR w s1 wx ∧ w.heap.size + 2 ≤ b ∧ wx.heap[b]? = some (.cells (cellsS s2 (.slice A3 s2.ms.length c3) (.slice B3 s2.fl.length d3)) 44 (0, 0)) ∧ RdS wx A3 B3 s2 ∧ Fresh (w.heap.size + 2) A3 ∧ Fresh (w.heap.size + 2) B3)
      case first =>
        go_region_held3 (fun w' => w'.cell? ⟨w.heap.size, 0, none⟩ = some (.slice A2 s1.ms.length c2) ∧ w'.cell? ⟨w.heap.size, 1, none⟩ = some (.slice B2 s1.fl.length d2) ∧ w'.cell? ⟨w.heap.size, 2, none⟩ = some (.int .i64 s1.wn) ∧ w'.cell? ⟨w.heap.size, 3, none⟩ = some (.int .i64 s1.ws) ∧ w'.cell? ⟨w.heap.size, 4, none⟩ = some (.int .i64 s1.wr) ∧ w'.cell? ⟨w.heap.size, 5, none⟩ = some (.int .i64 s1.ls) ∧ w'.cell? ⟨w.heap.size, 6, none⟩ = some (.int .i64 s1.lr) ∧ w'.cell? ⟨w.heap.size, 7, none⟩ = some (.int .i64 s1.wv) ∧ w'.cell? ⟨w.heap.size, 8, none⟩ = some (.bool s1.told) ∧ w'.cell? (a.add (i * 3)) = some (.int .i64 m.k) ∧ w'.cell? ⟨(a.add (i * 3)).block, (a.add (i * 3)).off + 1, none⟩ = some (.int .i64 m.a) ∧ w'.cell? ⟨(a.add (i * 3)).block, (a.add (i * 3)).off + 2, none⟩ = some (.int .i64 m.b)) (first | with_reducible exact HSK.out _ HB.out.1 | with_reducible exact HSK.out _ HB.out.2 | with_reducible exact HSK.out _ H5.out.2.1 | with_reducible exact HSK.out _ (H5.out.2.1.alloc H5.out.2.1.size _) | with_reducible exact HSK.out _ (H5.out.2.1.trans (filled_below _ _ _ (Nat.le_refl _) _ _ _ _ _ _ _ _ _).1) | with_reducible exact HSK.out _ ((H5.out.2.1.alloc H5.out.2.1.size _).trans (filled_below _ _ _ H5.out.2.1.size _ _ _ _ _ _ _ _ _).1) | go_keep) (first | (go_at_call 24; (with_reducible refine (HS.out.1 wr.drew HB.out.1).mono ?_); rintro e w5 ⟨A3, c3, B3, d3, rfl, hrd5, hb5, hfA, hfB⟩; have H5 := Lib.hid (And.intro hrd5 (And.intro (HB.out.1.trans (hb5.mono HB.out.1.size)) (And.intro hfA hfB))); clear hrd5 hb5 hfA hfB) | (go_at_call 24; (with_reducible refine (HS.out.1 (wr.alloc (.cells zeroS 44)).drew HB.out.2).mono ?_); rintro e w5 ⟨A3, c3, B3, d3, rfl, hrd5, hb5, hfA, hfB⟩; have hrowz : w5.heap[wr.heap.size]? = some (.cells (cellsS St.zero (.slice none 0 0) (.slice none 0 0)) 44 (0, 0)) := (hb5.block _ (by simp)).trans (heap_alloc_new wr _); obtain ⟨x0, x1, x2, x3, x4, x5, x6, x7, x8⟩ := nineT hrowz; obtain ⟨g0, g1, g2, g3, g4, g5, g6, g7, g8⟩ := nineFT hrowz; have H5 := Lib.hid (And.intro hrd5 (And.intro (HB.out.2.trans (hb5.mono HB.out.2.size)) (And.intro hfA (And.intro hfB hrowz)))); clear hrd5 hb5 hfA hfB hrowz))
        all_goals (
          go_wp2_with fail
          go_meet
          have hsz : w.heap.size + 1 < wr.heap.size := (Array.getElem?_eq_some_iff.1 HN.out.2.2.2.2.1).1
          have hs5 := H5.out.2.1.size
          first
          | with_reducible exact rplay_first HDI.out H5.out.2.1 hsz H5.out.1 H5.out.2.2.1 H5.out.2.2.2
          | with_reducible exact rplay_second HDI.out H5.out.2.1 hsz H5.out.1 H5.out.2.2.1 H5.out.2.2.2.1 H5.out.2.2.2.2
          | with_reducible exact rplay_third HDI.out H5.out.2.1 hsz H5.out.1 H5.out.2.2.1 H5.out.2.2.2)
      case rest =>
        obtain ⟨b, A3, c3, B3, d3, rfl, rfl, hdr, hbn, hrowb, hrd3, hfA, hfB⟩ := hcut
        clear z0 z1 z2 z3 z4 z5 z6 z7 z8 q0 q1 q2
        by_cases hk : k = 0
        · subst hk
          have hdr' := hdr
          obtain ⟨_, _, A4, c4, B4, d4, hrow4, _, _, _⟩ := hdr'
          obtain ⟨z0, z1, z2, z3, z4, z5, z6, z7, z8⟩ := nineT hrowb
          obtain ⟨y0, y1, y2, y3, y4, y5, y6, y7, y8⟩ := nineT hrow4
          obtain ⟨f0, f1, f2, f3, f4, f5, f6, f7, f8⟩ := nineFT hrow4
          have hfl := hdr.fill (Below.refl _ _) c3 d3 hrd3 hfA hfB
          obtain ⟨W6, hW6⟩ : ∃ W6, fill9 wc w.heap.size s2 A3 c3 B3 d3 = W6 := ⟨_, rfl⟩
          rw [hW6] at hfl
          unfold fill9 at hW6
          have H6 := Lib.hid (And.intro hW6 hfl)
          clear hdr hrowb hrd3 hfA hfB hrow4 hW6 hfl
          go_upto_region 12 with fail
          rw [H6.out.1]
          clear z0 z1 z2 z3 z4 z5 z6 z7 z8 y0 y1 y2 y3 y4 y5 y6 y7 y8 f0 f1 f2 f3 f4 f5 f6 f7 f8
          have hlen' := HR.out.2.2.2
          go_wp2_with fail
          go_roundg (gk - 1)
          case measure => have := HS.out.2.2.2; omega
          case rel =>
            refine ⟨i + 1, by have := HS.out.2.2.2; omega, by go_num, ?_, ?_⟩
            · rw [HS.out.2.1, if_pos trivial]; go_num
            · rw [HS.out.2.2.1, if_pos trivial]; exact H6.out.2
        · have hkb : (k == 0) = false := by rw [beq_eq_false_iff_ne]; exact hk
          have HK := Lib.hid hk
          have H6 := Lib.hid hdr
          clear hdr hrowb hrd3 hfA hfB hk
          have hlen' := HR.out.2.2.2
          go_wp2_with fail
          go_roundg (gk - 1)
          case measure => have := HS.out.2.2.2; omega
          case rel =>
            refine ⟨i + 1, by have := HS.out.2.2.2; omega, by go_num, ?_, ?_⟩
            · rw [HS.out.2.1, if_neg HK.out]; rfl
            · rw [HS.out.2.2.1, if_neg HK.out]; exact H6.out
    · have hb1 : decide (i < ms.length) = false := decide_eq_false hlt
      obtain rfl : i = ms.length := by omega
      rw [List.take_length] at hdi
      rw [List.take_length]
      have HDI := Lib.hid hdi
      obtain ⟨_, hzz, A2, c2, B2, d2, hrow, hrd, f1, f2⟩ := hdi
      generalize hs1 : runF s ms = s1 at *
      have hF' : wr.heap[w.heap.size + 1]? = some (.cells (cellsS St.zero (.slice none 0 0) (.slice none 0 0)) 44 (0, 0)) := hzz
      obtain ⟨z0, z1, z2, z3, z4, z5, z6, z7, z8⟩ := nineT hrow
      obtain ⟨y0, y1, y2, y3, y4, y5, y6, y7, y8⟩ := nineT hF'
      obtain ⟨p0, p1, p2, p3, p4, p5, p6, p7, p8⟩ := nineFT hF'
      have q0 := filledT (s0 := St.zero) (M0 := .slice none 0 0) (F0 := .slice none 0 0) (.slice A2 s1.ms.length c2) (.slice B2 s1.fl.length d2) (.int .i64 s1.wn) (.int .i64 s1.ws) (.int .i64 s1.wr) (.int .i64 s1.ls) (.int .i64 s1.lr) (.int .i64 s1.wv) (.bool s1.told) hzz
      have q1 := fill_kx w.heap.size (w.heap.size + 1) (by omega) wr (.slice A2 s1.ms.length c2) (.slice B2 s1.fl.length d2) (.int .i64 s1.wn) (.int .i64 s1.ws) (.int .i64 s1.wr) (.int .i64 s1.ls) (.int .i64 s1.lr) (.int .i64 s1.wv) (.bool s1.told)
      obtain ⟨Z, hZ⟩ : ∃ Z, fill9 wr (w.heap.size + 1) s1 A2 c2 B2 d2 = Z := ⟨_, rfl⟩
      unfold fill9 at hZ
      rw [hZ] at q0 q1
      have HQ := Lib.hid (And.intro hZ (And.intro q0 (And.intro q1 (And.intro hrd (And.intro f1 f2)))))
      clear hF' q0 q1 hZ hrow hrd f1 f2 hzz hi
      generalize (seqL s ms).length = cnt at *
      go_wp2_with fail
      rw [HQ.out.1]
      refine bodyPost_ret (rplay_results _ Z _ s1 _ _ (cnt : Int) 0 rfl rfl rfl HQ.out.2.1) rfl ?_
      have k1 := HQ.out.2.2.1.1
      have g1 := HQ.out.2.2.2.2.1
      have g2 := HQ.out.2.2.2.2.2
      exact ⟨A2, c2, B2, d2, rfl, HQ.out.2.2.2.1.kx k1 (fun a ha e => by have := g1 a ha; omega) (fun a ha e => by have := g2 a ha; omega), HDI.out.lo.trans ⟨k1.os, k1.tape, k1.output, k1.size, k1.low⟩, fun a ha => by have := g1 a ha; omega, fun a ha => by have := g2 a ha; omega⟩

theorem rplay_calls (s : St) (A : Option Addr) (c : Nat) (B : Option Addr) (d : Nat) (ms : List Mov) (M : Option Addr) (cm : Nat) (w : World) (h : RdS w A B s) (hM : Rd encV 3 w M ms) (hlen : ms.length ≤ 1000) :
    Calls Try.prog 15 #[s.v A c B d, .slice M ms.length cm] w (PPost w (playF s ms)) := by
  by_cases hk : checkF s = 0
  · obtain ⟨n, hp⟩ : playF s ms = (runF s ms, ((seqL s ms).length : Int), 0) ∧ True := by
      unfold playF; rw [if_pos hk, seqL_run]; exact ⟨rfl, trivial⟩
    rw [show playF s ms = (runF s ms, ((seqL s ms).length : Int), 0) by unfold playF; rw [if_pos hk, seqL_run]]
    exact rplay_ok s A c B d ms M cm w h ((check_iff s).1 hk) hM hlen
  · rw [show playF s ms = (St.zero, 0, checkF s) by unfold playF; rw [if_neg hk]]
    exact rplay_bad s A c B d M ms.length cm w h hk
end Go.Proofs.Ythpcipfloofbcaa
