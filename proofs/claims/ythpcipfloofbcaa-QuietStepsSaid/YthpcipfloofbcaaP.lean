import Derived.Test.YthpcipfloofbcaaK
import Derived.Deep.DeepCutAuto
namespace Go.Proofs.Ythpcipfloofbcaa
open Go.RowKit
set_option maxHeartbeats 1000000
set_option maxRecDepth 100000
set_option linter.unusedSimpArgs false
set_option linter.unusedVariables false

def quietB (s : St) : Bool := s.fl.isEmpty && !s.ms.any Mem.act
def quietF (s : St) : Bool × Int := if checkF s = 0 then (quietB s, 0) else (false, checkF s)

theorem quiet_calls (s : St) (A : Option Addr) (c : Nat) (B : Option Addr) (d : Nat) (w : World) (h : RdS w A B s) :
    Calls Try.prog 11 #[s.v A c B d] w fun e w' => e = .returned (.tuple #[.bool (quietF s).1, .int .i64 (quietF s).2]) ∧ Below w.heap.size w w' := by
  obtain ⟨W, hW⟩ : ∃ W, w.alloc (.cells (cellsS s (.slice A s.ms.length c) (.slice B s.fl.length d)) 27) = W := ⟨_, rfl⟩
  have hb : Below w.heap.size w W := by rw [← hW]; exact (Below.refl _ _).alloc (Nat.le_refl _) _
  have hr0 : W.heap[w.heap.size]? = some (.cells (cellsS s (.slice A s.ms.length c) (.slice B s.fl.length d)) 27 (0, 0)) := by rw [← hW]; exact heap_alloc_new w _
  have hck := check_calls s A c B d W (h.below hb)
  have HC := Lib.hid hck
  have HW := Lib.hid (And.intro hW (And.intro hb hr0))
  have HR := Lib.hid h
  clear hck hW hb hr0 h
  by_cases hk : checkF s = 0
  · have hkc : (checkF s != 0) = false := by rw [bne_eq_false_iff_eq]; exact hk
    have hr : quietF s = (quietB s, 0) := by unfold quietF; rw [if_pos hk]
    rw [hr]
    have HK := Lib.hid hk
    clear hr hk
    go_enter Try.func11, Try.ntmps11
    go_wp2_with fail
    rw [HW.out.1]
    (with_reducible refine (HC.out).mono ?_); rintro e w1 ⟨rfl, hb1⟩
    have hrow := (hb1.block _ (Array.getElem?_eq_some_iff.1 HW.out.2.2).1).trans HW.out.2.2
    have z0 := cell_of_row _ w.heap.size 0 _ _ _ hrow
    have z1 := cell_of_row _ w.heap.size 1 _ _ _ hrow
    simp at z0 z1
    have hrd := (HR.out.below HW.out.2.1).below hb1
    have hlo := HW.out.2.1.trans (hb1.mono HW.out.2.1.size)
    have HX := Lib.hid (And.intro hrd hlo)
    clear hb1 hrow hrd hlo
    by_cases hl : s.fl.length = 0
    · have hl2 : ((s.fl.length : Int) == 0) = true := by rw [beq_iff_eq]; omega
      have hq : quietB s = !s.ms.any Mem.act := by simp [quietB, List.length_eq_zero_iff.1 hl]
      have HQB := Lib.hid hq
      have hc := containsFuncM_calls Mem.act 35 #[] A s.ms c w1 HX.out.1.ms f35 (fun x w2 _ => quiet1_calls x w2)
      have HC2 := Lib.hid hc
      have HL := Lib.hid hl
      clear hc hl hq
      go_wp2_with ((go_at_call 34; (with_reducible refine (HC2.out).mono ?_); rintro e w2 ⟨rfl, hb2⟩; have HY := Lib.hid hb2; clear hb2))
      refine bodyPost_ret (by simp [results, Try.results11, go_sem]; try rfl) rfl ?_
      exact ⟨by rw [HQB.out], HX.out.2.trans (HY.out.mono HX.out.2.size)⟩
    · have hl2 : ((s.fl.length : Int) == 0) = false := by rw [beq_eq_false_iff_ne]; omega
      have hq : quietB s = false := by unfold quietB; cases hfl : s.fl with
        | nil => exact absurd (by rw [hfl]; rfl) hl
        | cons a l => simp
      have HQB := Lib.hid hq
      have HL := Lib.hid hl
      clear hl hq
      go_wp2_with fail
      refine bodyPost_ret (by simp [results, Try.results11, go_sem]; try rfl) rfl ?_
      exact ⟨by rw [HQB.out], HX.out.2⟩
  · have hkc : (checkF s != 0) = true := by rw [bne_iff_ne]; exact hk
    have hr : quietF s = (false, checkF s) := by unfold quietF; rw [if_neg hk]
    rw [hr]
    have HK := Lib.hid hk
    clear hr hk
    go_enter Try.func11, Try.ntmps11
    go_wp2_with fail
    rw [HW.out.1]
    (with_reducible refine (HC.out).mono ?_); rintro e w1 ⟨rfl, hb1⟩
    have HX := Lib.hid hb1
    clear hb1
    go_wp2_with fail
    refine bodyPost_ret (by simp [results, Try.results11, go_sem]; try rfl) rfl ?_
    exact ⟨rfl, HW.out.2.1.trans (HX.out.mono HW.out.2.1.size)⟩
end Go.Proofs.Ythpcipfloofbcaa
