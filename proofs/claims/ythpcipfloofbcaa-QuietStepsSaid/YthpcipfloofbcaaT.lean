import Derived.Test.YthpcipfloofbcaaF
import Derived.BigRegion
import Derived.Deep.DeepCutAuto
namespace Go.Proofs.Ythpcipfloofbcaa
open Go.RowKit
set_option maxHeartbeats 1000000
set_option maxRecDepth 100000
set_option linter.unusedSimpArgs false
set_option linter.unusedVariables false

/-- the messages sent less those received, by the members -/
def netM : List Mem → Int
  | [] => 0
  | m :: l => m.sent - m.recv + netM l
theorem netM_append (a b : List Mem) : netM (a ++ b) = netM a + netM b := by
  induction a with
  | nil => simp [netM]
  | cons x l ih => simp only [List.cons_append, netM, ih]; omega
theorem netM_take (l : List Mem) (k : Nat) (h : k < l.length) : netM (l.take (k + 1)) = netM (l.take k) + l[k].sent - l[k].recv := by
  rw [List.take_succ_eq_append_getElem h, netM_append]; simp only [netM]; omega
theorem netM_bound (l : List Mem) (h : ∀ x ∈ l, 0 ≤ x.sent ∧ x.sent ≤ 1000000 ∧ 0 ≤ x.recv ∧ x.recv ≤ 1000000) : - (1000000 * l.length : Int) ≤ netM l ∧ netM l ≤ 1000000 * l.length := by
  induction l with
  | nil => simp [netM]
  | cons x l ih =>
    have h1 := h x (by simp)
    have h2 := ih (fun y hy => h y (by simp [hy]))
    simp only [netM, List.length_cons]
    omega

theorem naive1_calls (n : Int) (m : Mem) (h1 : -100000000 ≤ n) (h2 : n ≤ 100000000) (hm : 0 ≤ m.sent ∧ m.sent ≤ 1000000 ∧ 0 ≤ m.recv ∧ m.recv ≤ 1000000) (w : World) :
    Calls Try.prog 42 #[.int .i64 n, m.v] w fun e w' => e = .returned (.int .i64 (n + m.sent - m.recv)) ∧ Below w.heap.size w w' := by
  obtain ⟨a1, a2, a3, a4⟩ := hm
  go_enter Try.func42, Try.ntmps42
  go_wp2
  go_ret
  exact ⟨rfl, (Below.refl _ _).alloc (Nat.le_refl _) _⟩

theorem total_calls (A : Option Addr) (xs : List Mem) (c : Nat) (w : World) (hx : Rd encM 3 w A xs) (hn : xs.length ≤ 10) (hm : ∀ x ∈ xs, 0 ≤ x.sent ∧ x.sent ≤ 1000000 ∧ 0 ≤ x.recv ∧ x.recv ≤ 1000000) :
    Calls Try.prog 41 #[.slice A xs.length c, .int .i64 0, .func (.func 42) #[] #[]] w fun e w' => e = .returned (.int .i64 (netM xs)) ∧ Below w.heap.size w w' := by
  have hl := hx.small
  have HX := Lib.hid hx
  have HM := Lib.hid hm
  clear hx hm
  go_enter Try.func41, Try.ntmps41
  go_wp2
  go_loopg [1, 8, 11, 12, 13, 14, 15, 16, 17, 18, 19] (xs.length) (fun g v1 v8 v11 v12 v13 v14 v15 v16 v17 v18 v19 wr => ∃ k : Nat, k + g = xs.length ∧ v11 = .int .i64 k ∧ v1 = .int .i64 (netM (xs.take k)) ∧ Below w.heap.size w wr)
  case atStart => exact ⟨0, by omega, rfl, rfl, Below.refl _ _⟩
  case round =>
    obtain ⟨k, hk, rfl, rfl, hb⟩ := hrel
    have HB := Lib.hid hb
    clear hb
    by_cases hlt : k < xs.length
    · obtain ⟨a, rfl, hc0, hc1, hc2⟩ := (HX.out.below HB.out).mem k hlt
      have hbd := netM_bound (xs.take k) (fun x hx => HM.out x (List.mem_of_mem_take hx))
      rw [List.length_take, Nat.min_eq_left (by omega)] at hbd
      have hcall := naive1_calls (netM (xs.take k)) xs[k] (by omega) (by omega) (HM.out _ (List.getElem_mem hlt))
      have HC := Lib.hid hcall
      have HD := Lib.hid (netM_take xs k hlt)
      clear hcall hbd
      go_wp2_with fail
      (with_reducible refine (HC.out _).mono ?_); rintro e w' ⟨rfl, hb1⟩
      have HB1 := Lib.hid hb1
      clear hb1
      go_wp2_with fail
      go_roundg (gk - 1)
      case measure => omega
      case rel => exact ⟨k+1, by omega, by go_num, by rw [HD.out], (HB.out.alloc HB.out.size _).trans (HB1.out.mono (by have := HB.out.size; simp; omega))⟩
    · have hkl : k = xs.length := by omega
      rw [hkl, List.take_length]
      clear hkl hk
      go_wp2_with fail
      go_ret
      exact ⟨rfl, HB.out⟩

def naiveF (s : St) : Bool × Int := if checkF s = 0 then (netM s.ms == 0, 0) else (false, checkF s)

theorem naive_calls (s : St) (A : Option Addr) (c : Nat) (B : Option Addr) (d : Nat) (w : World) (h : RdS w A B s) (hfine : checkF s = 0 → s.ms.length ≤ 10 ∧ ∀ x ∈ s.ms, 0 ≤ x.sent ∧ x.sent ≤ 1000000 ∧ 0 ≤ x.recv ∧ x.recv ≤ 1000000) :
    Calls Try.prog 22 #[s.v A c B d] w fun e w' => e = .returned (.tuple #[.bool (naiveF s).1, .int .i64 (naiveF s).2]) ∧ Below w.heap.size w w' := by
  obtain ⟨W, hW⟩ : ∃ W, w.alloc (.cells (cellsS s (.slice A s.ms.length c) (.slice B s.fl.length d)) 27) = W := ⟨_, rfl⟩
  have hb : Below w.heap.size w W := by rw [← hW]; exact (Below.refl _ _).alloc (Nat.le_refl _) _
  have hr0 : W.heap[w.heap.size]? = some (.cells (cellsS s (.slice A s.ms.length c) (.slice B s.fl.length d)) 27 (0, 0)) := by rw [← hW]; exact heap_alloc_new w _
  have hck := check_calls s A c B d W (h.below hb)
  have HC := Lib.hid hck
  have HW := Lib.hid (And.intro hW (And.intro hb hr0))
  have HR := Lib.hid h
  have HF := Lib.hid hfine
  clear hck hW hb hr0 h hfine
  by_cases hk : checkF s = 0
  · have hkc : (checkF s != 0) = false := by rw [bne_eq_false_iff_eq]; exact hk
    have hr : naiveF s = (netM s.ms == 0, 0) := by unfold naiveF; rw [if_pos hk]
    rw [hr]
    have HK := Lib.hid hk
    clear hr hk
    go_enter Try.func22, Try.ntmps22
    go_wp2_with fail
    rw [HW.out.1]
    (with_reducible refine (HC.out).mono ?_); rintro e w1 ⟨rfl, hb1⟩
    have hrow := (hb1.block _ (Array.getElem?_eq_some_iff.1 HW.out.2.2).1).trans HW.out.2.2
    have z0 := cell_of_row _ w.heap.size 0 _ _ _ hrow
    simp at z0
    have hrd := (HR.out.below HW.out.2.1).below hb1
    have hlo := HW.out.2.1.trans (hb1.mono HW.out.2.1.size)
    have HX := Lib.hid (And.intro hrd hlo)
    clear hb1 hrow hrd hlo
    have hc := total_calls A s.ms c w1 HX.out.1.ms (HF.out HK.out).1 (HF.out HK.out).2
    have HC2 := Lib.hid hc
    clear hc
    go_wp2_with fail
    (with_reducible refine (HC2.out).mono ?_); rintro e w2 ⟨rfl, hb2⟩; have HY := Lib.hid hb2; clear hb2
    go_wp2_with fail
    refine bodyPost_ret (by simp [results, Try.results22, go_sem]; try rfl) rfl ?_
    exact ⟨rfl, HX.out.2.trans (HY.out.mono HX.out.2.size)⟩
  · have hkc : (checkF s != 0) = true := by rw [bne_iff_ne]; exact hk
    have hr : naiveF s = (false, checkF s) := by unfold naiveF; rw [if_neg hk]
    rw [hr]
    have HK := Lib.hid hk
    clear hr hk
    go_enter Try.func22, Try.ntmps22
    go_wp2_with fail
    rw [HW.out.1]
    (with_reducible refine (HC.out).mono ?_); rintro e w1 ⟨rfl, hb1⟩
    have HX := Lib.hid hb1
    clear hb1
    go_wp2_with fail
    refine bodyPost_ret (by simp [results, Try.results22, go_sem]; try rfl) rfl ?_
    exact ⟨rfl, HW.out.2.1.trans (HX.out.mono HW.out.2.1.size)⟩
end Go.Proofs.Ythpcipfloofbcaa
