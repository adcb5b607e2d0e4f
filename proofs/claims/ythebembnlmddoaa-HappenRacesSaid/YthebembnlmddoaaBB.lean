import Derived.Test.YthebembnlmddoaaBA
import Derived.Test.YthebembnlmddoaaAR
namespace Go.Proofs.Ythebembnlmddoaa
open Go.RowKit
set_option maxHeartbeats 16000000
set_option maxRecDepth 100000
set_option linter.unusedSimpArgs false
set_option linter.unusedVariables false

/-- the reference's Races -/
def RrPost (l : List Ev) (w : World) (e : Ending) (w' : World) : Prop := ∃ v, e = .returned (.tuple #[v, .int .i64 (chkF l)]) ∧ Own encRC 2 74 w' w.heap.size v (if chkF l = 0 then racesF l else []) ∧ Below w.heap.size w w'
theorem racesR_calls (l : List Ev) (h80 : l.length ≤ 80) (A : Option Addr) (c : Nat) (w : World) (hA : Rd encE 11 w A l) :
    Calls Try.prog 33 #[.slice A l.length c] w (RrPost l w) := by
  have hck := checkR_calls l A c w hA
  have hrl := races_len l h80
  have hsm := hA.small
  have HC := Lib.hid hck
  have HA := Lib.hid hA
  clear hck hA
  go_enter Try.func33, Try.ntmps33
  go_wp2_with fail
  (with_reducible refine (HC.out).mono ?_); rintro e w1 ⟨rfl, hb1⟩
  by_cases hk : chkF l = 0
  · have hkc : (chkF l != 0) = false := by rw [bne_eq_false_iff_eq]; exact hk
    have hz := chk_zero l hk
    have hall := all_calls l hz.2 hz.1 A c w1 (HA.out.below hb1)
    have d1 : decide (5000 < (racesF l).length) = false := decide_eq_false (by omega)
    have d2 : decide ((5000 : Int) < ((racesF l).length : Int)) = false := decide_eq_false (by omega)
    have HAL := Lib.hid hall
    have H1 := Lib.hid hb1
    have HK := Lib.hid hk
    clear hall hb1 hk hz
    go_wp2_with fail
    (with_reducible refine (HAL.out).mono ?_); rintro e w2 ⟨S, cS, rfl, ho, hb2⟩
    have H2 := Lib.hid (And.intro (ho.down H1.out.size) (H1.out.trans (hb2.mono H1.out.size)))
    clear ho hb2
    go_wp2_with fail
    go_ret2
    exact ⟨_, by rw [HK.out]; rfl, by rw [if_pos HK.out]; exact H2.out.1, H2.out.2⟩
  · have hkc : (chkF l != 0) = true := by rw [bne_iff_ne]; exact hk
    have H1 := Lib.hid (And.intro hb1 hk)
    clear hb1 hk
    go_wp2_with fail
    go_ret2
    exact ⟨_, rfl, by rw [if_neg H1.out.2]; exact World.ownsRow_nil _ _ _ _, H1.out.1⟩
theorem firstR_results (tmps : Array Value) (X : World) (r : Nat) (i j : Int) (b : Bool) (k : Int) (h2 : tmps[2]?.getD undef = .pointer (some ⟨r, 0, none⟩)) (h3 : tmps[3]?.getD undef = .bool b) (h4 : tmps[4]?.getD undef = .int .i64 k) (h : X.heap[r]? = some (.cells #[.int .i64 i, .int .i64 j] 74 (0, 0))) :
    (results Try.f34 tmps).run Try.prog X = .ok (.tuple #[.agg #[.int .i64 i, .int .i64 j], .bool b, .int .i64 k]) X := by
  have z0 := cell_of_row _ r 0 _ _ _ h
  have z1 := cell_of_row _ r 1 _ _ _ h
  simp at z0 z1
  simp [results, Try.results34, go_sem, h2, h3, h4, z0, z1]
theorem firstR_calls (l : List Ev) (A : Option Addr) (c : Nat) (w : World) (hA : Rd encE 11 w A l) :
    Calls Try.prog 34 #[.slice A l.length c] w (FPost l w) := by
  obtain ⟨W, hW⟩ : ∃ W, w.alloc (.cells #[.int .i64 0, .int .i64 0] 74) = W := ⟨_, rfl⟩
  have hb : Below w.heap.size w W := by rw [← hW]; exact (Below.refl _ w).alloc (Nat.le_refl _) _
  have hr : W.heap[w.heap.size]? = some (.cells #[.int .i64 0, .int .i64 0] 74 (0, 0)) := by rw [← hW]; exact Go.heap_alloc_new w _
  have hck := checkR_calls l A c W (hA.below hb)
  have hsm := hA.small
  have HC := Lib.hid hck
  have HA := Lib.hid hA
  have HW := Lib.hid hW
  have H0 := Lib.hid (And.intro hb hr)
  clear hck hA hb hr hW
  go_enter Try.func34, Try.ntmps34
  go_upto_region 1 with fail
  rw [HW.out]
  go_wp2_with fail
  (with_reducible refine (HC.out).mono ?_); rintro e w1 ⟨rfl, hb1⟩
  have hr1 := (hb1.block _ (Array.getElem?_eq_some_iff.1 H0.out.2).1).trans H0.out.2
  have hlo1 := H0.out.1.trans (hb1.mono H0.out.1.size)
  have hsz1 : w.heap.size < w1.heap.size := (Array.getElem?_eq_some_iff.1 hr1).1
  have fill : ∀ (Z : World) (i j : Int), Z.heap[w.heap.size]? = some (.cells #[.int .i64 0, .int .i64 0] 74 (0, 0)) → Below w.heap.size w Z → ((Z.setCell ⟨w.heap.size, 0, none⟩ (.int .i64 i)).setCell ⟨w.heap.size, 1, none⟩ (.int .i64 j)).heap[w.heap.size]? = some (.cells #[.int .i64 i, .int .i64 j] 74 (0, 0)) ∧ Below w.heap.size w ((Z.setCell ⟨w.heap.size, 0, none⟩ (.int .i64 i)).setCell ⟨w.heap.size, 1, none⟩ (.int .i64 j)) := fun Z i j hz hl =>
    ⟨heap_setCell_same _ _ 1 _ _ (.int .i64 j) (heap_setCell_same Z _ 0 _ _ (.int .i64 i) hz), (hl.setCell (Nat.le_refl _) _).setCell (Nat.le_refl _) _⟩
  have HF := Lib.hid fill
  clear fill
  by_cases hk : chkF l = 0
  · have hkc : (chkF l != 0) = false := by rw [bne_eq_false_iff_eq]; exact hk
    have hz := chk_zero l hk
    have hall := all_calls l hz.2 hz.1 A c w1 (HA.out.below hlo1)
    have hf1 : (racesF l = [] → firstF l = (0, 0, false, 0)) ∧ (∀ x xs, racesF l = x :: xs → firstF l = ((x.1 : Int), (x.2 : Int), true, 0)) := ⟨fun h => by unfold firstF; rw [if_pos hk, h]; rfl, fun x xs h => by unfold firstF; rw [if_pos hk, h]; rfl⟩
    have HAL := Lib.hid hall
    have H1 := Lib.hid (And.intro hr1 (And.intro hlo1 hf1))
    clear hall hb1 hk hz hr1 hlo1 hf1 hsz1
    go_wp2_with fail
    (with_reducible refine (HAL.out).mono ?_); rintro e w2 ⟨S, cS, rfl, ho, hb2⟩
    have hr2 := (hb2.block _ (Array.getElem?_eq_some_iff.1 H1.out.1).1).trans H1.out.1
    have hlo2 := H1.out.2.1.trans (hb2.mono H1.out.2.1.size)
    obtain ⟨S', c', hv, _, hrd, _⟩ := ho.form lenRC
    obtain ⟨rfl, _, rfl⟩ := Value.slice.inj hv
    clear hv ho
    have z0 := cell_of_row _ w.heap.size 0 _ _ _ hr2
    have z1 := cell_of_row _ w.heap.size 1 _ _ _ hr2
    have f0 := frozen_of_row _ w.heap.size 0 _ _ hr2
    have f1 := frozen_of_row _ w.heap.size 1 _ _ hr2
    simp at z0 z1
    have H2 := Lib.hid (And.intro hr2 hlo2)
    clear hr2 hlo2 hb2
    have hf := H1.out.2.2
    cases hx : racesF l with
    | nil =>
      have HV := Lib.hid (hf.1 hx)
      clear hrd hf hx
      simp only [List.length_nil]
      go_wp2_with fail
      have h := HF.out w2 0 0 H2.out.1 H2.out.2
      refine bodyPost_ret (firstR_results _ _ w.heap.size 0 0 false 0 rfl rfl rfl h.1) rfl ⟨?_, h.2⟩
      rw [HV.out]
    | cons x xs =>
      rw [hx] at hrd
      have HV := Lib.hid (hf.2 x xs hx)
      obtain ⟨a, rfl, hc⟩ := hrd.cell 0 (by simp)
      have c0 := hc 0 _ rfl
      have c1 := hc 1 _ rfl
      rw [add_field _ _ _ (by decide)] at c1
      simp only [List.getElem_cons_zero, Nat.zero_mul, Nat.add_zero] at c0 c1
      have e0 : a.add 0 = a := by simp [Addr.add]
      rw [e0] at c0 c1
      have hxl : 0 < (x :: xs).length := by simp
      clear hrd hf hx hc e0
      obtain ⟨n, hn⟩ : ∃ n, (x :: xs).length = n := ⟨_, rfl⟩
      rw [hn] at hxl ⊢
      clear hn
      have e1 : (n == 0) = false := by rw [beq_eq_false_iff_ne]; omega
      have e2 : ((n : Int) == 0) = false := by rw [beq_eq_false_iff_ne]; omega
      have e3 : (0 : Int) < (n : Int) := by omega
      go_wp2_with fail
      have h := HF.out w2 x.1 x.2 H2.out.1 H2.out.2
      refine bodyPost_ret (firstR_results _ _ w.heap.size x.1 x.2 true 0 rfl rfl rfl h.1) rfl ⟨?_, h.2⟩
      rw [HV.out]
  · have hkc : (chkF l != 0) = true := by rw [bne_iff_ne]; exact hk
    have hf1 : firstF l = (0, 0, false, chkF l) := by unfold firstF; rw [if_neg hk]
    have z0 := cell_of_row _ w.heap.size 0 _ _ _ hr1
    have z1 := cell_of_row _ w.heap.size 1 _ _ _ hr1
    have f0 := frozen_of_row _ w.heap.size 0 _ _ hr1
    have f1 := frozen_of_row _ w.heap.size 1 _ _ hr1
    simp at z0 z1
    have H1 := Lib.hid (And.intro hr1 (And.intro hlo1 hf1))
    clear hb1 hk hr1 hlo1 hf1 hsz1
    go_wp2_with fail
    have h := HF.out w1 0 0 H1.out.1 H1.out.2.1
    refine bodyPost_ret (firstR_results _ _ w.heap.size 0 0 false (chkF l) rfl rfl rfl h.1) rfl ⟨?_, h.2⟩
    rw [H1.out.2.2]
end Go.Proofs.Ythebembnlmddoaa
