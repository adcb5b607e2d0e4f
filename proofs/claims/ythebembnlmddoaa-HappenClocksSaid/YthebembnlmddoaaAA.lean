import Derived.Test.YthebembnlmddoaaZ
import Derived.Deep.RegionHeld3
namespace Go.Proofs.Ythebembnlmddoaa
open Go.RowKit
set_option maxHeartbeats 8000000
set_option maxRecDepth 100000
set_option linter.unusedSimpArgs false
set_option linter.unusedVariables false

theorem below_drew {m : Nat} {V w : World} (h : Below m V w) : Below m V w.drew := ⟨h.os, h.tape, h.output, h.size, h.block⟩
/-- the rows of the clocks -/
def ClkR (w : World) (SA : Option Addr) (l : List Ev) : Prop := ∀ i, i < l.length → ∃ sa g cg, SA = some sa ∧ w.cell? (sa.add i) = some (.slice (some ⟨g, 0, none⟩) (tkF l).length cg) ∧ ∀ k, k < (tkF l).length → w.cell? ⟨g, k, none⟩ = some (.int .i64 (clkN l i k))
theorem clocks_calls (l : List Ev) (hok : ∀ e ∈ l, e.ok) (hk : chkF l = 0) (A : Option Addr) (c : Nat) (w : World) (hA : Rd encE 11 w A l) :
    Calls Try.prog 16 #[.slice A l.length c] w fun e w' => ∃ SA cp, e = .returned (.tuple #[.slice SA l.length cp, .int .i64 0]) ∧ ClkR w' SA l ∧ Below w.heap.size w w' := by
  have hz := chk_zero l hk
  have hck := check_calls l hok A c w hA
  rw [hk] at hck
  have hsm := hA.small
  have HC := Lib.hid hck
  have HR := Lib.hid (And.intro hA (And.intro hok (And.intro (rtB_fm l hz.2) hz.1)))
  clear hck hA hok hz hk
  go_enter Try.func16, Try.ntmps16
  go_wp2_with fail
  (with_reducible refine (HC.out).mono ?_); rintro e w1 ⟨rfl, hb1⟩
  have hnc := newClocks_calls l HR.out.2.1 HR.out.2.2.1 HR.out.2.2.2 A c w1 (HR.out.1.below hb1)
  have HN := Lib.hid (And.intro hnc hb1)
  clear hnc hb1
  go_wp2_with fail
  (with_reducible refine (HN.out.1).mono ?_); rintro e w2 ⟨cb, rfl, hCk, hb2⟩
  obtain ⟨mi, SA, cp, x0, x1, x2, hix, hall⟩ := hCk.cells
  have H2 := Lib.hid (And.intro hall (HN.out.2.trans (hb2.mono HN.out.2.size)))
  clear hall hb2 hix x0 x1 hCk
  go_wp2_with fail
  go_ret2
  exact ⟨SA, cp, rfl, H2.out.1, H2.out.2⟩
/-- Reorder$1$1: does the event at i happen before the one that order has at k -/
theorem inner_calls (l : List Ev) (hok : ∀ e ∈ l, e.ok) (o : List Nat) (ho : ∀ j ∈ o, j < l.length) (i k : Nat) (hi : i < l.length) (hk : k < o.length) (A : Option Addr) (c cb base bc bo bk : Nat) (S : Option Addr) (cO : Nat) (w : World)
    (hA : Rd encE 11 w A l) (hC : Ck w base A c l cb) (hS : Rd encN 1 w S o) (z1 : w.cell? ⟨bc, 0, none⟩ = some (.pointer (some ⟨cb, 0, none⟩))) (z2 : w.cell? ⟨bo, 0, none⟩ = some (.slice S o.length cO)) (z3 : w.cell? ⟨bk, 0, none⟩ = some (.int .i64 (k : Int))) :
    Calls Try.prog 51 #[.int .i64 (i : Int), .pointer (some ⟨bc, 0, none⟩), .pointer (some ⟨bo, 0, none⟩), .pointer (some ⟨bk, 0, none⟩)] w fun e w' => e = .returned (.bool (bfB l i o[k])) ∧ Below w.heap.size w w' := by
  obtain ⟨sa, rfl, hsc⟩ := hS.cell k hk
  have z4 := hsc 0 _ rfl
  rw [Nat.mul_one, Nat.add_zero] at z4
  have hj := ho _ (List.getElem_mem hk)
  generalize o[k] = j at *
  have hbc := before_calls l hok i j hi hj A c cb base w.drew hA.drew (hC.rest (below_drew (Below.refl w.heap.size w)))
  have HB := Lib.hid hbc
  have hkk : (k : Int) < (o.length : Int) := by omega
  clear hsc hbc hA hC hS hok ho
  go_enter Try.func51, Try.ntmps51
  go_upto_region 1 with fail
  go_region_held3 (fun w' => w'.cell? ⟨bc, 0, none⟩ = some (.pointer (some ⟨cb, 0, none⟩)) ∧ w'.cell? ⟨bo, 0, none⟩ = some (.slice (some sa) o.length cO) ∧ w'.cell? ⟨bk, 0, none⟩ = some (.int .i64 (k : Int)) ∧ w'.cell? (sa.add k) = some (.int .i64 (j : Int))) (first | exact ⟨z1, z2, z3, z4⟩ | fail) (first | (go_at_call 44; (with_reducible refine (HB.out).mono ?_); rintro e w5 ⟨rfl, n5, rfl⟩) | fail)
  all_goals (
    go_wp2_with fail
    go_ret
    exact ⟨rfl, drewN_below (Below.refl w.heap.size w) _⟩)
/-- may the event at place k of the order stand there -/
def pmB (l : List Ev) (o : List Nat) (k : Nat) : Bool := !(o.drop (k + 1)).any (fun i => bfB l i (o.getD k 0))
theorem permB_calls (l : List Ev) (hok : ∀ e ∈ l, e.ok) (o : List Nat) (ho : ∀ j ∈ o, j < l.length) (k : Nat) (hk : k < o.length) (A : Option Addr) (c cb base bc bo : Nat) (S : Option Addr) (cO : Nat) (hcap : o.length ≤ cO) (w : World)
    (hA : Rd encE 11 w A l) (hC : Ck w base A c l cb) (hS : Rd encN 1 w S o) (z1 : w.cell? ⟨bc, 0, none⟩ = some (.pointer (some ⟨cb, 0, none⟩))) (z2 : w.cell? ⟨bo, 0, none⟩ = some (.slice S o.length cO)) :
    Calls Try.prog 49 #[.int .i64 (k : Int), .pointer (some ⟨bo, 0, none⟩), .pointer (some ⟨bc, 0, none⟩)] w fun e w' => e = .returned (.bool (pmB l o k)) ∧ Below w.heap.size w w' := by
  obtain ⟨W1, hW1⟩ : ∃ W1, w.alloc (.cells #[.int .i64 (k : Int)] 3) = W1 := ⟨_, rfl⟩
  have hb1 : Below w.heap.size w W1 := by rw [← hW1]; exact (Below.refl _ w).alloc (Nat.le_refl _) _
  have z3 : W1.cell? ⟨w.heap.size, 0, none⟩ = some (.int .i64 (k : Int)) := by rw [← hW1, cell_of_row _ _ _ _ _ _ (Go.heap_alloc_new w _)]; rfl
  obtain ⟨sa, rfl, _⟩ := hS.cell k hk
  have y1 := (hb1.cell (World.block_lt_of_cell? _ _ z1)).trans z1
  have y2 := (hb1.cell (World.block_lt_of_cell? _ _ z2)).trans z2
  have hkk : (k : Int) + 1 ≤ (o.length : Int) := by omega
  have hsm := hS.small
  have hmf : ∀ (fn : Fn) (first cap : Array Value) (w : World), (Instr.makeFunc fn first cap).run Try.prog w = .ok (.func fn first cap) w := fun _ _ _ _ => rfl
  have HW := Lib.hid hW1
  have HR := Lib.hid (And.intro hb1 (And.intro (hA.below hb1) (And.intro (hC.rest hb1) (hS.below hb1))))
  clear hW1 hA hC hS hb1
  go_enter Try.func49, Try.ntmps49
  go_upto_region 1 with fail
  rw [HW.out]
  have hdr : Rd encN 1 W1 (some ⟨sa.block, sa.off + (k + 1), none⟩) (o.drop (k + 1)) := by
    refine ⟨by rw [List.length_drop]; omega, fun x hx => ⟨_, rfl, fun j v hv => ?_⟩⟩
    rw [List.length_drop] at hx
    obtain ⟨sb, he, hc⟩ := HR.out.2.2.2.cell (k + 1 + x) (by omega)
    cases he
    rw [List.getElem_drop] at hv
    have := hc j v hv
    rw [← this]
    congr 1
    unfold Addr.add
    by_cases e0 : x * 1 + j = 0
    · rw [if_pos e0, if_neg (by omega)]
      simp only [Addr.mk.injEq, and_true, true_and]; omega
    · rw [if_neg e0, if_neg (by omega)]
      simp only [Addr.mk.injEq, and_true, true_and]; omega
  have hgen := fun A' c' (hdr : Rd encN 1 W1 A' (o.drop (k + 1))) => containsFunc_calls (fun i => bfB l i (o.getD k 0)) 51 #[.pointer (some ⟨bc, 0, none⟩), .pointer (some ⟨bo, 0, none⟩), .pointer (some ⟨w.heap.size, 0, none⟩)] (o.drop (k + 1)) A' c' W1 hdr (enters_of Try.func51 (by kernel_rfl) rfl) (fun x hx w1 hb => by
    have hg : o.getD k 0 = o[k] := by rw [List.getD_eq_getElem?_getD, List.getElem?_eq_getElem hk]; rfl
    rw [hg]
    exact inner_calls l hok o ho _ k (ho _ (List.mem_of_mem_drop (List.getElem_mem hx))) hk A c cb base bc bo w.heap.size _ cO w1 (HR.out.2.1.below hb) (HR.out.2.2.1.rest hb) (HR.out.2.2.2.below hb)
      ((hb.cell (World.block_lt_of_cell? _ _ y1)).trans y1) ((hb.cell (World.block_lt_of_cell? _ _ y2)).trans y2) ((hb.cell (World.block_lt_of_cell? _ _ z3)).trans z3))
  rw [List.length_drop] at hgen
  have HCF := Lib.hid (hgen _ (cO - (k + 1)) hdr)
  have HCF2 := Lib.hid (fun (h : o.length ≤ k + 1) => hgen (some sa) 0 (by rw [List.drop_eq_nil_of_le h]; exact Rd.nil _ _ _ _))
  have hpm : pmB l o k = !(o.drop (k + 1)).any (fun i => bfB l i (o.getD k 0)) := rfl
  have HPM := Lib.hid hpm
  clear hgen hdr hpm
  go_wp2_with (first | ((with_reducible refine (HCF.out).mono ?_); rintro e w2 ⟨rfl, hb2⟩) | ((with_reducible refine (HCF2.out (by omega)).mono ?_); rintro e w2 ⟨rfl, hb2⟩))
  all_goals (
    go_ret
    exact ⟨ret_bool (by rw [HPM.out, List.getD_eq_getElem?_getD, List.getElem?_eq_getElem hk]; rfl), HR.out.1.trans (hb2.mono HR.out.1.size)⟩)
end Go.Proofs.Ythebembnlmddoaa
