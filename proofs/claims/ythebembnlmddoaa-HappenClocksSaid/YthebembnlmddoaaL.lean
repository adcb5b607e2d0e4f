import Derived.Test.YthebembnlmddoaaK
namespace Go.Proofs.Ythebembnlmddoaa
open Go.RowKit
set_option maxHeartbeats 8000000
set_option maxRecDepth 100000
set_option linter.unusedSimpArgs false
set_option linter.unusedVariables false

theorem Ck.rest {w w' : World} {base : Nat} {A : Option Addr} {c : Nat} {l : List Ev} {cb : Nat} (h : Ck w base A c l cb) (hb : Below w.heap.size w w') : Ck w' base A c l cb := by
  obtain ⟨mi, AA, h1, h2, h3⟩ := h
  exact ⟨mi, AA, (hb.block _ (Array.getElem?_eq_some_iff.1 h1).1).trans h1, h2.rest hb, h3.rest hb⟩
def evT (l : List Ev) (i : Nat) : Int := (l[i]?.map (·.t)).getD 0
/-- a number of a clock -/
def clkN (l : List Ev) (i k : Nat) : Int := ((clkF l).getD i []).getD k 0
/-- does an event happen before another one, as the clocks say -/
def bfB (l : List Ev) (i j : Nat) : Bool := decide (i < j) && decide (clkN l i ((tkF l).idxOf (evT l i)) ≤ clkN l j ((tkF l).idxOf (evT l i)))
theorem evT_eq (l : List Ev) (i : Nat) (h : i < l.length) : evT l i = (l[i]).t := by simp [evT, List.getElem?_eq_getElem h]
theorem clkF_len (l : List Ev) : (clkF l).length = l.length := csF_As_len _ _
theorem clkF_row (l : List Ev) (i : Nat) (h : i < (clkF l).length) : ((clkF l)[i]).length = (tkF l).length := by
  have := csF_bnd (tkF l) l (fun e he => by rw [tkF_mem]; exact ⟨e, he, rfl⟩)
  exact (this.a _ (List.getElem_mem h)).1
/-- the cells of the clocks -/
theorem Ck.cells {w : World} {base : Nat} {A : Option Addr} {c : Nat} {l : List Ev} {cb : Nat} (h : Ck w base A c l cb) : ∃ mi SA cp, w.cell? ⟨cb, 0, none⟩ = some (.slice A l.length c) ∧ w.cell? ⟨cb, 1, none⟩ = some (.map (some mi)) ∧ w.cell? ⟨cb, 2, none⟩ = some (.slice SA l.length cp) ∧ IxM w mi l.length (tkF l) ∧
    ∀ i, i < l.length → ∃ sa g cg, SA = some sa ∧ w.cell? (sa.add i) = some (.slice (some ⟨g, 0, none⟩) (tkF l).length cg) ∧ ∀ k, k < (tkF l).length → w.cell? ⟨g, k, none⟩ = some (.int .i64 (clkN l i k)) := by
  obtain ⟨mi, AA, h1, h2, vs, h3, h4, h5⟩ := h
  obtain ⟨SA, cp, rfl, hr⟩ := h3.rd lenO
  rw [h4, clkF_len] at h1
  refine ⟨mi, SA, cp, ?_, ?_, ?_, h2, fun i hi => ?_⟩
  · rw [cell_of_row _ _ _ _ _ _ h1]; rfl
  · rw [cell_of_row _ _ _ _ _ _ h1]; rfl
  · rw [cell_of_row _ _ _ _ _ _ h1]; rfl
  · have hiv : i < vs.length := by rw [h4, clkF_len]; exact hi
    have hic : i < (clkF l).length := by rw [clkF_len]; exact hi
    obtain ⟨sa, hsa, hc⟩ := hr.cell i hiv
    obtain ⟨g, cg, e1, e2, e3⟩ := h5 i hiv hic
    refine ⟨sa, g, cg, hsa, ?_, fun k hk => ?_⟩
    · have := hc 0 _ rfl
      rw [Nat.mul_one, Nat.add_zero] at this
      rw [this, e1]
    · rw [e1] at e3
      obtain ⟨q, _⟩ := e3.cell lenI e2 k (by omega) 0 _ rfl
      rw [Nat.mul_one, Nat.add_zero] at q
      rw [q]
      unfold clkN
      have ha : (clkF l).getD i [] = (clkF l)[i] := by rw [List.getD_eq_getElem?_getD, List.getElem?_eq_getElem hic]; rfl
      rw [ha, getD_in _ _ (by omega)]
theorem before_calls (l : List Ev) (hok : ∀ e ∈ l, e.ok) (i j : Nat) (hi : i < l.length) (hj : j < l.length) (A : Option Addr) (c cb base : Nat) (w : World) (hA : Rd encE 11 w A l) (hC : Ck w base A c l cb) :
    Calls Try.prog 44 #[.pointer (some ⟨cb, 0, none⟩), .int .i64 (i : Int), .int .i64 (j : Int)] w fun e w' => e = .returned (.bool (bfB l i j)) ∧ ∃ n, w' = w.drewN n := by
  have hsm := hA.small
  obtain ⟨mi, SA, cp, x0, x1, x2, hix, hall⟩ := hC.cells
  obtain ⟨a, rfl, hca⟩ := hA.cell i hi
  have hmem : (l[i]).t ∈ tkF l := by rw [tkF_mem]; exact ⟨_, List.getElem_mem hi, rfl⟩
  have hto := (hok _ (List.getElem_mem hi)).t
  have hq := hca 1 _ rfl
  rw [add_field _ _ 1 (by omega)] at hq
  have hlk := fun n => (hix.rest (drewN_below (Below.refl _ _) n)).look (l[i]).t hto hmem
  have hixl : (tkF l).idxOf (l[i]).t < (tkF l).length := List.idxOf_lt_length_of_mem hmem
  obtain ⟨sa, g, cg, rfl, y1, y2⟩ := hall i hi
  obtain ⟨sa', g', cg', hsa, y1', y2'⟩ := hall j hj
  cases hsa
  have z1 := y2 _ hixl
  have z2 := y2' _ hixl
  have hbf : bfB l i j = (decide (i < j) && decide (clkN l i ((tkF l).idxOf (l[i]).t) ≤ clkN l j ((tkF l).idxOf (l[i]).t))) := by
    unfold bfB
    rw [evT_eq l i hi]
  have HB := Lib.hid hbf
  generalize clkN l i ((tkF l).idxOf (l[i]).t) = u at *
  generalize clkN l j ((tkF l).idxOf (l[i]).t) = v at *
  generalize (tkF l).idxOf (l[i]).t = ix at *
  generalize (tkF l).length = K at *
  generalize (l[i]).t = t at *
  rw [HB.out]
  clear hca hmem hto hix hall y2 y2' hbf hC hA hok HB
  generalize l.length = n at *
  have hii : (i : Int) < (n : Int) := by omega
  have hjj : (j : Int) < (n : Int) := by omega
  have hxx : (ix : Int) < (K : Int) := by omega
  by_cases hij : i < j
  · have hd : decide (i < j) = true := decide_eq_true hij
    go_enter Try.func44, Try.ntmps44
    go_upto_region 1 with fail
    go_quiet (fail)
    clear hlk
    go_upto_region 2 with fail
    go_quiet (fail)
    go_wp2_with fail
    go_ret
    exact ⟨ret_bool (a := decide (u ≤ v)) (by rw [decide_eq_true hij, Bool.true_and]), _, World.drewN_drewN _ _ _⟩
  · have hd : decide (i < j) = false := decide_eq_false hij
    go_enter Try.func44, Try.ntmps44
    go_upto_region 1 with fail
    go_quiet (fail)
    clear hlk
    go_upto_region 2 with fail
    go_quiet (fail)
    go_wp2_with fail
    go_ret
    exact ⟨ret_bool (a := false) (by rw [decide_eq_false hij, Bool.false_and]), _, World.drewN_drewN _ _ _⟩
end Go.Proofs.Ythebembnlmddoaa
