import Derived.Test.YtggidakiflnhhaaB
import Derived.Shelf.Abstract
namespace Go.Proofs.Ytggidakiflnhhaa
open Go.RowKit
set_option maxHeartbeats 4000000
set_option maxRecDepth 100000
set_option linter.unusedSimpArgs false
set_option linter.unusedVariables false

/-- IndexFunc by a closure -/
theorem indexP_calls (p : Op → Bool) (fid : Nat) (cap : Array Value) (xs : List Op) (A : Option Addr) (c : Nat) (w : World) (hx : Rd encP 4 w A xs)
    (hf : ∀ (args : Array Value) (w : World), (callFunc fid args).run Try.prog w = .ok (.enter fid args) w)
    (hp : ∀ k (h : k < xs.length) w1, Below w.heap.size w w1 → Calls Try.prog fid (#[xs[k].val] ++ cap) w1 fun e w' => e = .returned (.bool (p xs[k])) ∧ Below w1.heap.size w1 w') :
    Calls Try.prog 43 #[.slice A xs.length c, .func (.func fid) #[] cap] w fun e w' => e = .returned (.int .i64 (idxF p xs)) ∧ Below w.heap.size w w' := by
  have hl := hx.small
  have HX := Lib.hid hx
  have HP := Lib.hid hp
  clear hx hp
  go_enter Try.func43, Try.ntmps43
  go_wp2_with fail
  go_loopg [4, 5, 8, 9, 10, 11, 12, 13, 14, 15, 16, 17, 18] xs.length (fun gk v4 v5 v8 v9 v10 v11 v12 v13 v14 v15 v16 v17 v18 wr => ∃ k : Nat, k + gk = xs.length ∧ v8 = .int .i64 (k : Int) ∧ v4 = .int .i64 0 ∧ (∀ j (h : j < k) (h' : j < xs.length), p xs[j] = false) ∧ Below w.heap.size w wr)
  case atStart => exact ⟨0, by omega, rfl, rfl, fun j hj => by omega, Below.refl _ _⟩
  case round =>
    obtain ⟨k, hk, rfl, rfl, hall, hb⟩ := hrel
    by_cases hlt : k < xs.length
    · have hd : decide (k < xs.length) = true := decide_eq_true hlt
      obtain ⟨a, rfl, hca⟩ := (HX.out.below hb).cell k hlt
      have x0 := hca 0 _ rfl
      have x1 := hca 1 _ rfl
      have x2 := hca 2 _ rfl
      have x3 := hca 3 _ rfl
      rw [Nat.add_zero] at x0
      rw [add_field _ _ _ (by decide)] at x1 x2 x3
      have hp1 := HP.out k hlt wr hb
      have HP1 := Lib.hid hp1
      have HL := Lib.hid (And.intro hall hb)
      clear hp1 hall hb hca
      obtain ⟨pb, hpb⟩ : ∃ pb, p xs[k] = pb := ⟨_, rfl⟩
      rw [hpb] at HP1
      have HT := Lib.hid hpb
      clear hpb
      generalize hxk : xs[k] = x at *
      have HXK := Lib.hid hxk
      clear hxk
      cases pb with
      | true =>
        go_wp2_with ((with_reducible refine (HP1.out).mono ?_); rintro e w' ⟨rfl, hb1⟩)
        go_ret
        exact ⟨ret_int (idxF_at p xs k hlt (by rw [HXK.out]; exact HT.out) (fun j h => HL.out.1 j h (by omega))).symm, HL.out.2.trans (hb1.mono HL.out.2.size)⟩
      | false =>
        go_wp2_with ((with_reducible refine (HP1.out).mono ?_); rintro e w' ⟨rfl, hb1⟩)
        go_roundg (gk - 1)
        case measure => omega
        case rel => exact ⟨k + 1, by omega, by go_num, rfl, fun j hj hj' => by
          by_cases e : j = k
          · subst e; rw [HXK.out]; exact HT.out
          · exact HL.out.1 j (by omega) hj', HL.out.2.trans (hb1.mono HL.out.2.size)⟩
    · have hd : decide (k < xs.length) = false := decide_eq_false hlt
      have HL := Lib.hid (And.intro hall hb)
      clear hall hb
      go_wp2_with fail
      go_ret
      exact ⟨ret_int (idxF_none _ xs (fun j h => HL.out.1 j (by omega) h)).symm, HL.out.2⟩
theorem containsP_calls (p : Op → Bool) (fid : Nat) (cap : Array Value) (xs : List Op) (A : Option Addr) (c : Nat) (w : World) (hx : Rd encP 4 w A xs)
    (hf : ∀ (args : Array Value) (w : World), (callFunc fid args).run Try.prog w = .ok (.enter fid args) w)
    (hp : ∀ k (h : k < xs.length) w1, Below w.heap.size w w1 → Calls Try.prog fid (#[xs[k].val] ++ cap) w1 fun e w' => e = .returned (.bool (p xs[k])) ∧ Below w1.heap.size w1 w') :
    Calls Try.prog 27 #[.slice A xs.length c, .func (.func fid) #[] cap] w fun e w' => e = .returned (.bool (xs.any p)) ∧ Below w.heap.size w w' := by
  have h1 := indexP_calls p fid cap xs A c w hx hf hp
  have H1 := Lib.hid h1
  have HA := Lib.hid (idxF_any p xs)
  clear h1 hx hp hf
  go_enter Try.func27, Try.ntmps27
  go_wp2_with fail
  (with_reducible refine (H1.out).mono ?_); rintro e w2 ⟨rfl, hb⟩
  have HB := Lib.hid hb
  clear hb H1
  generalize idxF p xs = ix at *
  have ha := HA.out
  clear HA
  go_wp2_with fail
  go_ret
  exact ⟨rfl, HB.out⟩
theorem notRight_calls (c : Cf) (o : Op) (b : Nat) (w : World) (hb : w.heap[b]? = some (.cells c.cells 25 (0, 0))) : Calls Try.prog 28 #[o.val, .pointer (some ⟨b, 0, none⟩)] w fun x w' => x = .returned (.bool (!decide (opOk c o))) ∧ Below w.heap.size w w' := by
  obtain ⟨W1, hW1⟩ : ∃ W1, w.alloc (.cells o.cells 38) = W1 := ⟨_, rfl⟩
  have hb1 : Below w.heap.size w W1 := by rw [← hW1]; exact (Below.refl _ w).alloc (Nat.le_refl _) _
  have hb' := (hb1.block _ (Array.getElem?_eq_some_iff.1 hb).1).trans hb
  have c0 : W1.cell? ⟨b, 0, none⟩ = some (.int .i64 c.L) := by rw [cell_of_row _ _ _ _ _ _ hb']; rfl
  have c1 : W1.cell? ⟨b, 1, none⟩ = some (.int .i64 c.W) := by rw [cell_of_row _ _ _ _ _ _ hb']; rfl
  have c2 : W1.cell? ⟨b, 2, none⟩ = some (.int .i64 c.N) := by rw [cell_of_row _ _ _ _ _ _ hb']; rfl
  have c3 : W1.cell? ⟨b, 3, none⟩ = some (.int .i64 c.H) := by rw [cell_of_row _ _ _ _ _ _ hb']; rfl
  have hx : W1.heap[w.heap.size]? = some (.cells o.cells 38 (0, 0)) := by rw [← hW1]; exact Go.heap_alloc_new w _
  have y0 : W1.cell? ⟨w.heap.size, 0, none⟩ = some (.int .i64 o.a) := by rw [cell_of_row _ _ _ _ _ _ hx]; rfl
  have y1 : W1.cell? ⟨w.heap.size, 1, none⟩ = some (.int .i64 o.k) := by rw [cell_of_row _ _ _ _ _ _ hx]; rfl
  have y2 : W1.cell? ⟨w.heap.size, 2, none⟩ = some (.int .i64 o.p) := by rw [cell_of_row _ _ _ _ _ _ hx]; rfl
  have y3 : W1.cell? ⟨w.heap.size, 3, none⟩ = some (.int .i64 o.v) := by rw [cell_of_row _ _ _ _ _ _ hx]; rfl
  have ha := opRight_calls c o W1
  have HA := Lib.hid ha
  have HB := Lib.hid hb1
  have HW := Lib.hid hW1
  clear ha hb1 hb hb' hx hW1
  go_enter Try.func28, Try.ntmps28
  go_upto_region 1 with fail
  rw [HW.out]
  go_wp2_with ((with_reducible refine (HA.out).mono ?_); rintro e w5 ⟨rfl, hb5⟩; have HB5 := Lib.hid (HB.out.trans (hb5.mono HB.out.size)); clear hb5)
  go_ret
  exact ⟨rfl, HB5.out⟩
theorem any_not {c : Cf} {l : List Op} : l.any (fun o => !decide (opOk c o)) = true ↔ ¬ ∀ o ∈ l, opOk c o := by
  rw [List.any_eq_true]
  constructor
  · rintro ⟨x, hx, hn⟩ h
    simp [h x hx] at hn
  · intro h
    apply Classical.byContradiction
    intro g
    apply h
    intro o ho
    apply Classical.byContradiction
    intro g2
    exact g ⟨o, ho, by simp [g2]⟩
theorem check_calls (c : Cf) (l : List Op) (A : Option Addr) (cp : Nat) (w : World) (hA : Rd encP 4 w A l) :
    Calls Try.prog 10 #[c.val, .slice A l.length cp] w fun x w' => x = .returned (.int .i64 (chkF c l)) ∧ Below w.heap.size w w' := by
  have hsm := hA.small
  obtain ⟨W1, hW1⟩ : ∃ W1, w.alloc (.cells c.cells 25) = W1 := ⟨_, rfl⟩
  have hb1 : Below w.heap.size w W1 := by rw [← hW1]; exact (Below.refl _ w).alloc (Nat.le_refl _) _
  have hx : W1.heap[w.heap.size]? = some (.cells c.cells 25 (0, 0)) := by rw [← hW1]; exact Go.heap_alloc_new w _
  have y0 : W1.cell? ⟨w.heap.size, 0, none⟩ = some (.int .i64 c.L) := by rw [cell_of_row _ _ _ _ _ _ hx]; rfl
  have y1 : W1.cell? ⟨w.heap.size, 1, none⟩ = some (.int .i64 c.W) := by rw [cell_of_row _ _ _ _ _ _ hx]; rfl
  have y2 : W1.cell? ⟨w.heap.size, 2, none⟩ = some (.int .i64 c.N) := by rw [cell_of_row _ _ _ _ _ _ hx]; rfl
  have y3 : W1.cell? ⟨w.heap.size, 3, none⟩ = some (.int .i64 c.H) := by rw [cell_of_row _ _ _ _ _ _ hx]; rfl
  have hr := right26_calls c W1
  have HR := Lib.hid hr
  obtain ⟨b0, hb0⟩ : ∃ b0, w.heap.size = b0 := ⟨_, rfl⟩
  have hc : ∀ w2, Below W1.heap.size W1 w2 → Calls Try.prog 27 #[.slice A l.length cp, .func (.func 28) #[] #[.pointer (some ⟨w.heap.size, 0, none⟩)]] w2 fun e w' => e = .returned (.bool (l.any (fun o => !decide (opOk c o)))) ∧ Below w2.heap.size w2 w' := fun w2 h2 => by
    have hx2 := (h2.block _ (Array.getElem?_eq_some_iff.1 hx).1).trans hx
    refine containsP_calls (fun o => !decide (opOk c o)) 28 _ l A cp w2 ((hA.below hb1).below h2) (enters_of Try.func28 (by kernel_rfl) rfl) (fun k hk w3 h3 => ?_)
    have hx3 := (h3.block _ (Array.getElem?_eq_some_iff.1 hx2).1).trans hx2
    exact notRight_calls c l[k] w.heap.size w3 hx3
  have HC := Lib.hid hc
  have HB := Lib.hid hb1
  have HW := Lib.hid hW1
  clear hr hc hb1 hx hW1 hA hb0
  go_enter Try.func10, Try.ntmps10
  go_upto_region 1 with fail
  rw [HW.out]
  by_cases hok : cfOk c
  · have he : cfE c = 0 := if_pos hok
    rw [he] at HR
    have HO := Lib.hid hok
    clear hok he
    go_wp2_with fail
    (with_reducible refine (HR.out).mono ?_); rintro e w5 ⟨rfl, hb5⟩
    have hb' := HB.out.trans (hb5.mono HB.out.size)
    have HC2 := Lib.hid (And.intro hb' (HC.out w5 hb5))
    clear hb' hb5
    by_cases hgt : 2000 < l.length
    · have d1 : decide (2000 < l.length) = true := decide_eq_true hgt
      have d2 : decide ((2000 : Int) < (l.length : Int)) = true := decide_eq_true (by omega)
      have HG := Lib.hid hgt
      clear hgt
      go_wp2_with fail
      go_ret
      exact ⟨ret_int (by unfold chkF; rw [if_neg (by simp [HO.out]), if_pos HG.out]), HC2.out.1⟩
    · have d1 : decide (2000 < l.length) = false := decide_eq_false hgt
      have d2 : decide ((2000 : Int) < (l.length : Int)) = false := decide_eq_false (by omega)
      have HG := Lib.hid hgt
      clear hgt
      obtain ⟨bb, hbb⟩ : ∃ b, l.any (fun o => !decide (opOk c o)) = b := ⟨_, rfl⟩
      rw [hbb] at HC2
      have HBB := Lib.hid hbb
      clear hbb
      have hiff := @any_not c l
      rw [HBB.out] at hiff
      have HI := Lib.hid hiff
      clear hiff
      cases bb with
      | true =>
        go_wp2_with ((with_reducible refine (HC2.out.2).mono ?_); rintro e w6 ⟨rfl, hb6⟩; have HB6 := Lib.hid (HC2.out.1.trans (hb6.mono HC2.out.1.size)); clear hb6)
        go_ret
        exact ⟨ret_int (by unfold chkF; rw [if_neg (by simp [HO.out]), if_neg HG.out, if_neg (HI.out.1 (by simp))]), HB6.out⟩
      | false =>
        go_wp2_with ((with_reducible refine (HC2.out.2).mono ?_); rintro e w6 ⟨rfl, hb6⟩; have HB6 := Lib.hid (HC2.out.1.trans (hb6.mono HC2.out.1.size)); clear hb6)
        go_ret
        exact ⟨ret_int (by unfold chkF; rw [if_neg (by simp [HO.out]), if_neg HG.out, if_pos (Classical.not_not.1 (fun h => by simpa using HI.out.2 h))]), HB6.out⟩
  · have he : cfE c = 4 := if_neg hok
    rw [he] at HR
    have HO := Lib.hid hok
    clear hok he
    go_wp2_with ((with_reducible refine (HR.out).mono ?_); rintro e w5 ⟨rfl, hb5⟩; have HB5 := Lib.hid (HB.out.trans (hb5.mono HB.out.size)); clear hb5)
    go_ret
    exact ⟨ret_int (by unfold chkF; rw [if_pos HO.out]), HB5.out⟩
end Go.Proofs.Ytggidakiflnhhaa
