import Derived.Test.YthebembnlmddoaaN
import Derived.RangeFuncNested
import Derived.RangeFuncBound
import Derived.RangeFuncCalls
import Derived.RangeFuncLeaves
import Derived.Shelf.Abstract
import Derived.Shelf.RegionOpen
import Derived.WalkKit
import Derived.OwnWalkIn
import Derived.TacticsInMore
import Derived.LoopNIn
import Derived.LoopIn
import Derived.Sort.CutIn
import Derived.Outline
namespace Go.Proofs.Ythebembnlmddoaa
open Go.RowKit Go.Shelf
attribute [local go_sem] Oper.semAt_some
set_option maxHeartbeats 8000000
set_option maxRecDepth 100000
set_option linter.unusedSimpArgs false
set_option linter.unusedVariables false

abbrev encR (x : Nat × Nat) : Array Value := #[.agg #[.int .i64 (x.1 : Int), .int .i64 (x.2 : Int)]]
theorem grown_of_below {W W' : World} (h : Below W.heap.size W W') : W.grownBy W' none := ⟨h.os, h.tape, h.output, h.size, fun k hk _ => h.block k hk⟩
theorem abides_below {β : Type} {B : Nat} {J : β → World → Prop} (hJ : AbidesFrom B J) {s : β} {W W' : World} (h : J s W) (hb : Below W.heap.size W W') : J s W' :=
  hJ s W W' none h (grown_of_below hb) (fun r e => by cases e)

/-- what a round of the loop over races keeps: what lay below n0, and the boxes of events -/
def Kr (n0 : Nat) (W W' : World) : Prop := Below n0 W W' ∧ ∀ (i : Nat) (cs : Array Value) (fr : Nat × Nat), W.heap[i]? = some (Obj.cells cs 42 fr) → W'.heap[i]? = some (Obj.cells cs 42 fr)
theorem Kr.trans {n0 : Nat} {A B C : World} (h : Kr n0 A B) (k : Kr n0 B C) : Kr n0 A C := ⟨h.1.trans k.1, fun i cs fr hi => k.2 i cs fr (h.2 i cs fr hi)⟩
theorem Kr.book {n0 : Nat} {w : World} (hn : n0 ≤ w.heap.size) (W : World) (l : Nat) (o o' : Obj) (hl : w.heap.size ≤ l) (h : W.heap[l]? = some o) (ho : o.isCells = false) (hw : o.isWalk = false) : Kr n0 W (W.putObj l o') :=
  ⟨belowK_b hn W l o o' hl h ho hw, fun i cs fr hi => by
    have hne : i ≠ l := by rintro rfl; rw [h] at hi; cases hi; cases ho
    exact (World.putObj_heap_other hne).trans hi⟩
theorem races1_in (n : Nat) (hn : 3 ≤ n) (ll n0 bx cb base : Nat) (l : List Ev) (hok : ∀ e ∈ l, e.ok) (A : Option Addr) (c : Nat) (hcap : l.length ≤ c) (J Jx : List (Nat × Nat) → World → Prop) (B0 : Nat) (hJ : AbidesFrom B0 J)
    (hY : ∀ pre x W, J pre W → pre.length < (racesF l).length → YieldAt Fence.wide (n - 1) Try.prog ll (encR x) W fun e W' =>
      (e = .returned (.bool true) ∧ J (pre ++ [x]) W' ∧ Kr n0 W W') ∨ (e = .returned (.bool false) ∧ Jx (pre ++ [x]) W'))
    (W : World) (hsz : n0 ≤ W.heap.size) (hbx : W.cell? ⟨bx, 0, none⟩ = some (.pointer (some ⟨cb, 0, none⟩))) (hbx0 : bx < n0)
    (hst : ∀ W', Below n0 W W' → Rd encE 11 W' A l ∧ Ck W' base A c l cb) (h0 : J [] W) :
    CallsIn Fence.wide n Try.prog 56 #[.func (.yield ll) #[] #[], .pointer (some ⟨bx, 0, none⟩)] W fun e W' => (∃ v, e = .returned v) ∧
      ((∃ ys, ys = racesF l ∧ J ys W') ∨ (∃ pre, pre <+: racesF l ∧ Jx pre W')) := by
  have HS := Lib.hid hst
  have HY := Lib.hid hY
  have HJ := Lib.hid (And.intro hJ (And.intro hok (And.intro hbx0 hbx)))
  have H0 := Lib.hid h0
  have hsm := (hst W (Below.refl _ _)).1.small
  obtain ⟨mi, SA, cp, x0, x1, x2, _⟩ := (hst W (Below.refl _ _)).2.cells
  clear hst hY hJ hok h0
  refine callsIn_of_wp Try.func56 rfl trivial ?_ rfl
  simp only [Try.ntmps56, List.size_toArray, List.length_cons, List.length_nil, Nat.reduceAdd, Nat.reduceSub, Array.replicate_succ, Array.replicate_zero, List.push_toArray, List.append_toArray, List.nil_append, List.cons_append]
  gi_wp2
  gi_loopw [3, 4, 5, 6, 12, 13, 14, 15, 16, 17, 18, 19, 20, 21, 22, 23, 24, 25, 26, 27, 28, 29, 30, 31, 32, 33, 34, 35, 36, 37, 38, 39, 40, 41, 42, 43, 44, 45, 46, 47, 48, 49, 50, 51, 52, 53, 54, 55, 56, 57, 58, 59, 60] (fun v3 v4 v5 v6 v12 v13 v14 v15 v16 v17 v18 v19 v20 v21 v22 v23 v24 v25 v26 v27 v28 v29 v30 v31 v32 v33 v34 v35 v36 v37 v38 v39 v40 v41 v42 v43 v44 v45 v46 v47 v48 v49 v50 v51 v52 v53 v54 v55 v56 v57 v58 v59 v60 wr => ∃ j : Nat, v12 = .int .i64 (j : Int) ∧ j ≤ l.length ∧ J (rU l j) wr ∧ Below n0 W wr) (fun v3 v4 v5 v6 v12 v13 v14 v15 v16 v17 v18 v19 v20 v21 v22 v23 v24 v25 v26 v27 v28 v29 v30 v31 v32 v33 v34 v35 v36 v37 v38 v39 v40 v41 v42 v43 v44 v45 v46 v47 v48 v49 v50 v51 v52 v53 v54 v55 v56 v57 v58 v59 v60 _ => l.length - (intOf v12).toNat)
  case atStart => exact ⟨0, rfl, by omega, H0.out, Below.refl _ _⟩
  case round =>
    obtain ⟨j, rfl, hj, hJs, hbl⟩ := hrel
    by_cases hjl : j < l.length
    · have ht : decide (j < l.length) = true := decide_eq_true hjl
      obtain ⟨hRA, hCk⟩ := HS.out wr hbl
      cases A with
      | none =>
        exfalso
        obtain ⟨a, ha, _⟩ := hRA.cell j hjl
        cases ha
      | some a =>
      obtain ⟨q0, q1, q2, q3, q4, q5, q6, q7, q8, q9, q10⟩ := ev_eleven (ev_cells hRA j hjl)
      obtain ⟨mi', SA', cp', z0, z1, z2, _⟩ := hCk.cells
      have hbw := (hbl.cell (p := ⟨bx, 0, none⟩) HJ.out.2.2.1).trans HJ.out.2.2.2
      have hle : (j : Int) ≤ (l.length : Int) := by omega
      have hle2 : (j : Int) ≤ (c : Int) := by omega
      obtain ⟨b, hb⟩ : ∃ b, l[j] = b := ⟨_, rfl⟩
      rw [hb] at q0 q1 q2 q3 q4 q5 q6 q7 q8 q9 q10
      obtain ⟨W2, hW2⟩ : ∃ W2, wr.alloc (.cells b.cells 42) = W2 := ⟨_, rfl⟩
      have hb2 : Below wr.heap.size wr W2 := by rw [← hW2]; exact (Below.refl _ _).alloc (Nat.le_refl _) _
      have hbox2 : W2.heap[wr.heap.size]? = some (.cells b.cells 42 (0, 0)) := by rw [← hW2]; exact Go.heap_alloc_new wr _
      have z02 := (hb2.cell (World.block_lt_of_cell? _ _ z0)).trans z0
      have hbw2 := (hb2.cell (World.block_lt_of_cell? _ _ hbw)).trans hbw
      have hJ2 := abides_below HJ.out.1 hJs hb2
      have hbl2 := hbl.trans (hb2.mono (Nat.le_trans hsz hbl.size))
      have HX := Lib.hid (And.intro hJ2 (And.intro hbl2 (And.intro hbox2 hb)))
      have HW2 := Lib.hid hW2
      clear hJs hRA hCk z1 z2 hb hb2 hJ2 hbl2 hbox2 hW2
      gi_upto_region 3 with fail
      try rw [HW2.out]
      gi_wp2
      obtain ⟨wo, hwo⟩ : ∃ wo : World, wo = wr := ⟨_, rfl⟩
      subst hwo
      clear q0 q1 q2 q3 q4 q5 q6 q7 q8 q9 q10 z0 z02 hbw hbw2
      gi_loopw [5, 6, 24, 25, 26, 27, 28, 29, 30, 31, 32, 33, 34, 35, 36, 37, 38, 39, 40, 41, 42, 43, 44, 45, 46, 47, 48, 49, 50, 51, 52, 53, 54, 55, 56, 57, 58, 59] (fun v5 v6 v24 v25 v26 v27 v28 v29 v30 v31 v32 v33 v34 v35 v36 v37 v38 v39 v40 v41 v42 v43 v44 v45 v46 v47 v48 v49 v50 v51 v52 v53 v54 v55 v56 v57 v58 v59 wr => ∃ i : Nat, v24 = .int .i64 (i : Int) ∧ i ≤ j ∧ J (rU l j ++ wU l j i) wr ∧ Below n0 W wr ∧ wr.heap[wo.heap.size]? = some (.cells b.cells 42 (0, 0))) (fun v5 v6 v24 v25 v26 v27 v28 v29 v30 v31 v32 v33 v34 v35 v36 v37 v38 v39 v40 v41 v42 v43 v44 v45 v46 v47 v48 v49 v50 v51 v52 v53 v54 v55 v56 v57 v58 v59 _ => j - (intOf v24).toNat)
      case atStart => exact ⟨0, rfl, by omega, by rw [wU_zero, List.append_nil]; exact HX.out.1, HX.out.2.1, HX.out.2.2.1⟩
      case round =>
        obtain ⟨i, rfl, hij, hJs, hbl3, hboxb⟩ := hrel
        by_cases hil : i < j
        · have ht2 : decide (i < j) = true := decide_eq_true hil
          obtain ⟨hRA, hCk⟩ := HS.out wr hbl3
          obtain ⟨q0, q1, q2, q3, q4, q5, q6, q7, q8, q9, q10⟩ := ev_eleven (ev_cells hRA i (by omega))
          obtain ⟨e, he⟩ : ∃ e, l[i]'(by omega) = e := ⟨_, rfl⟩
          rw [he] at q0 q1 q2 q3 q4 q5 q6 q7 q8 q9 q10
          obtain ⟨W4, hW4⟩ : ∃ W4, wr.alloc (.cells e.cells 42) = W4 := ⟨_, rfl⟩
          have hb4 : Below wr.heap.size wr W4 := by rw [← hW4]; exact (Below.refl _ _).alloc (Nat.le_refl _) _
          have hbox4 : W4.heap[wr.heap.size]? = some (.cells e.cells 42 (0, 0)) := by rw [← hW4]; exact Go.heap_alloc_new wr _
          have hbl5 := (Array.getElem?_eq_some_iff.1 hboxb).1
          have hboxb4 := (hb4.block _ hbl5).trans hboxb
          have hnw4 : n0 ≤ wr.heap.size := Nat.le_trans hsz hbl3.size
          have hJ4 := abides_below HJ.out.1 hJs hb4
          have hbl4 := hbl3.trans (hb4.mono hnw4)
          have ac := fun j => cell_of_row W4 wr.heap.size j _ _ _ hbox4
          have bc := fun j => cell_of_row W4 wo.heap.size j _ _ _ hboxb4
          have a0 := ac 0
          have a1 := ac 1
          have a2 := ac 2
          have a3 := ac 3
          have a4 := ac 4
          have a5 := ac 5
          have a6 := ac 6
          have a7 := ac 7
          have b0 := bc 0
          have b1 := bc 1
          have b2 := bc 2
          have b3 := bc 3
          have b4 := bc 4
          have b5 := bc 5
          have b6 := bc 6
          have b7 := bc 7
          simp at a0 a1 a2 a3 a4 a5 a6 a7 b0 b1 b2 b3 b4 b5 b6 b7
          have hrB : raB l i j = (decide (e.k = 1) && decide (b.k = 1) && cfB e b && !bfB l i j) := by
            unfold raB
            rw [evA_eq l i (by omega), evA_eq l j (by omega), he, HX.out.2.2.2]
          have hws := wU_succ l j i
          rw [hrB] at hws
          have HZ := Lib.hid (And.intro hJ4 (And.intro hbl4 (And.intro hboxb4 (And.intro hws hnw4))))
          have HW4 := Lib.hid hW4
          clear hJs hRA hCk he hb4 hbox4 hboxb hboxb4 hJ4 hbl4 ac bc hrB hws hW4 hbl5 hnw4 hbl3
          gi_upto_region 6 with fail
          try rw [HW4.out]
          clear q0 q1 q2 q3 q4 q5 q6 q7 q8 q9 q10
          by_cases h1 : e.k = 1
          · have k1 : (e.k == 1) = true := by rw [h1]; rfl
            by_cases h2 : b.k = 1
            · have k2 : (b.k == 1) = true := by rw [h2]; rfl
              have hcf := conflict_calls e b W4
              have HCF := Lib.hid hcf
              have HK := Lib.hid (And.intro h1 h2)
              clear h1 h2 hcf
              gi_wp2
              refine ⟨trivial, by simp [Fence.wide], ?_⟩
              refine (callsIn_wide.2 HCF.out).mono ?_
              rintro x w5 ⟨rfl, hb5⟩
              have hbl5 := HZ.out.2.1.trans (hb5.mono (Nat.le_trans HZ.out.2.2.2.2 (by rw [← HW4.out]; simp)))
              have hJ5 := abides_below HJ.out.1 HZ.out.1 hb5
              have hbx5 := (hb5.block _ (Array.getElem?_eq_some_iff.1 HZ.out.2.2.1).1).trans HZ.out.2.2.1
              have HH5 := Lib.hid (And.intro hJ5 (And.intro hbl5 hbx5))
              clear a0 a1 a2 a3 a4 a5 a6 a7 b0 b1 b2 b3 b4 b5 b6 b7
              cases hc : cfB e b with
              | false =>
                have hw : wU l j (i + 1) = wU l j i := by rw [HZ.out.2.2.2.1, hc]; simp
                have HW := Lib.hid hw
                clear hw hb5 hbl5 hJ5 hbx5
                gi_wp2
                refine ⟨trivial, ?_⟩
                gi_wp2
                refine ⟨fun _ h => (by cases h), ?_⟩
                gi_wp2
                go_roundw
                case rel => exact ⟨i + 1, by go_num, by omega, by rw [HW.out]; exact HH5.out.1, HH5.out.2.1, HH5.out.2.2⟩
                case measure => simp [intOf]; omega
              | true =>
                have hbw5 := (hbl5.cell (p := ⟨bx, 0, none⟩) HJ.out.2.2.1).trans HJ.out.2.2.2
                obtain ⟨hRA5, hCk5⟩ := HS.out w5 hbl5
                have hbf := before_calls l HJ.out.2.1 i j (by omega) (by omega) (some a) c cb base w5 hRA5 hCk5
                have HBF := Lib.hid hbf
                have HC := Lib.hid hc
                clear hb5 hbl5 hJ5 hbx5 hRA5 hCk5 hbf hc
                gi_wp2
                refine ⟨trivial, by simp [Fence.wide], ?_⟩
                refine (callsIn_wide.2 HBF.out).mono ?_
                rintro x w6 ⟨rfl, nq, rfl⟩
                have hb6 : Below w5.heap.size w5 (w5.drewN nq) := drewN_below (Below.refl _ _) nq
                have hnw5 : n0 ≤ w5.heap.size := Nat.le_trans hsz HH5.out.2.1.size
                have HH6 := Lib.hid (And.intro (abides_below HJ.out.1 HH5.out.1 hb6) (And.intro (HH5.out.2.1.trans (hb6.mono hnw5)) ((hb6.block _ (Array.getElem?_eq_some_iff.1 HH5.out.2.2).1).trans HH5.out.2.2)))
                clear hb6 hnw5 hbw5
                cases hbb : bfB l i j with
                | true =>
                  have hw : wU l j (i + 1) = wU l j i := by rw [HZ.out.2.2.2.1, hbb]; simp
                  have HW := Lib.hid hw
                  clear hw
                  gi_wp2
                  refine ⟨fun _ h => (by cases h), ?_⟩
                  gi_wp2
                  go_roundw
                  case rel => exact ⟨i + 1, by go_num, by omega, by rw [HW.out]; exact HH6.out.1, HH6.out.2.1, HH6.out.2.2⟩
                  case measure => simp [intOf]; omega
                | false =>
                  have hw : wU l j (i + 1) = wU l j i ++ [(i, j)] := by rw [HZ.out.2.2.2.1, hbb, HC.out, decide_eq_true HK.out.1, decide_eq_true HK.out.2]; simp
                  have hpp := part_pre l j (i + 1) (by omega) (by omega)
                  rw [hw, ← List.append_assoc] at hpp
                  have hlen : (rU l j ++ wU l j i).length < (racesF l).length := by
                    have := hpp.length_le
                    simp only [List.length_append, List.length_cons, List.length_nil] at this ⊢
                    omega
                  obtain ⟨fn, tmps, assign, body, hy, hR⟩ := HY.out _ (i, j) _ HH6.out.1 hlen
                  try dsimp only at hy
                  have HW := Lib.hid (And.intro hw hpp)
                  clear hw hpp hlen
                  gi_wp2
                  refine ⟨by simp [Fence.wide], ?_⟩
                  refine hR.mono ?_
                  rintro x W7 (⟨rfl, hJ7, hk7⟩ | ⟨rfl, hJx7⟩)
                  · have HH7 := Lib.hid (And.intro hJ7 (And.intro (HH6.out.2.1.trans hk7.1) (hk7.2 _ _ _ HH6.out.2.2)))
                    clear hJ7 hk7
                    gi_wp2
                    go_roundw
                    case rel => exact ⟨i + 1, by go_num, by omega, by rw [HW.out.1, ← List.append_assoc]; exact HH7.out.1, HH7.out.2.1, HH7.out.2.2⟩
                    case measure => simp [intOf]; omega
                  · have HH7 := Lib.hid hJx7
                    clear hJx7
                    gi_wp2
                    refine bodyPost_ret (results_none rfl _ _ _) rfl ?_
                    exact ⟨⟨_, rfl⟩, .inr ⟨_, HW.out.2, HH7.out⟩⟩
            · have k2 : (b.k == 1) = false := by simpa using h2
              have hw : wU l j (i + 1) = wU l j i := by rw [HZ.out.2.2.2.1, decide_eq_false h2]; simp
              have HW := Lib.hid hw
              clear h1 h2 hw
              gi_wp2
              refine ⟨trivial, ?_⟩
              gi_wp2
              refine ⟨trivial, ?_⟩
              gi_wp2
              refine ⟨fun _ h => (by cases h), ?_⟩
              gi_wp2
              go_roundw
              case rel => exact ⟨i + 1, by go_num, by omega, by rw [HW.out]; exact HZ.out.1, HZ.out.2.1, HZ.out.2.2.1⟩
              case measure => simp [intOf]; omega
          · have k1 : (e.k == 1) = false := by simpa using h1
            have hw : wU l j (i + 1) = wU l j i := by rw [HZ.out.2.2.2.1, decide_eq_false h1]; simp
            have HW := Lib.hid hw
            clear h1 hw
            gi_wp2
            refine ⟨trivial, ?_⟩
            gi_wp2
            refine ⟨trivial, ?_⟩
            gi_wp2
            refine ⟨fun _ h => (by cases h), ?_⟩
            gi_wp2
            go_roundw
            case rel => exact ⟨i + 1, by go_num, by omega, by rw [HW.out]; exact HZ.out.1, HZ.out.2.1, HZ.out.2.2.1⟩
            case measure => simp [intOf]; omega
        · have ht2 : decide (i < j) = false := decide_eq_false hil
          obtain rfl : i = j := by omega
          have HE := Lib.hid (And.intro hJs hbl3)
          clear hJs hbl3 hboxb
          gi_wp2
          go_roundw
          case rel => exact ⟨i + 1, by go_num, by omega, by rw [rU_succ]; exact HE.out.1, HE.out.2⟩
          case measure => simp [intOf]; omega
    · have ht : decide (j < l.length) = false := decide_eq_false hjl
      obtain rfl : j = l.length := by omega
      have HE := Lib.hid hJs
      clear hJs hbl
      gi_wp2
      go_end0
      exact ⟨⟨_, rfl⟩, .inl ⟨_, rfl, HE.out⟩⟩
end Go.Proofs.Ythebembnlmddoaa
