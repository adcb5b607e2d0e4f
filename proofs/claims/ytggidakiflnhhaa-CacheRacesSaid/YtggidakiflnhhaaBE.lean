import Derived.Test.YtggidakiflnhhaaBC
import Derived.RangeFuncNested
import Derived.RangeFuncBound
import Derived.RangeFuncCalls
import Derived.RangeFuncLeaves
import Derived.Shelf.Abstract
import Derived.Shelf.RegionOpen
import Derived.WalkKit
import Derived.OwnWalkIn
import Derived.TacticsInMore
import Derived.LoopNIn
import Derived.LoopIn
import Derived.Sort.CutIn
import Derived.Outline
namespace Go.Proofs.Ytggidakiflnhhaa
open Go.RowKit Go.Shelf
attribute [local go_sem] Oper.semAt_some
set_option maxHeartbeats 8000000
set_option maxRecDepth 100000
set_option linter.unusedSimpArgs false
set_option linter.unusedVariables false

abbrev encR (x : Nat) : Array Value := #[.int .i64 (x : Int)]
theorem grown_of_below {W W' : World} (h : Below W.heap.size W W') : W.grownBy W' none := ⟨h.os, h.tape, h.output, h.size, fun k hk _ => h.block k hk⟩
theorem abides_below {β : Type} {B : Nat} {J : β → World → Prop} (hJ : AbidesFrom B J) {s : β} {W W' : World} (h : J s W) (hb : Below W.heap.size W W') : J s W' :=
  hJ s W W' none h (grown_of_below hb) (fun r e => by cases e)
def rcU (s : Fo) (o : Op) (j : Nat) : List Nat := (List.range j).filter (rcB s o)
theorem rcU_succ (s : Fo) (o : Op) (j : Nat) : rcU s o (j + 1) = rcU s o j ++ if rcB s o j = true then [j] else [] := by
  unfold rcU
  rw [List.range_succ, List.filter_append]
  congr 1
  simp only [List.filter_cons, List.filter_nil]
theorem rcU_all {s : Fo} {o : Op} (h : accB o = true) : rcL s o = rcU s o s.tr.length := by unfold rcL; rw [if_pos h]; rfl
theorem rcU_pre (s : Fo) (o : Op) : ∀ d j, rcU s o j <+: rcU s o (j + d)
  | 0, j => List.prefix_refl _
  | d + 1, j => by rw [← Nat.add_assoc, rcU_succ]; exact (rcU_pre s o d j).trans (List.prefix_append _ _)
theorem and4 {a b : Int} {p : Prop} (h : ¬ (a = 1 ∧ b = 1)) (h1 : (a == 1) = false → p) (h2 : (a == 1) = true → (b == 1) = false → p) : p := by
  by_cases ha : a = 1
  · exact h2 (by rw [ha]; rfl) (by simpa using fun e => h ⟨ha, e⟩)
  · exact h1 (by simpa using ha)
/-- what the loop over races reads -/
structure RaIn (bo bp bf base : Nat) (va vb : Value) (s : Fo) (o : Op) (w : World) : Prop where
  op : w.heap[bo]? = some (.cells o.cells 38 (0, 0))
  fp : w.heap[bp]? = some (.cells #[.pointer (some ⟨bf, 0, none⟩)] 88 (0, 0))
  fo : Fw (fun _ => False) bf base va vb va vb s.tr s.re s.ac w
theorem races1_in (n : Nat) (hn : 3 ≤ n) (ll : Nat) (P : Nat → Prop) (bo bp bf base : Nat) (va vb : Value) (s : Fo) (o : Op) (ho : 0 ≤ o.a ∧ o.a < 8) (hl : s.re.length = s.tr.length) (J Jx : List Nat → World → Prop) (B0 : Nat) (hJ : AbidesFrom B0 J)
    (hY : ∀ pre x W, J pre W → pre ++ [x] <+: rcL s o → YieldAt Fence.wide (n - 1) Try.prog ll (encR x) W fun e W' =>
      (e = .returned (.bool true) ∧ J (pre ++ [x]) W' ∧ Ke P W W') ∨ (e = .returned (.bool false) ∧ Jx (pre ++ [x]) W'))
    (W : World) (hst : ∀ W', Ke P W W' → RaIn bo bp bf base va vb s o W') (h0 : J [] W) :
    CallsIn Fence.wide n Try.prog 55 #[.func (.yield ll) #[] #[], .pointer (some ⟨bo, 0, none⟩), .pointer (some ⟨bp, 0, none⟩)] W fun e W' => (∃ v, e = .returned v) ∧
      ((∃ ys, ys = rcL s o ∧ J ys W') ∨ (∃ pre, pre <+: rcL s o ∧ Jx pre W')) := by
  have HS := Lib.hid hst
  have HY := Lib.hid hY
  have HJ := Lib.hid (And.intro hJ hl)
  have H0 := Lib.hid h0
  obtain ⟨A, cA, rfl, _, hrA, _⟩ := (hst W (Ke.refl _)).fo.tr.form lenP
  obtain ⟨B, cB, rfl, hlB, _, _⟩ := (hst W (Ke.refl _)).fo.re.form lenI
  have hsm := hrA.small
  have HLB := Lib.hid hlB
  have hop := (hst W (Ke.refl _)).op
  have hfp := (hst W (Ke.refl _)).fp
  have hft := ((hst W (Ke.refl _)).fo.at 0 _ rfl).1
  obtain ⟨oa, ok, op, ov⟩ := o
  simp only at ho
  obtain ⟨ka, rfl⟩ : ∃ ka : Nat, oa = (ka : Int) := ⟨oa.toNat, by omega⟩
  have hka : ka < 8 := by omega
  have hkaI : (ka : Int) < 8 := by omega
  have o0 : W.cell? ⟨bo, 0, none⟩ = some (.int .i64 (ka : Int)) := by rw [cell_of_row _ _ _ _ _ _ hop]; rfl
  have o1 : W.cell? ⟨bo, 1, none⟩ = some (.int .i64 ok) := by rw [cell_of_row _ _ _ _ _ _ hop]; rfl
  have o2 : W.cell? ⟨bo, 2, none⟩ = some (.int .i64 op) := by rw [cell_of_row _ _ _ _ _ _ hop]; rfl
  have o3 : W.cell? ⟨bo, 3, none⟩ = some (.int .i64 ov) := by rw [cell_of_row _ _ _ _ _ _ hop]; rfl
  have HAC := Lib.hid (fun a k p v w => access_calls a k p v w)
  clear hst hY hJ h0 hrA hop hfp hft hlB
  refine callsIn_of_wp Try.func55 rfl trivial ?_ rfl
  simp only [Try.ntmps55, List.size_toArray, List.length_cons, List.length_nil, Nat.reduceAdd, Nat.reduceSub, Array.replicate_succ, Array.replicate_zero, List.push_toArray, List.append_toArray, List.nil_append, List.cons_append]
  gi_wp2
  refine ⟨trivial, by simp [Fence.wide], ?_⟩
  refine (callsIn_wide.2 (HAC.out _ _ _ _ W)).mono ?_
  rintro e w1 ⟨rfl, hb1⟩
  have hJ1 := abides_below HJ.out.1 H0.out hb1
  have H1 := Lib.hid (And.intro hJ1 (Ke.of (P := P) hb1))
  clear o0 o1 o2 o3 hb1 hJ1
  by_cases hac : ok = 1 ∨ ok = 2
  case neg =>
    have hd : decide (ok = 1 ∨ ok = 2) = false := decide_eq_false hac
    have hr : rcL s ⟨(ka : Int), ok, op, ov⟩ = [] := by unfold rcL accB; rw [if_neg (by simp only; rw [hd]; simp)]
    have HR := Lib.hid hr
    clear hac hr
    rw [hd]
    gi_wp2
    refine bodyPost_ret (results_none rfl _ _ _) rfl ?_
    exact ⟨⟨_, rfl⟩, .inl ⟨_, HR.out.symm, H1.out.1⟩⟩
  case pos =>
    have hd : decide (ok = 1 ∨ ok = 2) = true := decide_eq_true hac
    have hrl : rcL s ⟨(ka : Int), ok, op, ov⟩ = rcU s ⟨(ka : Int), ok, op, ov⟩ s.tr.length := rcU_all hd
    have HR := Lib.hid hrl
    rw [hd]
    obtain ⟨q1, q2, q3⟩ := HS.out w1 H1.out.2
    have y0 : w1.cell? ⟨bp, 0, none⟩ = some (.pointer (some ⟨bf, 0, none⟩)) := by rw [cell_of_row _ _ _ _ _ _ q2]; rfl
    obtain ⟨y1, -⟩ := q3.at 0 _ rfl
    clear q1 q2 q3 hrl hd
    gi_wp2
    clear y0 y1
    gi_loopw [4, 5, 6, 15, 16, 17, 18, 19, 20, 21, 22, 23, 24, 25, 26, 27, 28, 29, 30, 31, 32, 33, 34, 35, 36, 37, 38, 39, 40, 41, 42, 43, 44, 45, 46, 47, 48, 49, 50, 51, 52, 53, 54, 55, 56, 57, 58, 59, 60, 61, 62, 63, 64, 65, 66, 67, 68, 69, 70, 71] (fun v4 v5 v6 v15 v16 v17 v18 v19 v20 v21 v22 v23 v24 v25 v26 v27 v28 v29 v30 v31 v32 v33 v34 v35 v36 v37 v38 v39 v40 v41 v42 v43 v44 v45 v46 v47 v48 v49 v50 v51 v52 v53 v54 v55 v56 v57 v58 v59 v60 v61 v62 v63 v64 v65 v66 v67 v68 v69 v70 v71 wr => ∃ j : Nat, v15 = .int .i64 (j : Int) ∧ j ≤ s.tr.length ∧ J (rcU s ⟨(ka : Int), ok, op, ov⟩ j) wr ∧ Ke P W wr) (fun v4 v5 v6 v15 v16 v17 v18 v19 v20 v21 v22 v23 v24 v25 v26 v27 v28 v29 v30 v31 v32 v33 v34 v35 v36 v37 v38 v39 v40 v41 v42 v43 v44 v45 v46 v47 v48 v49 v50 v51 v52 v53 v54 v55 v56 v57 v58 v59 v60 v61 v62 v63 v64 v65 v66 v67 v68 v69 v70 v71 _ => s.tr.length - (intOf v15).toNat)
    case atStart => exact ⟨0, rfl, by omega, H1.out.1, H1.out.2⟩
    case round =>
      obtain ⟨j, rfl, hj, hJs, hk⟩ := hrel
      by_cases hjl : j < s.tr.length
      · have ht : decide (j < s.tr.length) = true := decide_eq_true hjl
        have hjI : (j : Int) < (s.tr.length : Int) := by omega
        have hrI : (j : Int) < (s.re.length : Int) := by have := HJ.out.2; omega
        have hrN : j < s.re.length := by have := HJ.out.2; omega
        obtain ⟨h1, h2, h3⟩ := HS.out wr hk
        obtain ⟨-, -, hrA, -⟩ := own_slice lenP h3.tr
        obtain ⟨-, -, hrB, hbB⟩ := own_slice lenI h3.re
        obtain ⟨a, rfl, hca⟩ := hrA.cell j hjl
        obtain ⟨b, rfl, hcb⟩ := hrB.int j hrN
        obtain ⟨x, hx⟩ : ∃ x, s.tr[j] = x := ⟨_, rfl⟩
        obtain ⟨r, hr⟩ : ∃ r, s.re[j] = r := ⟨_, rfl⟩
        rw [hx] at hca
        rw [hr] at hcb
        have hxd : s.tr.getD j opZ = x := by rw [getD_at _ _ hjl, hx]
        have hrd : s.re.getD j (-1) = r := by rw [getD_at _ _ hrN, hr]
        have hB : rcB s ⟨(ka : Int), ok, op, ov⟩ j = decide (accB x = true ∧ x.p = op ∧ x.a ≠ (ka : Int) ∧ ¬ (x.k = 1 ∧ ok = 1) ∧ ¬ (0 ≤ r ∧ r < s.ac ka)) := by
          unfold rcB; rw [hxd, hrd]; rfl
        have hsu := rcU_succ s ⟨(ka : Int), ok, op, ov⟩ j
        rw [hB] at hsu
        obtain ⟨xa, xk, xp, xv⟩ := x
        unfold accB at hsu
        simp only at hsu
        have y0 := hca 0 _ rfl
        have y1 := hca 1 _ rfl
        have y2 := hca 2 _ rfl
        have y3 := hca 3 _ rfl
        rw [Nat.add_zero] at y0
        rw [add_field _ _ _ (by decide)] at y1 y2 y3
        obtain ⟨W8, hW8⟩ : ∃ W8, wr.alloc (.cells #[.int .i64 xa, .int .i64 xk, .int .i64 xp, .int .i64 xv] 38) = W8 := ⟨_, rfl⟩
        obtain ⟨b8, hb8e⟩ : ∃ b, wr.heap.size = b := ⟨_, rfl⟩
        have hb8 : Below wr.heap.size wr W8 := by rw [← hW8]; exact (Below.refl _ _).alloc (Nat.le_refl _) _
        have hx8 : W8.heap[b8]? = some (.cells #[.int .i64 xa, .int .i64 xk, .int .i64 xp, .int .i64 xv] 38 (0, 0)) := by rw [← hW8, ← hb8e]; exact Go.heap_alloc_new _ _
        have hJ8 := abides_below HJ.out.1 hJs hb8
        have HX := Lib.hid (And.intro hx8 (And.intro hJ8 (And.intro (hk.trans (Ke.of hb8)) (And.intro hsu hr))))
        have HW8 := Lib.hid (And.intro hW8 hb8e)
        have z0 : W8.cell? ⟨b8, 0, none⟩ = some (.int .i64 xa) := by rw [cell_of_row _ _ _ _ _ _ hx8]; rfl
        have z1 : W8.cell? ⟨b8, 1, none⟩ = some (.int .i64 xk) := by rw [cell_of_row _ _ _ _ _ _ hx8]; rfl
        have z2 : W8.cell? ⟨b8, 2, none⟩ = some (.int .i64 xp) := by rw [cell_of_row _ _ _ _ _ _ hx8]; rfl
        have z3 : W8.cell? ⟨b8, 3, none⟩ = some (.int .i64 xv) := by rw [cell_of_row _ _ _ _ _ _ hx8]; rfl
        clear h1 h2 h3 hrA hrB hbB hca hcb hx hr hxd hrd hB hsu hW8 hb8e hb8 hx8 hJ8 hJs hk
        gi_upto_region 4 with fail
        rw [HW8.out.1]
        try rw [HW8.out.2]
        clear y0 y1 y2 y3
        gi_wp2
        refine ⟨trivial, by simp [Fence.wide], ?_⟩
        refine (callsIn_wide.2 (HAC.out _ _ _ _ W8)).mono ?_
        rintro e w9 ⟨rfl, hb9⟩
        have hJ9 := abides_below HJ.out.1 HX.out.2.1 hb9
        have hx9 := (hb9.block _ (blk_lt HX.out.1)).trans HX.out.1
        have hk9 := HX.out.2.2.1.trans (Ke.of hb9)
        obtain ⟨h1, h2, h3⟩ := HS.out w9 hk9
        have o0 : w9.cell? ⟨bo, 0, none⟩ = some (.int .i64 (ka : Int)) := by rw [cell_of_row _ _ _ _ _ _ h1]; rfl
        have o1 : w9.cell? ⟨bo, 1, none⟩ = some (.int .i64 ok) := by rw [cell_of_row _ _ _ _ _ _ h1]; rfl
        have o2 : w9.cell? ⟨bo, 2, none⟩ = some (.int .i64 op) := by rw [cell_of_row _ _ _ _ _ _ h1]; rfl
        have z0 : w9.cell? ⟨b8, 0, none⟩ = some (.int .i64 xa) := by rw [cell_of_row _ _ _ _ _ _ hx9]; rfl
        have z1 : w9.cell? ⟨b8, 1, none⟩ = some (.int .i64 xk) := by rw [cell_of_row _ _ _ _ _ _ hx9]; rfl
        have z2 : w9.cell? ⟨b8, 2, none⟩ = some (.int .i64 xp) := by rw [cell_of_row _ _ _ _ _ _ hx9]; rfl
        have p0 : w9.cell? ⟨bp, 0, none⟩ = some (.pointer (some ⟨bf, 0, none⟩)) := by rw [cell_of_row _ _ _ _ _ _ h2]; rfl
        obtain ⟨f1, -⟩ := h3.at 1 _ rfl
        obtain ⟨f2, -⟩ := h3.at (2 + ka) (.int .i64 (s.ac ka)) (foC_at _ _ _ hka)
        have hcb : w9.cell? (b.add j) = some (.int .i64 r) := by
          obtain ⟨_, _, hrB, _⟩ := own_slice lenI h3.re
          obtain ⟨b', hb', hcb'⟩ := hrB.int j hrN
          obtain rfl := Option.some.inj hb'
          rw [hcb', HX.out.2.2.2.2]
        have HQ := Lib.hid (And.intro hJ9 hk9)
        clear hJ9 hx9 hk9 h1 h2 h3 hb9
        by_cases c1 : xk = 1 ∨ xk = 2
        case neg =>
          have d1 : decide (xk = 1 ∨ xk = 2) = false := decide_eq_false c1
          rw [d1]
          have hw : rcU s ⟨(ka : Int), ok, op, ov⟩ (j + 1) = rcU s ⟨(ka : Int), ok, op, ov⟩ j := by rw [HX.out.2.2.2.1, decide_eq_false (fun q => by have := q.1; rw [d1] at this; cases this)]; simp
          have HW := Lib.hid hw
          clear hw
          clear c1
          gi_wp2
          go_roundw
          case rel => exact ⟨j + 1, by go_num, by omega, by rw [HW.out]; exact HQ.out.1, HQ.out.2⟩
          case measure => simp [intOf]; omega
        case pos =>
          have d1 : decide (xk = 1 ∨ xk = 2) = true := decide_eq_true c1
          rw [d1]
          by_cases c2 : xp = op
          case neg =>
            have d2 : (xp != op) = true := by simpa using c2
            have hw : rcU s ⟨(ka : Int), ok, op, ov⟩ (j + 1) = rcU s ⟨(ka : Int), ok, op, ov⟩ j := by rw [HX.out.2.2.2.1, decide_eq_false (fun q => c2 q.2.1)]; simp
            have HW := Lib.hid hw
            clear hw
            clear c1 c2
            gi_wp2
            go_roundw
            case rel => exact ⟨j + 1, by go_num, by omega, by rw [HW.out]; exact HQ.out.1, HQ.out.2⟩
            case measure => simp [intOf]; omega
          case pos =>
            have d2 : (xp != op) = false := by simpa using c2
            by_cases c3 : xa = (ka : Int)
            case pos =>
              have d3 : (xa == (ka : Int)) = true := by simpa using c3
              have hw : rcU s ⟨(ka : Int), ok, op, ov⟩ (j + 1) = rcU s ⟨(ka : Int), ok, op, ov⟩ j := by rw [HX.out.2.2.2.1, decide_eq_false (fun q => q.2.2.1 c3)]; simp
              have HW := Lib.hid hw
              clear hw
              clear c1 c2 c3
              gi_wp2
              go_roundw
              case rel => exact ⟨j + 1, by go_num, by omega, by rw [HW.out]; exact HQ.out.1, HQ.out.2⟩
              case measure => simp [intOf]; omega
            case neg =>
              have d3 : (xa == (ka : Int)) = false := by simpa using c3
              by_cases c4 : xk = 1 ∧ ok = 1
              case pos =>
                have d4 : (xk == 1) = true := by rw [c4.1]; rfl
                have d5 : (ok == 1) = true := by rw [c4.2]; rfl
                have hw : rcU s ⟨(ka : Int), ok, op, ov⟩ (j + 1) = rcU s ⟨(ka : Int), ok, op, ov⟩ j := by rw [HX.out.2.2.2.1, decide_eq_false (fun q => q.2.2.2.1 c4)]; simp
                have HW := Lib.hid hw
                clear hw
                clear c1 c2 c3 c4
                gi_wp2
                go_roundw
                case rel => exact ⟨j + 1, by go_num, by omega, by rw [HW.out]; exact HQ.out.1, HQ.out.2⟩
                case measure => simp [intOf]; omega
              case neg =>
                by_cases c5 : 0 ≤ r ∧ r < s.ac ka
                case pos =>
                  have d6 : decide (0 ≤ r) = true := decide_eq_true c5.1
                  have d7 : decide (r < s.ac ka) = true := decide_eq_true c5.2
                  have hw : rcU s ⟨(ka : Int), ok, op, ov⟩ (j + 1) = rcU s ⟨(ka : Int), ok, op, ov⟩ j := by rw [HX.out.2.2.2.1, decide_eq_false (fun q => q.2.2.2.2 c5)]; simp
                  have HW := Lib.hid hw
                  clear hw c1 c2 c3 c5
                  refine and4 c4 ?_ ?_
                  · intro d4
                    gi_upto_region 6 with fail
                    refine wpIn_wide.2 ?_
                    go_quiet (fail)
                    gi_wp2
                    go_roundw
                    case rel => exact ⟨j + 1, by go_num, by omega, by rw [HW.out]; exact abides_below HJ.out.1 HQ.out.1 (drewN_below (Below.refl _ _) _), HQ.out.2.trans (Ke.of (drewN_below (Below.refl _ _) _))⟩
                    case measure => simp [intOf]; omega
                  · intro d4 d5
                    gi_upto_region 6 with fail
                    refine wpIn_wide.2 ?_
                    go_quiet (fail)
                    gi_wp2
                    go_roundw
                    case rel => exact ⟨j + 1, by go_num, by omega, by rw [HW.out]; exact abides_below HJ.out.1 HQ.out.1 (drewN_below (Below.refl _ _) _), HQ.out.2.trans (Ke.of (drewN_below (Below.refl _ _) _))⟩
                    case measure => simp [intOf]; omega
                case neg =>
                  have hw : rcU s ⟨(ka : Int), ok, op, ov⟩ (j + 1) = rcU s ⟨(ka : Int), ok, op, ov⟩ j ++ [j] := by rw [HX.out.2.2.2.1, decide_eq_true ⟨d1, c2, c3, c4, c5⟩]; simp
                  have hpp := rcU_pre s ⟨(ka : Int), ok, op, ov⟩ (s.tr.length - (j + 1)) (j + 1)
                  rw [show j + 1 + (s.tr.length - (j + 1)) = s.tr.length by omega, hw, ← HR.out] at hpp
                  have hlen : (rcU s ⟨(ka : Int), ok, op, ov⟩ j).length < (rcL s ⟨(ka : Int), ok, op, ov⟩).length := by
                    have := hpp.length_le
                    simp only [List.length_append, List.length_cons, List.length_nil] at this
                    omega
                  have HW := Lib.hid (And.intro hw (And.intro hpp hlen))
                  clear hw hpp hlen c1 c2 c3
                  refine and4 c4 ?_ ?_
                  · intro d4
                    gi_upto_region 6 with fail
                    by_cases d0 : 0 ≤ r
                    case neg =>
                      have d6 : decide (0 ≤ r) = false := decide_eq_false d0
                      clear c5 d0
                      refine wpIn_wide.2 ?_
                      go_quiet (fail)
                      have hJ9 := abides_below HJ.out.1 HQ.out.1 (drewN_below (Below.refl _ w9) nq)
                      have HQ9 := Lib.hid (And.intro hJ9 (HQ.out.2.trans (Ke.of (drewN_below (Below.refl _ w9) nq))))
                      obtain ⟨fn, tmps, assign, body, hy, hR⟩ := HY.out _ j _ hJ9 HW.out.2.1
                      try dsimp only at hy
                      clear hJ9
                      gi_wp2
                      refine ⟨by simp [Fence.wide], ?_⟩
                      refine hR.mono ?_
                      rintro x W7 (⟨rfl, hJ7, hk7⟩ | ⟨rfl, hJx7⟩)
                      · have HH7 := Lib.hid (And.intro hJ7 (HQ9.out.2.trans hk7))
                        clear hJ7 hk7
                        gi_wp2
                        go_roundw
                        case rel => exact ⟨j + 1, by go_num, by omega, by rw [HW.out.1]; exact HH7.out.1, HH7.out.2⟩
                        case measure => simp [intOf]; omega
                      · have HH7 := Lib.hid hJx7
                        clear hJx7
                        gi_wp2
                        refine bodyPost_ret (results_none rfl _ _ _) rfl ?_
                        exact ⟨⟨_, rfl⟩, .inr ⟨_, HW.out.2.1, HH7.out⟩⟩
                    case pos =>
                      have d6 : decide (0 ≤ r) = true := decide_eq_true d0
                      have d7 : decide (r < s.ac ka) = false := decide_eq_false (fun q => c5 ⟨d0, q⟩)
                      clear c5 d0
                      refine wpIn_wide.2 ?_
                      go_quiet (fail)
                      have hJ9 := abides_below HJ.out.1 HQ.out.1 (drewN_below (Below.refl _ w9) nq)
                      have HQ9 := Lib.hid (And.intro hJ9 (HQ.out.2.trans (Ke.of (drewN_below (Below.refl _ w9) nq))))
                      obtain ⟨fn, tmps, assign, body, hy, hR⟩ := HY.out _ j _ hJ9 HW.out.2.1
                      try dsimp only at hy
                      clear hJ9
                      gi_wp2
                      refine ⟨by simp [Fence.wide], ?_⟩
                      refine hR.mono ?_
                      rintro x W7 (⟨rfl, hJ7, hk7⟩ | ⟨rfl, hJx7⟩)
                      · have HH7 := Lib.hid (And.intro hJ7 (HQ9.out.2.trans hk7))
                        clear hJ7 hk7
                        gi_wp2
                        go_roundw
                        case rel => exact ⟨j + 1, by go_num, by omega, by rw [HW.out.1]; exact HH7.out.1, HH7.out.2⟩
                        case measure => simp [intOf]; omega
                      · have HH7 := Lib.hid hJx7
                        clear hJx7
                        gi_wp2
                        refine bodyPost_ret (results_none rfl _ _ _) rfl ?_
                        exact ⟨⟨_, rfl⟩, .inr ⟨_, HW.out.2.1, HH7.out⟩⟩
                  · intro d4 d5
                    gi_upto_region 6 with fail
                    by_cases d0 : 0 ≤ r
                    case neg =>
                      have d6 : decide (0 ≤ r) = false := decide_eq_false d0
                      clear c5 d0
                      refine wpIn_wide.2 ?_
                      go_quiet (fail)
                      have hJ9 := abides_below HJ.out.1 HQ.out.1 (drewN_below (Below.refl _ w9) nq)
                      have HQ9 := Lib.hid (And.intro hJ9 (HQ.out.2.trans (Ke.of (drewN_below (Below.refl _ w9) nq))))
                      obtain ⟨fn, tmps, assign, body, hy, hR⟩ := HY.out _ j _ hJ9 HW.out.2.1
                      try dsimp only at hy
                      clear hJ9
                      gi_wp2
                      refine ⟨by simp [Fence.wide], ?_⟩
                      refine hR.mono ?_
                      rintro x W7 (⟨rfl, hJ7, hk7⟩ | ⟨rfl, hJx7⟩)
                      · have HH7 := Lib.hid (And.intro hJ7 (HQ9.out.2.trans hk7))
                        clear hJ7 hk7
                        gi_wp2
                        go_roundw
                        case rel => exact ⟨j + 1, by go_num, by omega, by rw [HW.out.1]; exact HH7.out.1, HH7.out.2⟩
                        case measure => simp [intOf]; omega
                      · have HH7 := Lib.hid hJx7
                        clear hJx7
                        gi_wp2
                        refine bodyPost_ret (results_none rfl _ _ _) rfl ?_
                        exact ⟨⟨_, rfl⟩, .inr ⟨_, HW.out.2.1, HH7.out⟩⟩
                    case pos =>
                      have d6 : decide (0 ≤ r) = true := decide_eq_true d0
                      have d7 : decide (r < s.ac ka) = false := decide_eq_false (fun q => c5 ⟨d0, q⟩)
                      clear c5 d0
                      refine wpIn_wide.2 ?_
                      go_quiet (fail)
                      have hJ9 := abides_below HJ.out.1 HQ.out.1 (drewN_below (Below.refl _ w9) nq)
                      have HQ9 := Lib.hid (And.intro hJ9 (HQ.out.2.trans (Ke.of (drewN_below (Below.refl _ w9) nq))))
                      obtain ⟨fn, tmps, assign, body, hy, hR⟩ := HY.out _ j _ hJ9 HW.out.2.1
                      try dsimp only at hy
                      clear hJ9
                      gi_wp2
                      refine ⟨by simp [Fence.wide], ?_⟩
                      refine hR.mono ?_
                      rintro x W7 (⟨rfl, hJ7, hk7⟩ | ⟨rfl, hJx7⟩)
                      · have HH7 := Lib.hid (And.intro hJ7 (HQ9.out.2.trans hk7))
                        clear hJ7 hk7
                        gi_wp2
                        go_roundw
                        case rel => exact ⟨j + 1, by go_num, by omega, by rw [HW.out.1]; exact HH7.out.1, HH7.out.2⟩
                        case measure => simp [intOf]; omega
                      · have HH7 := Lib.hid hJx7
                        clear hJx7
                        gi_wp2
                        refine bodyPost_ret (results_none rfl _ _ _) rfl ?_
                        exact ⟨⟨_, rfl⟩, .inr ⟨_, HW.out.2.1, HH7.out⟩⟩
      · have ht : decide (j < s.tr.length) = false := decide_eq_false hjl
        obtain rfl : j = s.tr.length := by omega
        have HE := Lib.hid hJs
        clear hJs hk
        gi_wp2
        go_end0
        exact ⟨⟨_, rfl⟩, .inl ⟨_, HR.out.symm, HE.out⟩⟩
end Go.Proofs.Ytggidakiflnhhaa
