import Derived.Test.YthpcipfloofbcaaH
import Derived.BigRegion
import Derived.Deep.DeepCutAuto
namespace Go.Proofs.Ythpcipfloofbcaa
open Go.RowKit
set_option maxHeartbeats 8000000
set_option maxRecDepth 100000
set_option linter.unusedSimpArgs false
set_option linter.unusedVariables false
attribute [local irreducible] wpStill

/-- a right state -/
structure Fine (s : St) : Prop where
  n0 : 1 ≤ s.ms.length
  n1 : s.ms.length ≤ 10
  fl : s.fl.length ≤ 100
  mem : ∀ x ∈ s.ms, 0 ≤ x.sent ∧ x.sent ≤ 1000000 ∧ 0 ≤ x.recv ∧ x.recv ≤ 1000000
  flt : ∀ x ∈ s.fl, 0 ≤ x ∧ x < s.ms.length
  wn : 0 ≤ s.wn ∧ s.wn < s.ms.length
  ws : 0 ≤ s.ws ∧ s.ws ≤ 10000000 ∧ 0 ≤ s.wr ∧ s.wr ≤ 10000000
  w0 : 0 < s.wn ∨ (s.ws = 0 ∧ s.wr = 0)
  ls : (s.ls = -1 ∧ s.lr = -1) ∨ (0 ≤ s.ls ∧ s.ls ≤ 10000000 ∧ 0 ≤ s.lr ∧ s.lr ≤ 10000000)
  wv : 0 ≤ s.wv ∧ s.wv ≤ 1000000

theorem wB_false (m n : Int) : wB m n = false ↔ 0 ≤ n ∧ n ≤ m := by simp [wB]
theorem fine_iff (s : St) : s.okB.all id = true ↔ Fine s := by
  have key : s.okB.all id = true ↔ (1 ≤ s.ms.length ∧ s.ms.length ≤ 10 ∧ s.fl.length ≤ 100) ∧ (∀ x ∈ s.ms, 0 ≤ x.sent ∧ x.sent ≤ 1000000 ∧ 0 ≤ x.recv ∧ x.recv ≤ 1000000) ∧ (∀ x ∈ s.fl, 0 ≤ x ∧ x ≤ s.ms.length - 1) ∧ (0 ≤ s.wn ∧ s.wn ≤ s.ms.length - 1) ∧ (0 ≤ s.ws ∧ s.ws ≤ 10000000 ∧ 0 ≤ s.wr ∧ s.wr ≤ 10000000) ∧ (0 < s.wn ∨ (s.ws = 0 ∧ s.wr = 0)) ∧ ((s.ls = -1 ∧ s.lr = -1) ∨ (0 ≤ s.ls ∧ s.ls ≤ 10000000 ∧ 0 ≤ s.lr ∧ s.lr ≤ 10000000)) ∧ (0 ≤ s.wv ∧ s.wv ≤ 1000000) := by
    simp only [St.okB, St.ok1, Mem.ok, List.all_cons, List.all_nil, List.any_cons, List.any_nil, id, Bool.and_eq_true, Bool.or_eq_true, Bool.not_eq_true', decide_eq_true_eq, List.all_eq_true, Bool.or_eq_false_iff, wB_false, List.any_eq_false, Bool.and_true, Bool.or_false]
    constructor
    · rintro ⟨⟨⟨⟨h1, h2⟩, h3⟩, h4⟩, h5, h6, ⟨h7, h7'⟩, h8, h9, h10⟩
      refine ⟨⟨by omega, by omega, by omega⟩, fun x hx => ?_, fun x hx => ?_, h6, ⟨h7.1, h7.2, h7'.1, h7'.2⟩, h8, ?_, h10⟩
      · have := h4 x hx; exact ⟨this.1.1, this.1.2, this.2.1, this.2.2⟩
      · have := h5 x hx; rw [Bool.not_eq_true, wB_false] at this; exact this
      · rcases h9 with h9 | h9
        · exact .inl h9
        · exact .inr ⟨h9.1.1, h9.1.2, h9.2.1, h9.2.2⟩
    · rintro ⟨⟨h1, h2, h3⟩, h4, h5, h6, ⟨h7, h7', h7'', h7'''⟩, h8, h9, h10⟩
      refine ⟨⟨⟨⟨by omega, by omega⟩, by omega⟩, fun x hx => ?_⟩, fun x hx => ?_, h6, ⟨⟨h7, h7'⟩, h7'', h7'''⟩, h8, ?_, h10⟩
      · have := h4 x hx; exact ⟨⟨this.1, this.2.1⟩, this.2.2.1, this.2.2.2⟩
      · rw [Bool.not_eq_true, wB_false]; exact h5 x hx
      · rcases h9 with h9 | h9
        · exact .inl h9
        · exact .inr ⟨⟨h9.1, h9.2.1⟩, h9.2.2.1, h9.2.2.2⟩
  rw [key]
  constructor
  · rintro ⟨⟨h1, h2, h3⟩, h4, h5, h6, h7, h8, h9, h10⟩
    exact ⟨h1, h2, h3, h4, fun x hx => ⟨(h5 x hx).1, by have := (h5 x hx).2; omega⟩, ⟨h6.1, by omega⟩, h7, h8, h9, h10⟩
  · intro h
    exact ⟨⟨h.n0, h.n1, h.fl⟩, h.mem, fun x hx => ⟨(h.flt x hx).1, by have := (h.flt x hx).2; omega⟩, ⟨h.wn.1, by have := h.wn.2; omega⟩, h.ws, h.w0, h.ls, h.wv⟩

theorem MS.setB {w : World} {base bo : Nat} {s : St} {g c : Nat} {Fv : Value} (h : MS w base bo s g c Fv) (s' : St) (hms : s'.ms = s.ms) (hfl : s'.fl = s.fl) (j : Nat) (u : Value) (hc : ∀ Mv, (cellsS s Mv Fv).setIfInBounds j u = cellsS s' Mv Fv) :
    MS (w.setCell ⟨bo, j, none⟩ u) base bo s' g c Fv ∧ Kp base bo w (w.setCell ⟨bo, j, none⟩ u) := by
  obtain ⟨n1, n2, n3⟩ := h.neg
  have hgr : w.grownBy (w.setCell ⟨bo, j, none⟩ u) (some bo) := ⟨rfl, rfl, rfl, by simp, fun k _ hk => heap_setCell_other w ⟨bo, j, none⟩ k u (fun e => hk (by simp [e]))⟩
  refine ⟨⟨?_, h.hb, Nat.le_trans h.hsz hgr.size, ?_, ?_⟩, (Kp.refl _ _ _).setCell (p := ⟨bo, j, none⟩) h.hb _⟩
  · rw [heap_setCell_same w bo j _ _ u h.blk, hc, hms]
  · rw [hms]; exact h.om.grown hgr (.inr (by simp [Value.ownBlock]; exact n1))
  · rw [hfl]; exact h.of.grown hgr (.inr n2)

theorem MS.drewN {w : World} {base bo : Nat} {s : St} {g c : Nat} {Fv : Value} (h : MS w base bo s g c Fv) (n : Nat) : MS (w.drewN n) base bo s g c Fv := ⟨h.blk, h.hb, h.hsz, h.om, h.of⟩
theorem below_drewN' {B bo : Nat} {w W : World} (h : Kp B bo w W) (n : Nat) : Kp B bo w (W.drewN n) := ⟨h.os, h.tape, h.output, h.size, h.block⟩

theorem ask_tail {w : World} {base bo : Nat} {s : St} {g c : Nat} {Fv : Value} (h : MS w base bo s g c Fv) (a b v : Int) :
    MS ((((((w.setCell ⟨bo, 5, none⟩ (.int .i64 a)).setCell ⟨bo, 6, none⟩ (.int .i64 b)).setCell ⟨bo, 7, none⟩ (.int .i64 v)).setCell ⟨bo, 2, none⟩ (.int .i64 0)).setCell ⟨bo, 3, none⟩ (.int .i64 0)).setCell ⟨bo, 4, none⟩ (.int .i64 0)) base bo { s with ls := a, lr := b, wv := v, wn := 0, ws := 0, wr := 0 } g c Fv ∧
    Kp base bo w ((((((w.setCell ⟨bo, 5, none⟩ (.int .i64 a)).setCell ⟨bo, 6, none⟩ (.int .i64 b)).setCell ⟨bo, 7, none⟩ (.int .i64 v)).setCell ⟨bo, 2, none⟩ (.int .i64 0)).setCell ⟨bo, 3, none⟩ (.int .i64 0)).setCell ⟨bo, 4, none⟩ (.int .i64 0)) := by
  obtain ⟨q1, p1⟩ := h.setB { s with ls := a } rfl rfl 5 (.int .i64 a) (fun Mv => by simp [cellsS])
  obtain ⟨q2, p2⟩ := q1.setB { s with ls := a, lr := b } rfl rfl 6 (.int .i64 b) (fun Mv => by simp [cellsS])
  obtain ⟨q3, p3⟩ := q2.setB { s with ls := a, lr := b, wv := v } rfl rfl 7 (.int .i64 v) (fun Mv => by simp [cellsS])
  obtain ⟨q4, p4⟩ := q3.setB { s with ls := a, lr := b, wv := v, wn := 0 } rfl rfl 2 (.int .i64 0) (fun Mv => by simp [cellsS])
  obtain ⟨q5, p5⟩ := q4.setB { s with ls := a, lr := b, wv := v, wn := 0, ws := 0 } rfl rfl 3 (.int .i64 0) (fun Mv => by simp [cellsS])
  obtain ⟨q6, p6⟩ := q5.setB { s with ls := a, lr := b, wv := v, wn := 0, ws := 0, wr := 0 } rfl rfl 4 (.int .i64 0) (fun Mv => by simp [cellsS])
  exact ⟨q6, p1.trans (p2.trans (p3.trans (p4.trans (p5.trans p6))))⟩

def askF (s : St) : Except Int St := match s.at s.wn with
  | none => .error 4
  | some x => if x.act then .error 11 else
    if s.wv < 1000000 ∧ s.ws + x.sent ≤ 10000000 ∧ s.wr + x.recv ≤ 10000000 then
      (if s.wn + 1 < s.ms.length then .ok { s with wn := s.wn + 1, ws := s.ws + x.sent, wr := s.wr + x.recv }
      else .ok { s with told := (decide (s.ws + x.sent = s.wr + x.recv) && decide (s.ws + x.sent = s.ls) && decide (s.wr + x.recv = s.lr)) || s.told, ls := s.ws + x.sent, lr := s.wr + x.recv, wv := s.wv + 1, wn := 0, ws := 0, wr := 0 })
    else .error 5

theorem ask_calls (base bo : Nat) (s : St) (g c : Nat) (Fv : Value) (m : Mov) (w : World) (h : MS w base bo s g c Fv) (hf : Fine s) :
    Calls Try.prog 33 #[.pointer (some ⟨bo, 0, none⟩), .agg #[.int .i64 m.k, .int .i64 m.a, .int .i64 m.b]] w (MPost base bo w (askF s)) := by
  have h1 := h.alloc (.cells #[.int .i64 m.k, .int .i64 m.a, .int .i64 m.b] 34)
  have hb1 : Kp base bo w (w.alloc (.cells #[.int .i64 m.k, .int .i64 m.a, .int .i64 m.b] 34)) := (Kp.refl _ _ _).alloc h.hsz _
  have hc := fun j => cell_of_row _ bo j _ _ _ h1.blk
  have hc0 := hc 0
  have hc2 := hc 2
  have hc3 := hc 3
  have hc4 := hc 4
  have hc5 := hc 5
  have hc6 := hc 6
  have hc7 := hc 7
  have hc8 := hc 8
  have hff := fun j => frozen_of_row _ bo j _ _ h1.blk
  simp at hc0 hc2 hc3 hc4 hc5 hc6 hc7 hc8
  obtain ⟨hwn0, hwn1⟩ := hf.wn
  obtain ⟨hws0, hws1, hwr0, hwr1⟩ := hf.ws
  obtain ⟨hwv0, hwv1⟩ := hf.wv
  have hi : s.wn.toNat < s.ms.length := by omega
  have hat : s.at s.wn = some s.ms[s.wn.toNat] := by unfold St.at; rw [if_pos hwn0, List.getElem?_eq_getElem hi]
  have hx := hf.mem s.ms[s.wn.toNat] (List.getElem_mem hi)
  generalize hX : s.ms[s.wn.toNat] = x at *
  obtain ⟨hx0, hx1, hx2, hx3⟩ := hx
  have hn0 := hf.n1
  have hg0 := Lib.hid (h.om.blk g rfl).2.1
  have H1 := Lib.hid (And.intro h1 hb1)
  have hn := need_ok
  have HN := Lib.hid hn
  have hn2 := need_no
  have HN2 := Lib.hid hn2
  have hm := member_ok bo s.wn g _ _ _ hc0 hwn0 hwn1
  have HM := Lib.hid hm
  obtain ⟨ca0, fa0⟩ := h1.om.cell lenM rfl s.wn.toNat hi 0 (.bool x.act) (by rw [hX]; rfl)
  obtain ⟨ca1, _⟩ := h1.om.cell lenM rfl s.wn.toNat hi 1 (.int .i64 x.sent) (by rw [hX]; rfl)
  obtain ⟨ca2, _⟩ := h1.om.cell lenM rfl s.wn.toNat hi 2 (.int .i64 x.recv) (by rw [hX]; rfl)
  simp only [Nat.add_zero] at ca0 fa0
  have HX := Lib.hid (And.intro hat hX)
  have HF := Lib.hid hff
  clear h h1 hb1 hc hff hn hn2 hm hat hX hf
  have e1 : IntKind.i64.wrap (s.ws + x.sent) = s.ws + x.sent := by rw [IntKind.wrap_i64]; omega
  have e2 : IntKind.i64.wrap (s.wr + x.recv) = s.wr + x.recv := by rw [IntKind.wrap_i64]; omega
  have e3 : IntKind.i64.wrap (s.wn + 1) = s.wn + 1 := by rw [IntKind.wrap_i64]; omega
  cases hact : x.act with
  | true =>
    have hr : askF s = .error 11 := by simp [askF, HX.out.1, hact]
    rw [hr]
    rw [hact] at ca0
    clear hr hact
    go_enter Try.func33, Try.ntmps33
    go_wp2_with (first | (go_at_call 44; (with_reducible refine (HM.out).mono ?_); rintro e w' ⟨rfl, rfl⟩) | (go_at_call 45; (with_reducible refine (HN2.out _ _).mono ?_); rintro e w' ⟨rfl, rfl⟩))
    exact ⟨rfl, H1.out.2, rfl, _, _, _, _, H1.out.1⟩
  | false =>
    rw [hact] at ca0
    have HA := Lib.hid hact
    clear hact
    by_cases c1 : s.wv < 1000000
    · by_cases c2 : s.ws + x.sent ≤ 10000000
      · by_cases c3 : s.wr + x.recv ≤ 10000000
        · have c1b := decide_eq_true c1
          have c2b := decide_eq_true c2
          have c3b := decide_eq_true c3
          go_enter Try.func33, Try.ntmps33
          go_wp2_with (first | (go_at_call 44; (with_reducible refine (HM.out).mono ?_); rintro e w' ⟨rfl, rfl⟩) | (go_at_call 45; (with_reducible refine (HN.out _ _).mono ?_); rintro e w' ⟨rfl, rfl⟩))
          refine wp_region_tail 31 (by kernel_rfl) (by kernel_rfl) ?_
          simp only [List.take_succ_cons, List.take_zero, List.drop_succ_cons, List.drop_zero]
          repeat still_step
          refine wpStill_nil ?_
          go_wp2_with ((go_at_call 45; (with_reducible refine (HN.out _ _).mono ?_); rintro e w' ⟨rfl, rfl⟩))
          go_upto_region 4 with fail
          go_cut [5] (fun s5 wc => s5 = .pointer (some ⟨w.heap.size + 1, 0, none⟩) ∧ MS wc base bo s g c Fv ∧ Kp base bo w wc ∧ wc.cell? ⟨w.heap.size + 1, 0, none⟩ = some (.int .i64 (s.wn + 1)) ∧ wc.cell? ⟨w.heap.size + 1, 1, none⟩ = some (.int .i64 (s.ws + x.sent)) ∧ wc.cell? ⟨w.heap.size + 1, 2, none⟩ = some (.int .i64 (s.wr + x.recv)))
          case first =>
            have en0 : g < w.heap.size + 1 := Nat.lt_succ_of_lt hg0.out
            have eb0 : bo < w.heap.size + 1 := (Array.getElem?_eq_some_iff.1 H1.out.1.blk).1 |> fun h => by simpa using h
            go_region
            go_wp2_with fail
            go_meet
            exact ⟨rfl, (H1.out.1.alloc _).drew.drew, (H1.out.2.alloc H1.out.1.hsz _).drew.drew, by simp, by simp, by simp⟩
          case rest =>
            obtain ⟨rfl, hms, hbw, v0, v1, v2⟩ := hcut
            clear hc0 hc2 hc3 hc4 hc5 hc6 hc7 hc8 ca0 fa0 ca1 ca2
            have hc := fun j => cell_of_row _ bo j _ _ _ hms.blk
            have hc0 := hc 0
            have hc2 := hc 2
            have hc3 := hc 3
            have hc4 := hc 4
            have hc5 := hc 5
            have hc6 := hc 6
            have hc7 := hc 7
            have hc8 := hc 8
            have hff := fun j => frozen_of_row _ bo j _ _ hms.blk
            simp [cellsS] at hc0 hc2 hc3 hc4 hc5 hc6 hc7 hc8
            have HQ := Lib.hid (And.intro hms hbw)
            clear hms hbw hc
            have hfx2 := hff 2
            have hfx3 := hff 3
            have hfx4 := hff 4
            have hfx5 := hff 5
            have hfx6 := hff 6
            have hfx7 := hff 7
            have hfx8 := hff 8
            clear hff
            by_cases c4 : s.wn + 1 < s.ms.length
            · have hr : askF s = .ok { s with wn := s.wn + 1, ws := s.ws + x.sent, wr := s.wr + x.recv } := by
                simp only [askF, HX.out.1, HA.out]; rw [if_neg (by simp), if_pos ⟨c1, c2, c3⟩, if_pos c4]
              have HR := Lib.hid hr
              clear hr
              go_wp2_with fail
              go_quiet (fail)
              go_wp2_with fail
              go_end0
              rw [HR.out]
              obtain ⟨q1, p1⟩ := (HQ.out.1.drewN nq).setB { s with wn := s.wn + 1 } rfl rfl 2 (.int .i64 (s.wn + 1)) (fun Mv => by simp [cellsS])
              obtain ⟨q2, p2⟩ := q1.setB { s with wn := s.wn + 1, ws := s.ws + x.sent } rfl rfl 3 (.int .i64 (s.ws + x.sent)) (fun Mv => by simp [cellsS])
              obtain ⟨q3, p3⟩ := q2.setB { s with wn := s.wn + 1, ws := s.ws + x.sent, wr := s.wr + x.recv } rfl rfl 4 (.int .i64 (s.wr + x.recv)) (fun Mv => by simp [cellsS])
              exact ⟨(below_drewN' HQ.out.2 nq).trans (p1.trans (p2.trans p3)), rfl, _, _, _, q3⟩
            · have c4b := decide_eq_false c4
              have c4h := Lib.hid c4
              clear c4
              have hr : askF s = .ok { s with told := (decide (s.ws + x.sent = s.wr + x.recv) && decide (s.ws + x.sent = s.ls) && decide (s.wr + x.recv = s.lr)) || s.told, ls := s.ws + x.sent, lr := s.wr + x.recv, wv := s.wv + 1, wn := 0, ws := 0, wr := 0 } := by
                simp only [askF, HX.out.1, HA.out]; rw [if_neg (by simp), if_pos ⟨c1, c2, c3⟩, if_neg c4h.out]
              have HR := Lib.hid hr
              clear hr
              go_wp2_with fail
              go_quiet (fail)
              go_wp2_with fail
              by_cases d1 : s.ws + x.sent = s.wr + x.recv
              · have d1b : (s.ws + x.sent == s.wr + x.recv) = true := beq_iff_eq.2 d1
                have d1h := Lib.hid d1
                clear d1
                by_cases d2 : s.ws + x.sent = s.ls
                · have d2b : (s.ws + x.sent == s.ls) = true := beq_iff_eq.2 d2
                  have d2h := Lib.hid d2
                  clear d2
                  by_cases d3 : s.wr + x.recv = s.lr
                  · have d3b : (s.wr + x.recv == s.lr) = true := beq_iff_eq.2 d3
                    have d3h := Lib.hid d3
                    clear d3
                    go_quiet (fail)
                    go_wp2_with fail
                    go_region
                    go_wp2_with fail
                    go_end0
                    rw [HR.out, decide_eq_true d1h.out, decide_eq_true d2h.out, decide_eq_true d3h.out]
                    obtain ⟨q1, p1⟩ := (HQ.out.1.drewN _).setB { s with told := true } rfl rfl 8 (.bool true) (fun Mv => by simp [cellsS])
                    obtain ⟨q2, p2⟩ := ask_tail q1 (s.ws + x.sent) (s.wr + x.recv) (s.wv + 1)
                    exact ⟨(below_drewN' HQ.out.2 _).trans (p1.trans p2.drew), rfl, _, _, _, q2.drew⟩
                  · have d3b : (s.wr + x.recv == s.lr) = false := beq_eq_false_iff_ne.2 d3
                    have d3h := Lib.hid d3
                    clear d3
                    go_quiet (fail)
                    go_wp2_with fail
                    go_region
                    go_wp2_with fail
                    go_end0
                    rw [HR.out, decide_eq_true d1h.out, decide_eq_true d2h.out, decide_eq_false d3h.out]
                    obtain ⟨q2, p2⟩ := ask_tail (HQ.out.1.drewN _) (s.ws + x.sent) (s.wr + x.recv) (s.wv + 1)
                    exact ⟨(below_drewN' HQ.out.2 _).trans p2, rfl, _, _, _, q2⟩
                · have d2b : (s.ws + x.sent == s.ls) = false := beq_eq_false_iff_ne.2 d2
                  have d2h := Lib.hid d2
                  clear d2
                  go_quiet (fail)
                  go_wp2_with fail
                  go_region
                  go_wp2_with fail
                  go_end0
                  rw [HR.out, decide_eq_true d1h.out, decide_eq_false d2h.out]
                  obtain ⟨q2, p2⟩ := ask_tail (HQ.out.1.drewN _) (s.ws + x.sent) (s.wr + x.recv) (s.wv + 1)
                  exact ⟨(below_drewN' HQ.out.2 _).trans p2, rfl, _, _, _, q2⟩
              · have d1b : (s.ws + x.sent == s.wr + x.recv) = false := beq_eq_false_iff_ne.2 d1
                have d1h := Lib.hid d1
                clear d1
                go_quiet (fail)
                go_wp2_with fail
                go_region
                go_wp2_with fail
                go_end0
                rw [HR.out, decide_eq_false d1h.out]
                obtain ⟨q2, p2⟩ := ask_tail (HQ.out.1.drewN _) (s.ws + x.sent) (s.wr + x.recv) (s.wv + 1)
                exact ⟨(below_drewN' HQ.out.2 _).trans p2, rfl, _, _, _, q2⟩
        · have hr : askF s = .error 5 := by simp [askF, HX.out.1, HA.out, c1, c2, c3]
          rw [hr]
          have cb := decide_eq_false c3
          have ch := Lib.hid c3
          clear hr c3
          go_enter Try.func33, Try.ntmps33
          go_wp2_with (first | (go_at_call 44; (with_reducible refine (HM.out).mono ?_); rintro e w' ⟨rfl, rfl⟩) | (go_at_call 45; (with_reducible refine (HN.out _ _).mono ?_); rintro e w' ⟨rfl, rfl⟩))
          refine wp_region_tail 31 (by kernel_rfl) (by kernel_rfl) ?_
          simp only [List.take_succ_cons, List.take_zero, List.drop_succ_cons, List.drop_zero]
          repeat still_step
          refine wpStill_nil ?_
          go_wp2_with ((go_at_call 45; (with_reducible refine (HN2.out _ _).mono ?_); rintro e w' ⟨rfl, rfl⟩))
          exact ⟨rfl, H1.out.2.drew, rfl, _, _, _, _, H1.out.1.drew⟩
      · have hr : askF s = .error 5 := by simp [askF, HX.out.1, HA.out, c1, c2]
        rw [hr]
        have cb := decide_eq_false c2
        have ch := Lib.hid c2
        clear hr c2
        go_enter Try.func33, Try.ntmps33
        go_wp2_with (first | (go_at_call 44; (with_reducible refine (HM.out).mono ?_); rintro e w' ⟨rfl, rfl⟩) | (go_at_call 45; (with_reducible refine (HN.out _ _).mono ?_); rintro e w' ⟨rfl, rfl⟩))
        refine wp_region_tail 31 (by kernel_rfl) (by kernel_rfl) ?_
        simp only [List.take_succ_cons, List.take_zero, List.drop_succ_cons, List.drop_zero]
        repeat still_step
        refine wpStill_nil ?_
        go_wp2_with ((go_at_call 45; (with_reducible refine (HN2.out _ _).mono ?_); rintro e w' ⟨rfl, rfl⟩))
        exact ⟨rfl, H1.out.2.drew, rfl, _, _, _, _, H1.out.1.drew⟩
    · have hr : askF s = .error 5 := by simp [askF, HX.out.1, HA.out, c1]
      rw [hr]
      have c1b := decide_eq_false c1
      have c1h := Lib.hid c1
      clear hr c1
      go_enter Try.func33, Try.ntmps33
      go_wp2_with (first | (go_at_call 44; (with_reducible refine (HM.out).mono ?_); rintro e w' ⟨rfl, rfl⟩) | (go_at_call 45; (with_reducible refine (HN.out _ _).mono ?_); rintro e w' ⟨rfl, rfl⟩))
      refine wp_region_tail 31 (by kernel_rfl) (by kernel_rfl) ?_
      simp only [List.take_succ_cons, List.take_zero, List.drop_succ_cons, List.drop_zero]
      repeat still_step
      refine wpStill_nil ?_
      go_wp2_with ((go_at_call 45; (with_reducible refine (HN2.out _ _).mono ?_); rintro e w' ⟨rfl, rfl⟩))
      exact ⟨rfl, H1.out.2.drew, rfl, _, _, _, _, H1.out.1.drew⟩
end Go.Proofs.Ythpcipfloofbcaa
