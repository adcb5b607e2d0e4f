import Derived.Test.YthpcipfloofbcaaG
import Derived.Deep.QuietTactic
import Derived.BigQuiet
import Derived.StillTailTactics
namespace Go.Proofs.Ythpcipfloofbcaa
open Go.RowKit
set_option maxHeartbeats 1000000
set_option maxRecDepth 100000
set_option linter.unusedSimpArgs false
set_option linter.unusedVariables false

theorem wp_region_tail {P : Program} {id : Nat} {Q : Exit → Act → World → Prop} {a : Act} {w : World} {l : List Oper} (n : Nat) (hm : P.follows .mixedOrders = true) (hB : Region.lexTailB .any l.toArray n = true)
    (h : wpStill P l.toArray w.drew (fun a' => wpList P l.toArray Q (l.drop n) a' w.drew) (l.take n) a) : (Code.region id l.toArray true).wp P Q a w := wp_region_still_tail n hm hB h

attribute [local irreducible] wpStill

theorem delete_at (base : Nat) (g cap : Nat) (xs : List Int) (a : Int) (w : World) (hown : Own encI 1 3 w base (.slice (some ⟨g, 0, none⟩) xs.length cap) xs) (h0 : 0 ≤ a) (h1 : a < xs.length) (hbig : xs.length ≤ 1000000) :
    Calls Try.prog 46 #[.slice (some ⟨g, 0, none⟩) xs.length cap, .int .i64 a, .int .i64 (a + 1)] w (DelPost base g cap xs a.toNat w) := by
  obtain ⟨i, rfl⟩ := Int.eq_ofNat_of_zero_le h0
  exact delete_calls base g cap xs i w hown (by omega) hbig

def arriveF (s : St) (m : Mov) : Except Int St := if 0 ≤ m.a ∧ m.a < s.fl.length then (match s.at (s.fl.getD m.a.toNat 0) with
  | none => .error 4
  | some x => if x.recv < 1000000 then .ok { s.put (s.fl.getD m.a.toNat 0) { x with recv := x.recv + 1, act := true } with fl := s.fl.eraseIdx m.a.toNat } else .error 5) else .error 4

theorem arrive_calls (base bo : Nat) (s : St) (g c : Nat) (Fv : Value) (m : Mov) (w : World) (h : MS w base bo s g c Fv) (hwf : ∀ x ∈ s.ms, 0 ≤ x.recv) (hfl : ∀ x ∈ s.fl, 0 ≤ x ∧ x < s.ms.length) (hbig : s.fl.length ≤ 1000000) :
    Calls Try.prog 32 #[.pointer (some ⟨bo, 0, none⟩), .agg #[.int .i64 m.k, .int .i64 m.a, .int .i64 m.b]] w (MPost base bo w (arriveF s m)) := by
  have h1 := h.alloc (.cells #[.int .i64 m.k, .int .i64 m.a, .int .i64 m.b] 34)
  have hb1 : Kp base bo w (w.alloc (.cells #[.int .i64 m.k, .int .i64 m.a, .int .i64 m.b] 34)) := (Kp.refl _ _ _).alloc h.hsz _
  have hc := cell_of_row _ bo 0 _ _ _ h1.blk
  have hcf := cell_of_row _ bo 1 _ _ _ h1.blk
  simp at hc hcf
  obtain ⟨FA, Fc, hFv, hFr⟩ := h1.of.rd lenI
  have hg0 := Lib.hid (h.om.blk g rfl).2.1
  have H1 := Lib.hid (And.intro h1 hb1)
  clear h h1 hb1
  have hn := need_ok
  have HN := Lib.hid hn
  have hn2 := need_no
  have HN2 := Lib.hid hn2
  clear hn hn2
  subst hFv
  by_cases ha0 : 0 ≤ m.a
  · by_cases ha1 : m.a < (s.fl.length : Int)
    · obtain ⟨gf, capf, hFv2, hgf1, hgf2⟩ := World.ownsRow.form H1.out.1.of (show 0 < s.fl.length by omega)
      simp only [Value.slice.injEq, true_and] at hFv2
      obtain ⟨rfl, rfl⟩ := hFv2
      have hil : m.a.toNat < s.fl.length := by omega
      obtain ⟨hcfe, _⟩ := H1.out.1.of.cell lenI rfl m.a.toNat hil 0 (.int .i64 s.fl[m.a.toNat]) rfl
      simp only [Nat.mul_one, Nat.add_zero] at hcfe
      have hto := hfl s.fl[m.a.toNat] (List.getElem_mem hil)
      have hgd : s.fl.getD m.a.toNat 0 = s.fl[m.a.toNat] := by rw [List.getD_eq_getElem?_getD, List.getElem?_eq_getElem hil]; rfl
      have hti : (s.fl[m.a.toNat]).toNat < s.ms.length := by omega
      have hat : s.at s.fl[m.a.toNat] = some (s.ms[(s.fl[m.a.toNat]).toNat]) := by unfold St.at; rw [if_pos hto.1, List.getElem?_eq_getElem hti]
      generalize hT : s.fl[m.a.toNat] = tg at *
      generalize hX : s.ms[tg.toNat] = x at *
      have hx0 : 0 ≤ x.recv := hwf x (by rw [← hX]; exact List.getElem_mem hti)
      have hm := member_ok bo tg g _ _ ((w.alloc (.cells #[.int .i64 m.k, .int .i64 m.a, .int .i64 m.b] 34))).drew.drew hc hto.1 hto.2
      have HM := Lib.hid hm
      obtain ⟨hca, hfa⟩ := H1.out.1.om.cell lenM rfl tg.toNat hti 2 (.int .i64 x.recv) (by rw [hX]; rfl)
      have HT := Lib.hid (And.intro hto (And.intro hgd (And.intro hat (And.intro hT hX))))
      clear hm hto hgd hat hT hX hwf hfl
      by_cases hr : x.recv < 1000000
      · have hi' : arriveF s m = .ok { s.put tg { x with recv := x.recv + 1, act := true } with fl := s.fl.eraseIdx m.a.toNat } := by
          unfold arriveF; rw [if_pos ⟨ha0, ha1⟩, HT.out.2.1, HT.out.2.2.1]; simp [hr]
        rw [hi']
        clear hi'
        obtain ⟨q1, q2⟩ := H1.out.1.setM tg.toNat hti 2 (by omega) (.int .i64 (x.recv + 1)) { x with recv := x.recv + 1 } (by rw [HT.out.2.2.2.2]; rfl)
        obtain ⟨q3, q4⟩ := q1.setM tg.toNat (by simpa using hti) 0 (by omega) (.bool true) { x with recv := x.recv + 1, act := true } (by simp)
        simp only [List.set_set, Nat.add_zero] at q3 q4
        have hca2 := (q1.om.cell lenM (by simp) tg.toNat (by simpa using hti) 0 (.bool x.act) (by simp))
        simp only [Nat.add_zero] at hca2
        obtain ⟨hca2, hfa2⟩ := hca2
        obtain ⟨W, hW⟩ : ∃ W, ((w.alloc (.cells #[.int .i64 m.k, .int .i64 m.a, .int .i64 m.b] 34)).setCell ⟨g, tg.toNat * 3 + 2, none⟩ (.int .i64 (x.recv + 1))).setCell ⟨g, tg.toNat * 3, none⟩ (.bool true) = W := ⟨_, rfl⟩
        have hbx : W.cell? ⟨w.heap.size, 1, none⟩ = some (.int .i64 m.a) := by
          rw [← hW, World.cell?_setCell_other _ _ _ _ (by have := hg0.out; simp <;> omega), World.cell?_setCell_other _ _ _ _ (by have := hg0.out; simp <;> omega)]
          simp
        rw [hW] at q3 q4
        have hcw := cell_of_row _ bo 1 _ _ _ q3.blk
        have hfw := frozen_of_row _ bo 1 _ _ q3.blk
        simp [cellsS] at hcw
        have HW := Lib.hid hW
        clear hW
        have HQ := Lib.hid (And.intro q3 (q2.trans q4))
        clear q1 q2 q3 q4
        go_enter Try.func32, Try.ntmps32
        go_wp2_with fail
        refine wp_region_tail 13 (by kernel_rfl) (by kernel_rfl) ?_
        simp only [List.take_succ_cons, List.take_zero, List.drop_succ_cons, List.drop_zero]
        repeat still_step
        refine wpStill_nil ?_
        go_wp2_with ((go_at_call 45; (with_reducible refine (HN.out _ _).mono ?_); rintro e w' ⟨rfl, rfl⟩))
        refine wp_region_tail 9 (by kernel_rfl) (by kernel_rfl) ?_
        simp only [List.take_succ_cons, List.take_zero, List.drop_succ_cons, List.drop_zero]
        repeat still_step
        refine wpStill_nil ?_
        go_wp2_with (first | (go_at_call 44; (with_reducible refine (HM.out).mono ?_); rintro e w' ⟨rfl, rfl⟩) | (go_at_call 45; (with_reducible refine (HN.out _ _).mono ?_); rintro e w' ⟨rfl, rfl⟩))
        rw [HW.out]
        clear hc hcf hcfe hca hfa hca2 hfa2
        have hd := delete_at base gf Fc s.fl m.a _ HQ.out.1.drew.drew.drew.of ha0 ha1 hbig
        have HD := Lib.hid hd
        have hwr : IntKind.i64.wrap (m.a + 1) = m.a + 1 := by rw [IntKind.wrap_i64]; omega
        have q5 := HQ.out.1.drew.drew.drew
        have hne : some bo ≠ some gf := fun e => q5.neg.2.1 e.symm
        have HX := Lib.hid (And.intro hne (And.intro (Array.getElem?_eq_some_iff.1 q5.blk).1 (And.intro hcw hfw)))
        clear hd q5 hne
        go_region_with ((go_at_call 46; (with_reducible refine (HD.out).mono ?_); rintro e w1 ⟨rfl, hown1, hg1⟩; have hcb : w1.cell? ⟨bo, 1, none⟩ = some (.slice (some ⟨gf, 0, none⟩) s.fl.length Fc) := (hg1.cell_far ⟨bo, 1, none⟩ HX.out.2.1 HX.out.1).trans HX.out.2.2.1; have hfb : w1.frozen? ⟨bo, 1, none⟩ = false := (hg1.frozen_far ⟨bo, 1, none⟩ HX.out.2.1 HX.out.1).trans HX.out.2.2.2; have HO := Lib.hid (And.intro hown1 hg1); clear hown1 hg1))
        all_goals go_wp2_with fail
        all_goals go_end0
        all_goals obtain ⟨r1, r2⟩ := HQ.out.1.drew.drew.drew.setF HO.out.2 HO.out.1
        all_goals exact ⟨(H1.out.2.trans HQ.out.2).trans ((Kp.refl _ _ _).drew.drew.drew.trans r2), rfl, _, _, _, r1⟩
      · have hi' : arriveF s m = .error 5 := by
          unfold arriveF; rw [if_pos ⟨ha0, ha1⟩, HT.out.2.1, HT.out.2.2.1]; simp [hr]
        rw [hi']
        have hrb := decide_eq_false hr
        have hrh := Lib.hid hr
        clear hi' hr
        go_enter Try.func32, Try.ntmps32
        go_wp2_with fail
        refine wp_region_tail 13 (by kernel_rfl) (by kernel_rfl) ?_
        simp only [List.take_succ_cons, List.take_zero, List.drop_succ_cons, List.drop_zero]
        repeat still_step
        refine wpStill_nil ?_
        go_wp2_with ((go_at_call 45; (with_reducible refine (HN.out _ _).mono ?_); rintro e w' ⟨rfl, rfl⟩))
        refine wp_region_tail 9 (by kernel_rfl) (by kernel_rfl) ?_
        simp only [List.take_succ_cons, List.take_zero, List.drop_succ_cons, List.drop_zero]
        repeat still_step
        refine wpStill_nil ?_
        go_wp2_with (first | (go_at_call 44; (with_reducible refine (HM.out).mono ?_); rintro e w' ⟨rfl, rfl⟩) | (go_at_call 45; (with_reducible refine (HN2.out _ _).mono ?_); rintro e w' ⟨rfl, rfl⟩))
        exact ⟨rfl, H1.out.2.drew.drew, rfl, _, _, _, _, H1.out.1.drew.drew⟩
    · have hi : arriveF s m = .error 4 := by unfold arriveF; rw [if_neg (by omega)]
      rw [hi]
      have ha1b := decide_eq_false ha1
      have hd1 := Lib.hid ha1
      clear hi ha1
      go_enter Try.func32, Try.ntmps32
      go_wp2_with fail
      refine wp_region_tail 13 (by kernel_rfl) (by kernel_rfl) ?_
      simp only [List.take_succ_cons, List.take_zero, List.drop_succ_cons, List.drop_zero]
      repeat still_step
      refine wpStill_nil ?_
      go_wp2_with ((go_at_call 45; (with_reducible refine (HN2.out _ _).mono ?_); rintro e w' ⟨rfl, rfl⟩))
      exact ⟨rfl, H1.out.2.drew, rfl, _, _, _, _, H1.out.1.drew⟩
  · have hi : arriveF s m = .error 4 := by unfold arriveF; rw [if_neg (by omega)]
    rw [hi]
    have ha0b := decide_eq_false ha0
    have hd0 := Lib.hid ha0
    clear hi ha0
    go_enter Try.func32, Try.ntmps32
    go_wp2_with fail
    refine wp_region_tail 13 (by kernel_rfl) (by kernel_rfl) ?_
    simp only [List.take_succ_cons, List.take_zero, List.drop_succ_cons, List.drop_zero]
    repeat still_step
    refine wpStill_nil ?_
    go_wp2_with ((go_at_call 45; (with_reducible refine (HN2.out _ _).mono ?_); rintro e w' ⟨rfl, rfl⟩))
    exact ⟨rfl, H1.out.2.drew, rfl, _, _, _, _, H1.out.1.drew⟩
end Go.Proofs.Ythpcipfloofbcaa
