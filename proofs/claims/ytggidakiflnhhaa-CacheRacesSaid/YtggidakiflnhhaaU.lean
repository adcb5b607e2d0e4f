import Derived.Test.YtggidakiflnhhaaT
namespace Go.Proofs.Ytggidakiflnhhaa
open Go.RowKit
set_option maxHeartbeats 8000000
set_option maxRecDepth 100000
set_option linter.unusedSimpArgs false
set_option linter.unusedVariables false

/-- elements in a new block -/
theorem rd_list {α : Type} {enc : α → List Value} {sz : Nat} (hs : ∀ x, (enc x).length = sz) (w : World) (xs : List α) (t : TypeId) (cs : Array Value) (hc : cs = (xs.flatMap enc).toArray) (hl : xs.length ≤ 1000) : Rd enc sz (w.alloc (.cells cs t)) (some ⟨w.heap.size, 0, none⟩) xs := by
  subst hc
  refine ⟨by omega, fun k hk => ⟨_, rfl, fun j v hv => ?_⟩⟩
  rw [add_at, cell_of_row _ _ _ _ _ _ (Go.heap_alloc_new w _)]
  have := flat_get hs xs k hk j v hv
  simpa using this
theorem alloc3 (w : World) (o0 o1 o2 : Obj) : (((w.alloc o0).alloc o1).alloc o2).heap[w.heap.size]? = some o0 ∧ (((w.alloc o0).alloc o1).alloc o2).heap[w.heap.size + 1]? = some o1 ∧ (((w.alloc o0).alloc o1).alloc o2).heap[w.heap.size + 1 + 1]? = some o2 := by
  have e1 : (w.alloc o0).heap.size = w.heap.size + 1 := by simp
  have e2 : ((w.alloc o0).alloc o1).heap.size = w.heap.size + 1 + 1 := by simp
  refine ⟨?_, ?_, ?_⟩
  · rw [Below.heap_alloc _ _ _ (by omega), Below.heap_alloc _ _ _ (by omega)]; exact Go.heap_alloc_new w o0
  · rw [Below.heap_alloc _ _ _ (by omega), ← e1]; exact Go.heap_alloc_new _ o1
  · rw [← e2]; exact Go.heap_alloc_new _ o2
def c0 : Cf := ⟨2, 8, 1, 0⟩
def l1 : List Op := [⟨0, 2, 4, 7⟩, ⟨1, 1, 4, 0⟩]
def l2 : List Op := [⟨0, 2, 4, 7⟩, ⟨0, 4, 0, 0⟩, ⟨1, 3, 0, 0⟩, ⟨1, 1, 4, 0⟩]
theorem run1 : (runA c0 l1).vs = [0] := by decide +kernel
theorem run2 : (runA c0 l2).vs = [7] := by decide +kernel
theorem chk1 : chkF c0 l1 = 0 := by decide +kernel
theorem chk2 : chkF c0 l2 = 0 := by decide +kernel
theorem runS_calls (c : Cf) (l : List Op) (hk : chkF c l = 0) (A : Option Addr) (cp : Nat) (w : World) (hA : Rd encP 4 w A l) :
    Calls Try.prog 12 #[c.val, .slice A l.length cp] w fun e w' => ∃ V cV M, e = .returned (.tuple #[.slice V (runA c l).vs.length cV, .slice (some M) (runA c l).m.length (runA c l).m.length, .agg #[.int .i64 ((runA c l).f : Int), .int .i64 ((runA c l).wr : Int), .int .i64 ((runA c l).h : Int)], .int .i64 0]) ∧ Rd encI 1 w' V (runA c l).vs ∧ Rd encI 1 w' (some M) (runA c l).m ∧ Below w.heap.size w w' :=
  (run_calls c l A cp w hA).mono fun e w' h => by unfold RunPost at h; rw [if_pos hk] at h; exact h
theorem awake_calls (w : World) : Calls Try.prog 11 #[] w fun e w' => e = .returned (.bool true) ∧ Below w.heap.size w w' := by
  have hr1 := fun A cp w hA => runS_calls c0 l1 chk1 A cp w hA
  have hr2 := fun A cp w hA => runS_calls c0 l2 chk2 A cp w hA
  rw [run1] at hr1
  rw [run2] at hr2
  generalize (runA c0 l1).m = m1 at hr1
  generalize (runA c0 l1).f = f1 at hr1
  generalize (runA c0 l1).wr = w1 at hr1
  generalize (runA c0 l1).h = h1 at hr1
  generalize (runA c0 l2).m = m2 at hr2
  generalize (runA c0 l2).f = f2 at hr2
  generalize (runA c0 l2).wr = w2 at hr2
  generalize (runA c0 l2).h = h2 at hr2
  have HR := Lib.hid (And.intro hr1 hr2)
  obtain ⟨W1, hW1⟩ : ∃ W1, ((w.alloc (.cells #[.int .i64 2, .int .i64 8, .int .i64 1, .int .i64 0] 25)).alloc (.cells #[.int .i64 0, .int .i64 2, .int .i64 4, .int .i64 7] 38)).alloc (.cells #[.int .i64 1, .int .i64 1, .int .i64 4, .int .i64 0] 38) = W1 := ⟨_, rfl⟩
  obtain ⟨b, hbe⟩ : ∃ b, w.heap.size = b := ⟨_, rfl⟩
  have hbl : Below w.heap.size w W1 := by rw [← hW1]; exact (((Below.refl _ w).alloc (Nat.le_refl _) _).alloc (by simp) _).alloc (by simp; omega) _
  have q0 : W1.heap[b]? = some (.cells #[.int .i64 2, .int .i64 8, .int .i64 1, .int .i64 0] 25 (0, 0)) := by rw [← hW1, ← hbe]; exact (alloc3 w _ _ _).1
  have q1 : W1.heap[b + 1]? = some (.cells #[.int .i64 0, .int .i64 2, .int .i64 4, .int .i64 7] 38 (0, 0)) := by rw [← hW1, ← hbe]; exact (alloc3 w _ _ _).2.1
  have q2 : W1.heap[b + 1 + 1]? = some (.cells #[.int .i64 1, .int .i64 1, .int .i64 4, .int .i64 0] 38 (0, 0)) := by rw [← hW1, ← hbe]; exact (alloc3 w _ _ _).2.2
  have HQ := Lib.hid (show ∀ w', Below W1.heap.size W1 w' → (w'.cell? ⟨b, 0, none⟩ = some (.int .i64 2) ∧ w'.cell? ⟨b, 1, none⟩ = some (.int .i64 8) ∧ w'.cell? ⟨b, 2, none⟩ = some (.int .i64 1) ∧ w'.cell? ⟨b, 3, none⟩ = some (.int .i64 0)) ∧ (w'.cell? ⟨b + 1, 0, none⟩ = some (.int .i64 0) ∧ w'.cell? ⟨b + 1, 1, none⟩ = some (.int .i64 2) ∧ w'.cell? ⟨b + 1, 2, none⟩ = some (.int .i64 4) ∧ w'.cell? ⟨b + 1, 3, none⟩ = some (.int .i64 7)) ∧ (w'.cell? ⟨b + 1 + 1, 0, none⟩ = some (.int .i64 1) ∧ w'.cell? ⟨b + 1 + 1, 1, none⟩ = some (.int .i64 1) ∧ w'.cell? ⟨b + 1 + 1, 2, none⟩ = some (.int .i64 4) ∧ w'.cell? ⟨b + 1 + 1, 3, none⟩ = some (.int .i64 0)) from fun w' h => by
    have g0 := (h.block _ (blk_lt q0)).trans q0
    have g1 := (h.block _ (blk_lt q1)).trans q1
    have g2 := (h.block _ (blk_lt q2)).trans q2
    refine ⟨⟨?_, ?_, ?_, ?_⟩, ⟨?_, ?_, ?_, ?_⟩, ?_, ?_, ?_, ?_⟩
    · rw [cell_of_row _ _ _ _ _ _ g0]; rfl
    · rw [cell_of_row _ _ _ _ _ _ g0]; rfl
    · rw [cell_of_row _ _ _ _ _ _ g0]; rfl
    · rw [cell_of_row _ _ _ _ _ _ g0]; rfl
    · rw [cell_of_row _ _ _ _ _ _ g1]; rfl
    · rw [cell_of_row _ _ _ _ _ _ g1]; rfl
    · rw [cell_of_row _ _ _ _ _ _ g1]; rfl
    · rw [cell_of_row _ _ _ _ _ _ g1]; rfl
    · rw [cell_of_row _ _ _ _ _ _ g2]; rfl
    · rw [cell_of_row _ _ _ _ _ _ g2]; rfl
    · rw [cell_of_row _ _ _ _ _ _ g2]; rfl
    · rw [cell_of_row _ _ _ _ _ _ g2]; rfl)
  have HW := Lib.hid (And.intro hW1 (And.intro hbe hbl))
  clear hr1 hr2 hW1 hbe hbl q0 q1 q2
  go_enter Try.func11, Try.ntmps11
  go_upto_region 3 with fail
  rw [HW.out.1]
  try rw [HW.out.2.1]
  obtain ⟨⟨k0, k1, k2, k3⟩, ⟨k4, k5, k6, k7⟩, k8, k9, k10, k11⟩ := HQ.out W1 (Below.refl _ _)
  obtain ⟨W2, hW2⟩ : ∃ W2, W1.alloc (.cells #[.int .i64 0, .int .i64 2, .int .i64 4, .int .i64 7, .int .i64 1, .int .i64 1, .int .i64 4, .int .i64 0] 38) = W2 := ⟨_, rfl⟩
  have hb2 : Below W1.heap.size W1 W2 := by rw [← hW2]; exact (Below.refl _ W1).alloc (Nat.le_refl _) _
  obtain ⟨nb, hnb⟩ : ∃ b, W1.heap.size = b := ⟨_, rfl⟩
  have hrd : Rd encP 4 W2 (some ⟨nb, 0, none⟩) l1 := by rw [← hW2, ← hnb]; exact rd_list lenP W1 l1 38 _ rfl (by decide)
  have hc1 : Calls Try.prog 12 #[.agg #[.int .i64 2, .int .i64 8, .int .i64 1, .int .i64 0], .slice (some ⟨nb, 0, none⟩) 2 2] W2 _ := HR.out.1 _ 2 W2 hrd
  have HC1 := Lib.hid hc1
  have HW2 := Lib.hid (And.intro hW2 (And.intro hnb hb2))
  clear hW2 hb2 hnb hrd hc1
  go_wp2_with fail
  rw [HW2.out.1]
  try rw [HW2.out.2.1]
  (with_reducible refine (HC1.out).mono ?_); rintro e w3 ⟨V1, cV1, M1, rfl, hv1, hm1, hb3⟩
  have hb13 : Below W1.heap.size W1 w3 := HW2.out.2.2.trans (hb3.mono HW2.out.2.2.size)
  obtain ⟨W4, hW4⟩ : ∃ W4, w3.alloc (.cells #[.int .i64 (f1 : Int), .int .i64 (w1 : Int), .int .i64 (h1 : Int)] 34) = W4 := ⟨_, rfl⟩
  have hb4 : Below w3.heap.size w3 W4 := by rw [← hW4]; exact (Below.refl _ w3).alloc (Nat.le_refl _) _
  have hb14 := hb13.trans (hb4.mono hb13.size)
  obtain ⟨nc, hnc⟩ : ∃ b, W4.heap.size = b := ⟨_, rfl⟩
  obtain ⟨W5, hW5⟩ : ∃ W5, W4.alloc (.cells #[.int .i64 0, .int .i64 2, .int .i64 4, .int .i64 7, .int .i64 0, .int .i64 4, .int .i64 0, .int .i64 0, .int .i64 1, .int .i64 3, .int .i64 0, .int .i64 0, .int .i64 1, .int .i64 1, .int .i64 4, .int .i64 0] 38) = W5 := ⟨_, rfl⟩
  have hb5 : Below W4.heap.size W4 W5 := by rw [← hW5]; exact (Below.refl _ W4).alloc (Nat.le_refl _) _
  have hrd : Rd encP 4 W5 (some ⟨nc, 0, none⟩) l2 := by rw [← hW5, ← hnc]; exact rd_list lenP W4 l2 38 _ rfl (by decide)
  have hc2 : Calls Try.prog 12 #[.agg #[.int .i64 2, .int .i64 8, .int .i64 1, .int .i64 0], .slice (some ⟨nc, 0, none⟩) 4 4] W5 _ := HR.out.2 _ 4 W5 hrd
  have HC2 := Lib.hid hc2
  have H4 := Lib.hid (And.intro hb14 (And.intro ((hv1.below hb4).below hb5) (And.intro hb5 (And.intro hW4 (And.intro hW5 hnc)))))
  obtain ⟨⟨x0, x1, x2, x3⟩, ⟨x4, x5, x6, x7⟩, x8, x9, x10, x11⟩ := HQ.out W4 hb14
  clear hv1 hm1 hb3 hb13 hW4 hb4 hb14 hW5 hb5 hrd hc2 k0 k1 k2 k3 k4 k5 k6 k7 k8 k9 k10 k11 hnc
  go_upto_region 4 with fail
  rw [H4.out.2.2.2.1]
  go_wp2_with fail
  rw [H4.out.2.2.2.2.1]
  try rw [H4.out.2.2.2.2.2]
  (with_reducible refine (HC2.out).mono ?_); rintro e w6 ⟨V2, cV2, M2, rfl, hv2, hm2, hb6⟩
  obtain ⟨W7, hW7⟩ : ∃ W7, w6.alloc (.cells #[.int .i64 (f2 : Int), .int .i64 (w2 : Int), .int .i64 (h2 : Int)] 34) = W7 := ⟨_, rfl⟩
  have hb7 : Below w6.heap.size w6 W7 := by rw [← hW7]; exact (Below.refl _ w6).alloc (Nat.le_refl _) _
  obtain ⟨a1, rfl, z1⟩ := ((H4.out.2.1.below hb6).below hb7).int 0 (by decide)
  obtain ⟨a2, rfl, z2⟩ := (hv2.below hb7).int 0 (by decide)
  have hbf : Below w.heap.size w W7 := HW.out.2.2.trans ((H4.out.1.trans ((H4.out.2.2.1.trans ((hb6.trans (hb7.mono hb6.size)).mono H4.out.2.2.1.size)).mono H4.out.1.size)).mono HW.out.2.2.size)
  have H7 := Lib.hid (And.intro hW7 hbf)
  simp at z1 z2
  have z1' : W7.cell? a1 = some (.int .i64 0) := by simpa [Addr.add] using z1
  have z2' : W7.cell? a2 = some (.int .i64 7) := by simpa [Addr.add] using z2
  clear hv2 hm2 hb6 hW7 hb7 hbf x0 x1 x2 x3 x4 x5 x6 x7 x8 x9 x10 x11
  go_upto_region 5 with fail
  rw [H7.out.1]
  go_wp2_with fail
  go_ret
  exact ⟨rfl, H7.out.2⟩
end Go.Proofs.Ytggidakiflnhhaa
