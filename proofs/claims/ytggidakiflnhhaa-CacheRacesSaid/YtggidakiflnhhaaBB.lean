import Derived.Test.YtggidakiflnhhaaBA
namespace Go.Proofs.Ytggidakiflnhhaa
open Go.RowKit
set_option maxHeartbeats 8000000
set_option maxRecDepth 100000
set_option linter.unusedSimpArgs false
set_option linter.unusedVariables false

theorem Below.of_set {base b j : Nat} {w : World} {v : Value} (h : base ≤ b) : Below base w (w.setCell ⟨b, j, none⟩ v) := by
  have hg := grownBy_set w b j v
  refine ⟨hg.os, hg.tape, hg.output, hg.size, fun k hk => ?_⟩
  by_cases hkl : k < w.heap.size
  · exact hg.block k hkl (fun e => by obtain rfl := Option.some.inj e; omega)
  · have : (w.setCell ⟨b, j, none⟩ v).heap.size = w.heap.size := by simp [World.setCell]
    rw [Array.getElem?_eq_none (by omega), Array.getElem?_eq_none (by omega)]
def iniA (i : Nat) (k : Nat) : Int := if k < i then -1 else 0
theorem newFollower_calls (P : Nat → Prop) (w : World) (hP : ∀ k, P k → k < w.heap.size) : Calls Try.prog 39 #[] w fun e w' => ∃ bf, e = .returned (ptr bf) ∧ Fol P bf w.heap.size initF w' ∧ Below w.heap.size w w' := by
  obtain ⟨W1, hW1⟩ : ∃ W1, w.alloc (.cells #[.slice none 0 0, .slice none 0 0, .int .i64 0, .int .i64 0, .int .i64 0, .int .i64 0, .int .i64 0, .int .i64 0, .int .i64 0, .int .i64 0] 96) = W1 := ⟨_, rfl⟩
  have hb1 : Below w.heap.size w W1 := by rw [← hW1]; exact (Below.refl _ w).alloc (Nat.le_refl _) _
  have hx1 : W1.heap[w.heap.size]? = some (.cells (foC (.slice none 0 0) (.slice none 0 0) (iniA 0)) 96 (0, 0)) := by rw [← hW1]; exact Go.heap_alloc_new w _
  obtain ⟨bf, hbf⟩ : ∃ b, w.heap.size = b := ⟨_, rfl⟩
  have hown : ∀ {α : Type} (enc : α → List Value) (sz : Nat) (t : TypeId), Own enc sz t W1 bf (.slice none 0 0) [] := fun enc sz t => ⟨by simp, Or.inl ⟨rfl, rfl⟩⟩
  have hF : Fw P bf bf (.slice none 0 0) (.slice none 0 0) (.slice none 0 0) (.slice none 0 0) [] [] (iniA 0) W1 :=
    ⟨by rw [← hbf]; exact hx1, hown _ _ _, hown _ _ _, Nat.le_refl _, by rw [← hbf]; exact hb1.size, fun h => by have := hP _ h; omega, fun k h => by simp [Value.ownBlock] at h, fun k h => by simp [Value.ownBlock] at h⟩
  have HW := Lib.hid (And.intro hW1 (And.intro hbf hb1))
  have HF := Lib.hid hF
  rw [hbf]
  clear hW1 hb1 hx1 hown hF
  go_enter Try.func39, Try.ntmps39
  go_upto_region 2 with fail
  rw [HW.out.1]
  try rw [hbf]
  clear hbf
  go_wp2_with fail
  go_loopg [2, 5, 6, 7, 8, 9, 10, 11, 12, 13] 8 (fun gk v2 v5 v6 v7 v8 v9 v10 v11 v12 v13 wr => ∃ i : Nat, i + gk = 8 ∧ v5 = .int .i64 (i : Int) ∧ Fw P bf bf (.slice none 0 0) (.slice none 0 0) (.slice none 0 0) (.slice none 0 0) [] [] (iniA i) wr ∧ Below bf w wr)
  case atStart => exact ⟨0, by omega, rfl, HF.out, by rw [← HW.out.2.1]; exact HW.out.2.2⟩
  case round =>
    obtain ⟨i, hi, rfl, hf, hb⟩ := hrel
    by_cases hlt : i < 8
    · have hd : decide (i < 8) = true := decide_eq_true hlt
      have hii : (i : Int) < 8 := by omega
      have h1 := hf.at (2 + i) (.int .i64 (iniA i i)) (by
        have : i = 0 ∨ i = 1 ∨ i = 2 ∨ i = 3 ∨ i = 4 ∨ i = 5 ∨ i = 6 ∨ i = 7 := by omega
        rcases this with rfl | rfl | rfl | rfl | rfl | rfl | rfl | rfl <;> rfl)
      obtain ⟨h2, h3⟩ := h1
      have HH := Lib.hid (And.intro hf hb)
      clear hf hb
      go_wp2_with fail
      go_roundg (gk - 1)
      case measure => omega
      case rel =>
        refine ⟨i + 1, by omega, by go_num, (HH.out.1.setTop (2 + i) (.int .i64 (-1)) _ _ (iniA (i + 1)) ?_).1, HH.out.2.trans (Below.of_set HH.out.1.bf_)⟩
        have : i = 0 ∨ i = 1 ∨ i = 2 ∨ i = 3 ∨ i = 4 ∨ i = 5 ∨ i = 6 ∨ i = 7 := by omega
        rcases this with rfl | rfl | rfl | rfl | rfl | rfl | rfl | rfl <;> rfl
    · have hi8 : i = 8 := by omega
      subst hi8
      have HH := Lib.hid (And.intro hf hb)
      clear hf hb
      go_wp2_with fail
      refine bodyPost_ret (v := ptr bf) (by simp [results, Try.results39, go_sem]; try rfl) rfl ?_
      refine ⟨bf, rfl, ⟨.slice none 0 0, .slice none 0 0, ?_⟩, HH.out.2⟩
      have h1 := HH.out.1
      have h2 : foC (.slice none 0 0) (.slice none 0 0) (iniA 8) = foC (.slice none 0 0) (.slice none 0 0) initF.ac := rfl
      exact ⟨h2 ▸ h1.top, h1.tr, h1.re, h1.bf_, h1.bw, h1.pf, h1.pa, h1.pb⟩
end Go.Proofs.Ytggidakiflnhhaa
