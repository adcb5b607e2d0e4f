import Derived.Test.YthccnaemocdcbaaK
import Derived.Test.YthccnaemocdcbaaP
set_option maxRecDepth 100000
set_option linter.unusedVariables false

/- At every input 'raddlelaw39.KernelConvolves' returns true, and each argument reads behind the call as it read before. There is no condition. -/
namespace Go.Proofs.Ythccnaemocdcbaa.kernelConvolves
open Go.ChangeShapes Go.WideShapes Go.ChangeAt Go.RowKit
/-! ### THE ROW's STEP -/
set_option maxRecDepth 100000 in
theorem lifted (os : Os) (started : os.Started) (H : Type) (enc : TypeId × Value → H) :
    ReturnsInHanded {} Try.checked os 4 .any (Rows.kernelConvolvesSpec.pre6 enc Try.prog Try.f4 Rows.kernelConvolvesRow.domain false) (Rows.kernelConvolvesSpec.post enc Try.prog Try.f4 false true false false) := by
  refine returnsInHanded_of_change (C := Try.checked) own started (by kernel_rfl) Try.func4
    (ChangeSpec.witness6 (enc := enc) (C := Try.checked) false ⟨#[], #[.int .u8 0, .slice none 0 0, .slice none 0 0], []⟩ 8 (by kernel_rfl) (by kernel_rfl) (by kernel_rfl) (by kernel_rfl)) ?_
  intro W base args ds gs before hval0 hW hcnd _
  have hval : ∀ (j : Nat) t v, Try.f4.params[j]? = some t → args[j]? = some v → Value.okWide Try.prog W .any base t v := hval0
  have hW' := hW
  obtain ⟨p, q, hA0, hV, rfl, hfz, hnd⟩ := hW
  have hA : DataW.TrodAll enc Try.prog W 0 (fun _ => true) true Try.f4.params.toList args.toList ds p := hA0
  rw [Try.params4] at hA hval
  obtain ⟨v0, vs0, d0, ds0, p0, q0, hargs, rfl, rfl, h0, r0⟩ := trodAll_cons hA
  obtain ⟨v1, vs1, d1, ds1, p1, q1, rfl, rfl, rfl, h1, r1⟩ := trodAll_cons r0
  obtain ⟨v2, vs2, d2, ds2, p2, q2, rfl, rfl, rfl, h2, r2⟩ := trodAll_cons r1
  obtain ⟨rfl, rfl, rfl⟩ := trodAll_nil r2
  obtain rfl : args = #[v0, v1, v2] := by cases args; simp_all
  obtain ⟨rfl, rfl⟩ := trodVars_none hV
  obtain ⟨a0, rfl, rfl, rfl, w0⟩ := open_int Try.underlying5 (hval 0 5 v0 rfl rfl) h0
  obtain ⟨M, n, cm, rfl⟩ := okWide_slice Try.underlying22 (hval 1 22 v1 rfl rfl)
  have h1' := h1
  obtain ⟨fuel, hf⟩ := h1'
  obtain ⟨ms, rfl, hM, hg8⟩ := open_rows enc8 wf8 Try.underlying22 cells26 (by simpa [Value.cells] using hf) el26
  obtain ⟨M2, n2, cm2, rfl⟩ := okWide_slice Try.underlying22 (hval 2 22 v2 rfl rfl)
  have h2' := h2
  obtain ⟨fuel2, hf2⟩ := h2'
  obtain ⟨ms2, rfl, hM2, hg82⟩ := open_rows enc8 wf8 Try.underlying22 cells26 (by simpa [Value.cells] using hf2) el26
  clear hA0 hval0
  simp only [List.append_nil] at hW'
  have hk : 0 ≤ a0 ∧ a0 ≤ 255 := by simpa [Lit.wf, IntKind.min, IntKind.max, IntKind.signed, IntKind.bits] using w0
  refine (convolves_calls a0 hk ms ms2 hg8 hg82 M M2 cm cm2 W hM hM2).mono fun e W' ⟨he, hg⟩ => ?_
  subst he
  exact ⟨_, rfl, post_kept (pa := p1 ++ p2) (pv := []) hW' (fun _ _ _ => (trodAll_cons_mk (shut_bool Try.underlying4 _) trodAll_mk0)) (fun hlt => by
      have := trodAll_cons_mk (shut_int (enc := enc) (w := W') (base := 0) (spare := fun b => decide (b < W.heap.size)) (held := true) Try.underlying5 w0) (trodAll_cons_mk (Below.trod laid read22 row22 h1 hg (fun x hx => hlt x (by simp [hx]))) (trodAll_cons_mk (Below.trod laid read22 row22 h2 hg (fun x hx => hlt x (by simp [hx]))) trodAll_mk0))
      rw [List.nil_append, List.append_nil] at this
      exact this) (fun _ _ => rfl) (by simp)
    (hg.frame _)⟩

theorem over : Rows.kernelConvolvesRow.holds Try.pinned (OpenSpec.ofChange Rows.kernelConvolvesSpec) :=
  OpenClaim.holds_of_wide_leaving 4 Try.f4 rfl rfl rfl rfl rfl rfl rfl ⟨rfl, rfl, rfl, rfl, rfl⟩ rfl rfl rfl rfl rfl (by kernel_rfl) Try.func4 (by kernel_rfl)
    (of_decide_eq_true (by kernel_rfl)) (by unfold Func.isWrapper; first | (rw [if_pos (by decide +kernel)]; kernel_rfl) | (rw [if_neg (by decide +kernel)]; exact ⟨rfl, rfl⟩))
    (fun os started H enc _ => leaving_of_handed (lifted os started H enc))

/-- ████ THE STATEMENT ████ -/
theorem proved : Rows.KernelConvolvesSaid :=
  over
end Go.Proofs.Ythccnaemocdcbaa.kernelConvolves
