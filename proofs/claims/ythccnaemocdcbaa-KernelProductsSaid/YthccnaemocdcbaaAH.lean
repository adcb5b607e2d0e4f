import Derived.Test.YthccnaemocdcbaaAC
import Derived.Test.YthccnaemocdcbaaAG
namespace Go.Proofs.Ythccnaemocdcbaa
open Go.ChangeShapes Go.WideShapes Go.ChangeAt Go.RowKit
set_option maxRecDepth 100000
set_option linter.unusedVariables false
theorem el3 {H : Type} {enc : TypeId × Value → H} {w : World} {base : Nat} {spare : Nat → Bool} {held : Bool} (n : Nat) (cs' : List Value) (y : DataW H × List MemPlace) (hl : cs'.length = 1) (h : DataW.trod enc Try.prog w base spare held n 3 cs' = some y) : ∃ m : Int, encI m = cs' ∧ True := by
  obtain ⟨a, rfl, _, hw⟩ := DataW.trod_int Try.underlying3 h
  exact ⟨a, rfl, trivial⟩
theorem read44 : Try.prog.readableRec 44 = true := by kernel_rfl
theorem row44 : 44 < Try.prog.types.size := of_decide_eq_true (by kernel_rfl)
end Go.Proofs.Ythccnaemocdcbaa

/- At every input 'raddlelaw39.KernelProducts' returns true, and each argument reads behind the call as it read before. There is no condition. -/
namespace Go.Proofs.Ythccnaemocdcbaa.kernelProducts
open Go.ChangeShapes Go.WideShapes Go.ChangeAt Go.RowKit
/-! ### THE ROW's STEP -/
set_option maxRecDepth 100000 in
theorem lifted (os : Os) (started : os.Started) (H : Type) (enc : TypeId × Value → H) :
    ReturnsInHanded {} Try.checked os 5 .any (Rows.kernelProductsSpec.pre6 enc Try.prog Try.f5 Rows.kernelProductsRow.domain false) (Rows.kernelProductsSpec.post enc Try.prog Try.f5 false true false false) := by
  refine returnsInHanded_of_change (C := Try.checked) own started (by kernel_rfl) Try.func5
    (ChangeSpec.witness6 (enc := enc) (C := Try.checked) false ⟨#[], #[.int .i64 0, .slice none 0 0, .slice none 0 0, .int .i64 0], []⟩ 8 (by kernel_rfl) (by kernel_rfl) (by kernel_rfl) (by kernel_rfl)) ?_
  intro W base args ds gs before hval0 hW hcnd _
  have hval : ∀ (j : Nat) t v, Try.f5.params[j]? = some t → args[j]? = some v → Value.okWide Try.prog W .any base t v := hval0
  have hW' := hW
  obtain ⟨p, q, hA0, hV, rfl, hfz, hnd⟩ := hW
  have hA : DataW.TrodAll enc Try.prog W 0 (fun _ => true) true Try.f5.params.toList args.toList ds p := hA0
  rw [Try.params5] at hA hval
  obtain ⟨v0, vs0, d0, ds0, p0, q0, hargs, rfl, rfl, h0, r0⟩ := trodAll_cons hA
  obtain ⟨v1, vs1, d1, ds1, p1, q1, rfl, rfl, rfl, h1, r1⟩ := trodAll_cons r0
  obtain ⟨v2, vs2, d2, ds2, p2, q2, rfl, rfl, rfl, h2, r2⟩ := trodAll_cons r1
  obtain ⟨v3, vs3, d3, ds3, p3, q3, rfl, rfl, rfl, h3, r3⟩ := trodAll_cons r2
  obtain ⟨rfl, rfl, rfl⟩ := trodAll_nil r3
  obtain rfl : args = #[v0, v1, v2, v3] := by cases args; simp_all
  obtain ⟨rfl, rfl⟩ := trodVars_none hV
  obtain ⟨a0, rfl, rfl, rfl, w0⟩ := open_int Try.underlying3 (hval 0 3 v0 rfl rfl) h0
  obtain ⟨M, n, cm, rfl⟩ := okWide_slice Try.underlying43 (hval 1 43 v1 rfl rfl)
  have h1' := h1
  obtain ⟨fuel, hf⟩ := h1'
  obtain ⟨ms, rfl, hM, _⟩ := open_rows encN (fun _ => True) Try.underlying43 cells83 (by simpa [Value.cells] using hf) el83
  obtain ⟨M2, n2, cm2, rfl⟩ := okWide_slice Try.underlying44 (hval 2 44 v2 rfl rfl)
  have h2' := h2
  obtain ⟨fuel2, hf2⟩ := h2'
  obtain ⟨vs, rfl, hM2, _⟩ := open_rows encI (fun _ => True) Try.underlying44 cells3 (by simpa [Value.cells] using hf2) el3
  obtain ⟨a3, rfl, rfl, rfl, w3⟩ := open_int Try.underlying3 (hval 3 3 v3 rfl rfl) h3
  clear hA0 hval0
  simp only [List.append_nil] at hW'
  have hcall : Calls Try.prog 5 #[.int .i64 a0, .slice M ms.length cm, .slice M2 vs.length cm2, .int .i64 a3] W fun e w' => e = .returned (.bool true) ∧ Below W.heap.size W w' := by
    by_cases hc : (100 < ms.length ∧ ms.length ≤ 5000) ∨ 5002 < ms.length ∨ (60 < vs.length ∧ vs.length ≤ 1024) ∨ 1026 < vs.length
    · exact products_early _ _ _ _ _ _ hM.small hM2.small hc M M2 W
    · exact products_calls a0 a3 ms vs hc M M2 cm cm2 W hM hM2
  refine hcall.mono fun e W' ⟨he, hg⟩ => ?_
  subst he
  exact ⟨_, rfl, post_kept (pa := p1 ++ p2) (pv := []) hW' (fun _ _ _ => (trodAll_cons_mk (shut_bool Try.underlying4 _) trodAll_mk0)) (fun hlt => by
      have := trodAll_cons_mk (shut_int (enc := enc) (w := W') (base := 0) (spare := fun b => decide (b < W.heap.size)) (held := true) Try.underlying3 w0) (trodAll_cons_mk (Below.trod laid read43 row43 h1 hg (fun x hx => hlt x (by simp [hx]))) (trodAll_cons_mk (Below.trod laid read44 row44 h2 hg (fun x hx => hlt x (by simp [hx]))) (trodAll_cons_mk (shut_int (enc := enc) (w := W') (base := 0) (spare := fun b => decide (b < W.heap.size)) (held := true) Try.underlying3 w3) trodAll_mk0)))
      rw [List.nil_append] at this
      simp only [List.append_nil] at this
      exact this) (fun _ _ => rfl) (by simp)
    (hg.frame _)⟩

theorem over : Rows.kernelProductsRow.holds Try.pinned (OpenSpec.ofChange Rows.kernelProductsSpec) :=
  OpenClaim.holds_of_wide_leaving 5 Try.f5 rfl rfl rfl rfl rfl rfl rfl ⟨rfl, rfl, rfl, rfl, rfl⟩ rfl rfl rfl rfl rfl (by kernel_rfl) Try.func5 (by kernel_rfl)
    (of_decide_eq_true (by kernel_rfl)) (by unfold Func.isWrapper; first | (rw [if_pos (by decide +kernel)]; kernel_rfl) | (rw [if_neg (by decide +kernel)]; exact ⟨rfl, rfl⟩))
    (fun os started H enc _ => leaving_of_handed (lifted os started H enc))

/-- ████ THE STATEMENT ████ -/
theorem proved : Rows.KernelProductsSaid :=
  over
end Go.Proofs.Ythccnaemocdcbaa.kernelProducts
