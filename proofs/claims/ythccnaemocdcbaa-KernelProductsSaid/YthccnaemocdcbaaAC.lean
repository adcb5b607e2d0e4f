import Derived.Test.YthccnaemocdcbaaK
import Derived.Test.YthccnaemocdcbaaAB
namespace Go.Proofs.Ythccnaemocdcbaa
open Go.ChangeShapes Go.WideShapes Go.ChangeAt Go.RowKit
set_option maxRecDepth 100000
set_option linter.unusedVariables false
def wf16 (x : Int) : Prop := -32768 ≤ x ∧ x ≤ 32767
theorem cells55 : Try.prog.cellsOf 55 = 1 := by kernel_rfl
theorem el55 {H : Type} {enc : TypeId × Value → H} {w : World} {base : Nat} {spare : Nat → Bool} {held : Bool} (n : Nat) (cs' : List Value) (y : DataW H × List MemPlace) (hl : cs'.length = 1) (h : DataW.trod enc Try.prog w base spare held n 55 cs' = some y) : ∃ m : Int, enc16 m = cs' ∧ wf16 m := by
  obtain ⟨a, rfl, _, hw⟩ := DataW.trod_int Try.underlying55 h
  exact ⟨a, rfl, by simpa [Lit.wf, IntKind.min, IntKind.max, IntKind.signed, IntKind.bits, wf16] using hw⟩
theorem read54 : Try.prog.readableRec 54 = true := by kernel_rfl
theorem row54 : 54 < Try.prog.types.size := of_decide_eq_true (by kernel_rfl)
theorem cells83 : Try.prog.cellsOf 83 = 3 := by kernel_rfl
theorem cells3 : Try.prog.cellsOf 3 = 1 := by kernel_rfl
theorem el83 {H : Type} {enc : TypeId × Value → H} {w : World} {base : Nat} {spare : Nat → Bool} {held : Bool} (n : Nat) (cs' : List Value) (y : DataW H × List MemPlace) (hl : cs'.length = 3) (h : DataW.trod enc Try.prog w base spare held n 83 cs' = some y) : ∃ m : En, encN m = cs' ∧ True := by
  obtain ⟨xs, k, rfl, _, _, hxl, hf⟩ := DataW.trod_struct Try.underlying83 h
  match cs', hl with
  | [v0, v1, v2], _ =>
    have g0 := hf 0 _ rfl
    have g1 := hf 1 _ rfl
    have g2 := hf 2 _ rfl
    simp [cells3] at g0 g1 g2
    match xs, hxl with
    | [y0, y1, y2], _ =>
      simp at g0 g1 g2
      obtain ⟨a0, e0, _, w0⟩ := DataW.trod_int Try.underlying3 g0
      obtain ⟨a1, e1, _, w1⟩ := DataW.trod_int Try.underlying3 g1
      obtain ⟨a2, e2, _, w2⟩ := DataW.trod_int Try.underlying3 g2
      simp at e0 e1 e2
      subst e0 e1 e2
      exact ⟨⟨a0, a1, a2⟩, rfl, trivial⟩
theorem read43 : Try.prog.readableRec 43 = true := by kernel_rfl
theorem row43 : 43 < Try.prog.types.size := of_decide_eq_true (by kernel_rfl)
end Go.Proofs.Ythccnaemocdcbaa

/- At every input 'raddlelaw39.KernelLinear' returns true, and each argument reads behind the call as it read before. There is no condition. -/
namespace Go.Proofs.Ythccnaemocdcbaa.kernelLinear
open Go.ChangeShapes Go.WideShapes Go.ChangeAt Go.RowKit
/-! ### THE ROW's STEP -/
set_option maxRecDepth 100000 in
theorem lifted (os : Os) (started : os.Started) (H : Type) (enc : TypeId × Value → H) :
    ReturnsInHanded {} Try.checked os 6 .any (Rows.kernelLinearSpec.pre6 enc Try.prog Try.f6 Rows.kernelLinearRow.domain false) (Rows.kernelLinearSpec.post enc Try.prog Try.f6 false true false false) := by
  refine returnsInHanded_of_change (C := Try.checked) own started (by kernel_rfl) Try.func6
    (ChangeSpec.witness6 (enc := enc) (C := Try.checked) false ⟨#[], #[.slice none 0 0, .slice none 0 0, .slice none 0 0, .int .i8 0], []⟩ 8 (by kernel_rfl) (by kernel_rfl) (by kernel_rfl) (by kernel_rfl)) ?_
  intro W base args ds gs before hval0 hW hcnd _
  have hval : ∀ (j : Nat) t v, Try.f6.params[j]? = some t → args[j]? = some v → Value.okWide Try.prog W .any base t v := hval0
  have hW' := hW
  obtain ⟨p, q, hA0, hV, rfl, hfz, hnd⟩ := hW
  have hA : DataW.TrodAll enc Try.prog W 0 (fun _ => true) true Try.f6.params.toList args.toList ds p := hA0
  rw [Try.params6] at hA hval
  obtain ⟨v0, vs0, d0, ds0, p0, q0, hargs, rfl, rfl, h0, r0⟩ := trodAll_cons hA
  obtain ⟨v1, vs1, d1, ds1, p1, q1, rfl, rfl, rfl, h1, r1⟩ := trodAll_cons r0
  obtain ⟨v2, vs2, d2, ds2, p2, q2, rfl, rfl, rfl, h2, r2⟩ := trodAll_cons r1
  obtain ⟨v3, vs3, d3, ds3, p3, q3, rfl, rfl, rfl, h3, r3⟩ := trodAll_cons r2
  obtain ⟨rfl, rfl, rfl⟩ := trodAll_nil r3
  obtain rfl : args = #[v0, v1, v2, v3] := by cases args; simp_all
  obtain ⟨rfl, rfl⟩ := trodVars_none hV
  obtain ⟨M, n, cm, rfl⟩ := okWide_slice Try.underlying43 (hval 0 43 v0 rfl rfl)
  have h0' := h0
  obtain ⟨fuel, hf⟩ := h0'
  obtain ⟨ms, rfl, hM, _⟩ := open_rows encN (fun _ => True) Try.underlying43 cells83 (by simpa [Value.cells] using hf) el83
  obtain ⟨M1, n1, cm1, rfl⟩ := okWide_slice Try.underlying54 (hval 1 54 v1 rfl rfl)
  have h1' := h1
  obtain ⟨fuel1, hf1⟩ := h1'
  obtain ⟨vs, rfl, hM1, hg1⟩ := open_rows enc16 wf16 Try.underlying54 cells55 (by simpa [Value.cells] using hf1) el55
  obtain ⟨M2, n2, cm2, rfl⟩ := okWide_slice Try.underlying54 (hval 2 54 v2 rfl rfl)
  have h2' := h2
  obtain ⟨fuel2, hf2⟩ := h2'
  obtain ⟨us, rfl, hM2, hg2⟩ := open_rows enc16 wf16 Try.underlying54 cells55 (by simpa [Value.cells] using hf2) el55
  obtain ⟨a0, rfl, rfl, rfl, w0⟩ := open_int Try.underlying26 (hval 3 26 v3 rfl rfl) h3
  clear hA0 hval0
  simp only [List.append_nil] at hW'
  have hk : -128 ≤ a0 ∧ a0 ≤ 127 := by simpa [Lit.wf, IntKind.min, IntKind.max, IntKind.signed, IntKind.bits] using w0
  have hcall : Calls Try.prog 6 #[.slice M ms.length cm, .slice M1 vs.length cm1, .slice M2 us.length cm2, .int .i8 a0] W fun e w' => e = .returned (.bool true) ∧ Below W.heap.size W w' := by
    by_cases hc : 60 < ms.length ∨ 40 < vs.length ∨ vs.length ≠ us.length
    · exact linear_early _ _ _ _ _ _ hM.small hM1.small hM2.small hc a0 M M1 M2 W
    · exact linear_calls ms vs us a0 hk hg1 hg2 (by omega) (by omega) (by omega) M M1 M2 cm cm1 cm2 W hM hM1 hM2
  refine hcall.mono fun e W' ⟨he, hg⟩ => ?_
  subst he
  exact ⟨_, rfl, post_kept (pa := p0 ++ (p1 ++ p2)) (pv := []) hW' (fun _ _ _ => (trodAll_cons_mk (shut_bool Try.underlying4 _) trodAll_mk0)) (fun hlt => by
      have := trodAll_cons_mk (Below.trod laid read43 row43 h0 hg (fun x hx => hlt x (by simp [hx]))) (trodAll_cons_mk (Below.trod laid read54 row54 h1 hg (fun x hx => hlt x (by simp [hx]))) (trodAll_cons_mk (Below.trod laid read54 row54 h2 hg (fun x hx => hlt x (by simp [hx]))) (trodAll_cons_mk (shut_int (enc := enc) (w := W') (base := 0) (spare := fun b => decide (b < W.heap.size)) (held := true) Try.underlying26 w0) trodAll_mk0)))
      simp only [List.append_nil] at this
      exact this) (fun _ _ => rfl) (by simp)
    (hg.frame _)⟩

theorem over : Rows.kernelLinearRow.holds Try.pinned (OpenSpec.ofChange Rows.kernelLinearSpec) :=
  OpenClaim.holds_of_wide_leaving 6 Try.f6 rfl rfl rfl rfl rfl rfl rfl ⟨rfl, rfl, rfl, rfl, rfl⟩ rfl rfl rfl rfl rfl (by kernel_rfl) Try.func6 (by kernel_rfl)
    (of_decide_eq_true (by kernel_rfl)) (by unfold Func.isWrapper; first | (rw [if_pos (by decide +kernel)]; kernel_rfl) | (rw [if_neg (by decide +kernel)]; exact ⟨rfl, rfl⟩))
    (fun os started H enc _ => leaving_of_handed (lifted os started H enc))

/-- ████ THE STATEMENT ████ -/
theorem proved : Rows.KernelLinearSaid :=
  over
end Go.Proofs.Ythccnaemocdcbaa.kernelLinear
