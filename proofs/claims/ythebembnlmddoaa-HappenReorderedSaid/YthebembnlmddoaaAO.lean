import Derived.Test.YthebembnlmddoaaY
import Derived.Test.YthebembnlmddoaaAN
/- At every input 'raddlelaw21.HappenReordered' returns true, and each argument reads behind the call as it read before. There is no condition. -/
namespace Go.Proofs.Ythebembnlmddoaa.happenReordered
open Go.ChangeShapes Go.WideShapes Go.ChangeAt Go.RowKit
set_option linter.unusedVariables false
/-! ### THE ROW's STEP -/
set_option maxRecDepth 100000 in
theorem lifted (os : Os) (started : os.Started) (H : Type) (enc : TypeId × Value → H) :
    ReturnsInHanded {} Try.checked os 6 .any (Rows.happenReorderedSpec.pre6 enc Try.prog Try.f6 Rows.happenReorderedRow.domain false) (Rows.happenReorderedSpec.post enc Try.prog Try.f6 false true false false) := by
  refine returnsInHanded_of_change_sized (C := Try.checked) own started (by kernel_rfl) Try.func6
    (ChangeSpec.witness6 (enc := enc) (C := Try.checked) false ⟨#[], #[.slice none 0 0, .slice none 0 0], []⟩ 8 (by kernel_rfl) (by kernel_rfl) (by kernel_rfl) (by kernel_rfl)) ?_
  intro W base args ds gs before hval0 hW hcnd hsz0 _
  have hval : ∀ (j : Nat) t v, Try.f6.params[j]? = some t → args[j]? = some v → Value.okWide Try.prog W .any base t v := hval0
  have hsz : (DataW.weightsEach Try.prog (Try.f6.params.toList ++ Rows.happenReorderedSpec.plain.varTypes Try.prog) (ds ++ gs)).all (· ≤ reachBytes) = true := hsz0
  have hW' := hW
  obtain ⟨p, q, hA0, hV, rfl, hfz, hnd⟩ := hW
  have hA : DataW.TrodAll enc Try.prog W 0 (fun _ => true) true Try.f6.params.toList args.toList ds p := hA0
  rw [Try.params6] at hA hval hsz
  obtain ⟨v0, vs0, d0, ds0, p0, q0, hargs, rfl, rfl, h0, r0⟩ := trodAll_cons hA
  obtain ⟨v1, vs1, d1, ds1, p1, q1, rfl, rfl, rfl, h1, r1⟩ := trodAll_cons r0
  obtain ⟨rfl, rfl, rfl⟩ := trodAll_nil r1
  obtain rfl : args = #[v0, v1] := by cases args; simp_all
  obtain ⟨rfl, rfl⟩ := trodVars_none hV
  obtain ⟨M, n, cm, rfl⟩ := okWide_slice Try.underlying22 (hval 0 22 v0 rfl rfl)
  have h0' := h0
  obtain ⟨fuel, hf⟩ := h0'
  obtain ⟨l, rfl, hM, hok, hlen⟩ := open_rows encE Ev.ok Try.underlying22 cells93 (by simpa [Value.cells] using hf) el93
  obtain ⟨M2, n2, cm2, rfl⟩ := okWide_slice Try.underlying23 (hval 1 23 v1 rfl rfl)
  have h1' := h1
  obtain ⟨fuel2, hf2⟩ := h1'
  obtain ⟨cs, rfl, hM2, hcs, _⟩ := open_rows enc8 (fun x => x ≤ 255) Try.underlying23 cells5 (by simpa [Value.cells] using hf2) el5
  have hbnd : l.length * 88 ≤ 140737488351232 := by
    rcases hlen with h | ⟨elems, spare, hd, hl⟩
    · omega
    · simp only at hd
      subst hd
      have := sized_slice hsz (j := 0) (t := 22) (e := 93) rfl rfl Try.underlying22
      rw [bytes93] at this
      simp only [reachBytes] at this
      omega
  clear hA0 hval0 hsz0
  simp only [List.append_nil] at hW'
  refine (reordered_calls l hok M cm cs hcs M2 cm2 W hM hM2 hbnd).mono fun e W' ⟨he, hg⟩ => ?_
  subst he
  exact ⟨_, rfl, post_kept (pa := p0 ++ p1) (pv := []) hW' (fun _ _ _ => (trodAll_cons_mk (shut_bool Try.underlying4 _) trodAll_mk0)) (fun hlt => by
      have := trodAll_cons_mk (Below.trod laid read22 row22 h0 hg (fun x hx => hlt x (by simp [hx]))) (trodAll_cons_mk (Below.trod laid read23 row23 h1 hg (fun x hx => hlt x (by simp [hx]))) trodAll_mk0)
      simp only [List.append_nil] at this
      exact this) (fun _ _ => rfl) (by simp)
    (hg.frame _)⟩

theorem over : Rows.happenReorderedRow.holds Try.pinned (OpenSpec.ofChange Rows.happenReorderedSpec) :=
  OpenClaim.holds_of_wide 6 Try.f6 rfl rfl rfl rfl rfl rfl rfl ⟨rfl, rfl, rfl, rfl, rfl⟩ rfl rfl rfl rfl rfl (by kernel_rfl) Try.func6 (by kernel_rfl)
    (of_decide_eq_true (by kernel_rfl)) (by unfold Func.isWrapper; first | (rw [if_pos (by decide +kernel)]; kernel_rfl) | (rw [if_neg (by decide +kernel)]; exact ⟨rfl, rfl⟩))
    (fun os started H enc _ => lifted os started H enc)

/-- ████ THE STATEMENT ████ -/
theorem proved : Rows.HappenReorderedSaid :=
  over
end Go.Proofs.Ythebembnlmddoaa.happenReordered
