import Derived.Test.YthebembnlmddoaaY
import Derived.Test.YthebembnlmddoaaBP
namespace Go.Proofs.Ythebembnlmddoaa
open Go.ChangeShapes Go.WideShapes Go.ChangeAt Go.RowKit
set_option maxRecDepth 100000
set_option linter.unusedVariables false
theorem cells39' : Try.prog.cellsOf 39 = 7 := by kernel_rfl
theorem read39 : Try.prog.readableRec 39 = true := by kernel_rfl
theorem row39 : 39 < Try.prog.types.size := of_decide_eq_true (by kernel_rfl)
theorem open_acc {H : Type} {enc : TypeId × Value → H} {w : World} {base : Nat} {spare : Nat → Bool} {held : Bool} {rc : Go.Reach} {b0 : Nat} {v : Value} {d : DataW H} {p : List MemPlace} (hv : Value.okWide Try.prog w rc b0 39 v) (h : DataW.Trod enc Try.prog w base spare held 39 v d p) : ∃ ea : Ev, v = ea.acc := by
  obtain ⟨cs, rfl, hsz⟩ := okWide_struct Try.underlying39 hv
  rw [cells39'] at hsz
  obtain ⟨fuel, hf⟩ := h
  have hf' : DataW.trod enc Try.prog w base spare held fuel 39 cs.toList = some (d, p) := by simpa [Value.cells] using hf
  obtain ⟨t, pp, q, r, m, f, a, e, _⟩ := el39 fuel cs.toList _ (by simpa using hsz) hf'
  refine ⟨⟨0, t, pp, q, r, m, f, a, 0, 0, 0⟩, ?_⟩
  have : cs = #[.int .i64 t, .int .i64 pp, .int .i64 q, .int .i64 r, .int .i64 m, .int .i64 f, .int .i64 a] := by
    cases cs with
    | mk ls => simp at e; rw [e]
  rw [this]
end Go.Proofs.Ythebembnlmddoaa
/- At every input 'raddlelaw21.HappenClocks' returns true, and each argument reads behind the call as it read before. There is no condition. -/
namespace Go.Proofs.Ythebembnlmddoaa.happenClocks
open Go.ChangeShapes Go.WideShapes Go.ChangeAt Go.RowKit
set_option linter.unusedVariables false
/-! ### THE ROW's STEP -/
set_option maxRecDepth 100000 in
theorem lifted (os : Os) (started : os.Started) (H : Type) (enc : TypeId × Value → H) :
    ReturnsInHanded {} Try.checked os 4 .any (Rows.happenClocksSpec.pre6 enc Try.prog Try.f4 Rows.happenClocksRow.domain false) (Rows.happenClocksSpec.post enc Try.prog Try.f4 false true false false) := by
  refine returnsInHanded_of_change_sized (C := Try.checked) own started (by kernel_rfl) Try.func4
    (ChangeSpec.witness6 (enc := enc) (C := Try.checked) false ⟨#[], #[.slice none 0 0, .int .i64 0, .int .i64 0, .agg #[.int .i64 0, .int .i64 0, .int .i64 0, .int .i64 0, .int .i64 0, .int .i64 0, .int .i64 0], .agg #[.int .i64 0, .int .i64 0, .int .i64 0, .int .i64 0, .int .i64 0, .int .i64 0, .int .i64 0]], []⟩ 8 (by kernel_rfl) (by kernel_rfl) (by kernel_rfl) (by kernel_rfl)) ?_
  intro W base args ds gs before hval0 hW hcnd hsz0 _
  have hval : ∀ (j : Nat) t v, Try.f4.params[j]? = some t → args[j]? = some v → Value.okWide Try.prog W .any base t v := hval0
  have hsz : (DataW.weightsEach Try.prog (Try.f4.params.toList ++ Rows.happenClocksSpec.plain.varTypes Try.prog) (ds ++ gs)).all (· ≤ reachBytes) = true := hsz0
  have hW' := hW
  obtain ⟨p, q, hA0, hV, rfl, hfz, hnd⟩ := hW
  have hA : DataW.TrodAll enc Try.prog W 0 (fun _ => true) true Try.f4.params.toList args.toList ds p := hA0
  rw [Try.params4] at hA hval hsz
  obtain ⟨v0, vs0, d0, ds0, p0, q0, hargs, rfl, rfl, h0, r0⟩ := trodAll_cons hA
  obtain ⟨v1, vs1, d1, ds1, p1, q1, rfl, rfl, rfl, h1, r1⟩ := trodAll_cons r0
  obtain ⟨v2, vs2, d2, ds2, p2, q2, rfl, rfl, rfl, h2, r2⟩ := trodAll_cons r1
  obtain ⟨v3, vs3, d3, ds3, p3, q3, rfl, rfl, rfl, h3, r3⟩ := trodAll_cons r2
  obtain ⟨v4, vs4, d4, ds4, p4, q4, rfl, rfl, rfl, h4, r4⟩ := trodAll_cons r3
  obtain ⟨rfl, rfl, rfl⟩ := trodAll_nil r4
  obtain rfl : args = #[v0, v1, v2, v3, v4] := by cases args; simp_all
  obtain ⟨rfl, rfl⟩ := trodVars_none hV
  obtain ⟨M0, n0, c0, rfl⟩ := okWide_slice Try.underlying22 (hval 0 22 v0 rfl rfl)
  have h0' := h0
  obtain ⟨fuel0, hf0⟩ := h0'
  obtain ⟨l0, rfl, hM0, hok0, hlen0⟩ := open_rows encE Ev.ok Try.underlying22 cells93 (by simpa [Value.cells] using hf0) el93
  obtain ⟨a1, rfl, rfl, rfl, wf1⟩ := open_int Try.underlying3 (hval 1 3 v1 rfl rfl) h1
  obtain ⟨a2, rfl, rfl, rfl, wf2⟩ := open_int Try.underlying3 (hval 2 3 v2 rfl rfl) h2
  obtain ⟨ea, rfl⟩ := open_acc (hval 3 39 v3 rfl rfl) h3
  obtain ⟨eb, rfl⟩ := open_acc (hval 4 39 v4 rfl rfl) h4
  clear hA0 hval0 hsz0
  simp only [List.append_nil, List.nil_append] at hW'
  refine (happenClocks_calls l0 hok0 a1 a2 ea eb M0 c0 W hM0).mono fun e W' ⟨he, hg⟩ => ?_
  subst he
  exact ⟨_, rfl, post_kept (pa := p0 ++ (p3 ++ (p4))) (pv := []) hW' (fun _ _ _ => (trodAll_cons_mk (shut_bool Try.underlying4 _) trodAll_mk0)) (fun hlt => by
      have := trodAll_cons_mk (Below.trod laid read22 row22 h0 hg (fun x hx => hlt x (by simp [hx]))) (trodAll_cons_mk (shut_int (enc := enc) (w := W') (base := 0) (spare := fun b => decide (b < W.heap.size)) (held := true) Try.underlying3 wf1) (trodAll_cons_mk (shut_int (enc := enc) (w := W') (base := 0) (spare := fun b => decide (b < W.heap.size)) (held := true) Try.underlying3 wf2) (trodAll_cons_mk (Below.trod laid read39 row39 h3 hg (fun x hx => hlt x (by simp [hx]))) (trodAll_cons_mk (Below.trod laid read39 row39 h4 hg (fun x hx => hlt x (by simp [hx]))) trodAll_mk0))))
      simp only [List.append_nil, List.nil_append] at this
      exact this) (fun _ _ => rfl) (by simp)
    (hg.frame _)⟩

theorem over : Rows.happenClocksRow.holds Try.pinned (OpenSpec.ofChange Rows.happenClocksSpec) :=
  OpenClaim.holds_of_wide 4 Try.f4 rfl rfl rfl rfl rfl rfl rfl ⟨rfl, rfl, rfl, rfl, rfl⟩ rfl rfl rfl rfl rfl (by kernel_rfl) Try.func4 (by kernel_rfl)
    (of_decide_eq_true (by kernel_rfl)) (by unfold Func.isWrapper; first | (rw [if_pos (by decide +kernel)]; kernel_rfl) | (rw [if_neg (by decide +kernel)]; exact ⟨rfl, rfl⟩))
    (fun os started H enc _ => lifted os started H enc)

/-- ████ THE STATEMENT ████ -/
theorem proved : Rows.HappenClocksSaid :=
  over
end Go.Proofs.Ythebembnlmddoaa.happenClocks
