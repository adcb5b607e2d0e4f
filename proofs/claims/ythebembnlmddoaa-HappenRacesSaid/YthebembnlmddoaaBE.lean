import Derived.Test.YthebembnlmddoaaY
import Derived.Test.YthebembnlmddoaaBD
namespace Go.Proofs.Ythebembnlmddoaa
open Go.ChangeShapes Go.WideShapes Go.ChangeAt Go.RowKit
set_option maxRecDepth 100000
set_option linter.unusedVariables false
theorem cells74 : Try.prog.cellsOf 74 = 2 := by kernel_rfl
theorem read74 : Try.prog.readableRec 74 = true := by kernel_rfl
theorem row74 : 74 < Try.prog.types.size := of_decide_eq_true (by kernel_rfl)
theorem open_race {H : Type} {enc : TypeId × Value → H} {w : World} {base : Nat} {spare : Nat → Bool} {held : Bool} {rc : Go.Reach} {b0 : Nat} {v : Value} {d : DataW H} {p : List MemPlace} (hv : Value.okWide Try.prog w rc b0 74 v) (h : DataW.Trod enc Try.prog w base spare held 74 v d p) : ∃ r1 r2, v = .agg #[.int .i64 r1, .int .i64 r2] := by
  obtain ⟨cs, rfl, hsz⟩ := okWide_struct Try.underlying74 hv
  rw [cells74] at hsz
  obtain ⟨fuel, hf⟩ := h
  have hf' : DataW.trod enc Try.prog w base spare held fuel 74 cs.toList = some (d, p) := by simpa [Value.cells] using hf
  obtain ⟨xs, k, _, _, _, hxl, hg⟩ := DataW.trod_struct Try.underlying74 hf'
  have hl : cs.toList.length = 2 := by simpa using hsz
  match hcs : cs.toList, hl with
  | [v0, v1], _ =>
    rw [hcs] at hg
    have g0 := hg 0 _ rfl
    have g1 := hg 1 _ rfl
    simp [cells3] at g0 g1
    match xs, hxl with
    | [y0, y1], _ =>
      simp at g0 g1
      obtain ⟨a, e0, _, _⟩ := DataW.trod_int Try.underlying3 g0
      obtain ⟨b, e1, _, _⟩ := DataW.trod_int Try.underlying3 g1
      simp at e0 e1
      subst e0 e1
      refine ⟨a, b, ?_⟩
      have : cs = #[.int .i64 a, .int .i64 b] := by
        cases cs with
        | mk ls => simp at hcs; rw [hcs]
      rw [this]
end Go.Proofs.Ythebembnlmddoaa
/- At every input 'raddlelaw21.HappenRaces' returns true, and each argument reads behind the call as it read before. There is no condition. -/
namespace Go.Proofs.Ythebembnlmddoaa.happenRaces
open Go.ChangeShapes Go.WideShapes Go.ChangeAt Go.RowKit
set_option linter.unusedVariables false
/-! ### THE ROW's STEP -/
set_option maxRecDepth 100000 in
theorem lifted (os : Os) (started : os.Started) (H : Type) (enc : TypeId × Value → H) :
    ReturnsInHanded {} Try.checked os 8 .any (Rows.happenRacesSpec.pre6 enc Try.prog Try.f8 Rows.happenRacesRow.domain false) (Rows.happenRacesSpec.post enc Try.prog Try.f8 false true false false) := by
  refine returnsInHanded_of_change_sized (C := Try.checked) own started (by kernel_rfl) Try.func8
    (ChangeSpec.witness6 (enc := enc) (C := Try.checked) false ⟨#[], #[.slice none 0 0, .agg #[.int .i64 0, .int .i64 0]], []⟩ 8 (by kernel_rfl) (by kernel_rfl) (by kernel_rfl) (by kernel_rfl)) ?_
  intro W base args ds gs before hval0 hW hcnd hsz0 _
  have hval : ∀ (j : Nat) t v, Try.f8.params[j]? = some t → args[j]? = some v → Value.okWide Try.prog W .any base t v := hval0
  have hsz : (DataW.weightsEach Try.prog (Try.f8.params.toList ++ Rows.happenRacesSpec.plain.varTypes Try.prog) (ds ++ gs)).all (· ≤ reachBytes) = true := hsz0
  have hW' := hW
  obtain ⟨p, q, hA0, hV, rfl, hfz, hnd⟩ := hW
  have hA : DataW.TrodAll enc Try.prog W 0 (fun _ => true) true Try.f8.params.toList args.toList ds p := hA0
  rw [Try.params8] at hA hval hsz
  obtain ⟨v0, vs0, d0, ds0, p0, q0, hargs, rfl, rfl, h0, r0⟩ := trodAll_cons hA
  obtain ⟨v1, vs1, d1, ds1, p1, q1, rfl, rfl, rfl, h1, r1⟩ := trodAll_cons r0
  obtain ⟨rfl, rfl, rfl⟩ := trodAll_nil r1
  obtain rfl : args = #[v0, v1] := by cases args; simp_all
  obtain ⟨rfl, rfl⟩ := trodVars_none hV
  obtain ⟨M, n, cm, rfl⟩ := okWide_slice Try.underlying22 (hval 0 22 v0 rfl rfl)
  have h0' := h0
  obtain ⟨fuel, hf⟩ := h0'
  obtain ⟨l, rfl, hM, hok, hlen⟩ := open_rows encE Ev.ok Try.underlying22 cells93 (by simpa [Value.cells] using hf) el93
  obtain ⟨r1, r2, rfl⟩ := open_race (hval 1 74 v1 rfl rfl) h1
  clear hA0 hval0 hsz0
  simp only [List.append_nil] at hW'
  refine (happenRaces_calls l hok r1 r2 M cm W hM).mono fun e W' ⟨he, hg⟩ => ?_
  subst he
  exact ⟨_, rfl, post_kept (pa := p0 ++ p1) (pv := []) hW' (fun _ _ _ => (trodAll_cons_mk (shut_bool Try.underlying4 _) trodAll_mk0)) (fun hlt => by
      have := trodAll_cons_mk (Below.trod laid read22 row22 h0 hg (fun x hx => hlt x (by simp [hx]))) (trodAll_cons_mk (Below.trod laid read74 row74 h1 hg (fun x hx => hlt x (by simp [hx]))) trodAll_mk0)
      simp only [List.append_nil] at this
      exact this) (fun _ _ => rfl) (by simp)
    (hg.frame _)⟩

theorem over : Rows.happenRacesRow.holds Try.pinned (OpenSpec.ofChange Rows.happenRacesSpec) :=
  OpenClaim.holds_of_wide 8 Try.f8 rfl rfl rfl rfl rfl rfl rfl ⟨rfl, rfl, rfl, rfl, rfl⟩ rfl rfl rfl rfl rfl (by kernel_rfl) Try.func8 (by kernel_rfl)
    (of_decide_eq_true (by kernel_rfl)) (by unfold Func.isWrapper; first | (rw [if_pos (by decide +kernel)]; kernel_rfl) | (rw [if_neg (by decide +kernel)]; exact ⟨rfl, rfl⟩))
    (fun os started H enc _ => lifted os started H enc)

/-- ████ THE STATEMENT ████ -/
theorem proved : Rows.HappenRacesSaid :=
  over
end Go.Proofs.Ythebembnlmddoaa.happenRaces
