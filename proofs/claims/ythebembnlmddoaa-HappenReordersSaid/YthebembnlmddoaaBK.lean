import Derived.Test.YthebembnlmddoaaY
import Derived.Test.YthebembnlmddoaaBJ
namespace Go.Proofs.Ythebembnlmddoaa
open Go.ChangeShapes Go.WideShapes Go.ChangeAt Go.RowKit
set_option maxRecDepth 100000
set_option linter.unusedVariables false
theorem read33 : Try.prog.readableRec 33 = true := by kernel_rfl
theorem row33 : 33 < Try.prog.types.size := of_decide_eq_true (by kernel_rfl)
theorem el3 {H : Type} {enc : TypeId × Value → H} {w : World} {base : Nat} {spare : Nat → Bool} {held : Bool} (n : Nat) (cs' : List Value) (y : DataW H × List MemPlace) (hl : cs'.length = 1) (h : DataW.trod enc Try.prog w base spare held n 3 cs' = some y) : ∃ m : Int, encI m = cs' ∧ True := by
  obtain ⟨a, rfl, _, _⟩ := DataW.trod_int Try.underlying3 h
  exact ⟨a, rfl, trivial⟩
theorem cap_of_trod {H : Type} {enc : TypeId × Value → H} {P : Program} {w : World} {base : Nat} {spare : Nat → Bool} {held : Bool} {t e : TypeId} {fuel : Nat} {A0 : Option Addr} {n0 c0 : Nat} {x : DataW H × List MemPlace}
    (ht : P.underlying t = some (.slice e)) (h : DataW.trod enc P w base spare held fuel t [.slice A0 n0 c0] = some x) : n0 ≤ c0 := by
  rcases Go.Deep.open_slice ht h with ⟨hcs, _⟩ | ⟨a, len, cap, m, n, D, Pl, hcs, hb, hl, hm, hmm, hxx, hx⟩
  · simp only [List.cons.injEq, Value.slice.injEq, and_true] at hcs
    omega
  · simp only [List.cons.injEq, Value.slice.injEq, and_true] at hcs
    obtain ⟨rfl, rfl, rfl⟩ := hcs
    omega
end Go.Proofs.Ythebembnlmddoaa
/- At every input 'raddlelaw21.HappenReorders' returns true, and each argument reads behind the call as it read before. There is no condition. -/
namespace Go.Proofs.Ythebembnlmddoaa.happenReorders
open Go.ChangeShapes Go.WideShapes Go.ChangeAt Go.RowKit
set_option linter.unusedVariables false
/-! ### THE ROW's STEP -/
set_option maxRecDepth 100000 in
theorem lifted (os : Os) (started : os.Started) (H : Type) (enc : TypeId × Value → H) :
    ReturnsInHanded {} Try.checked os 5 .any (Rows.happenReordersSpec.pre6 enc Try.prog Try.f5 Rows.happenReordersRow.domain false) (Rows.happenReordersSpec.post enc Try.prog Try.f5 false true false false) := by
  refine returnsInHanded_of_change_sized (C := Try.checked) own started (by kernel_rfl) Try.func5
    (ChangeSpec.witness6 (enc := enc) (C := Try.checked) false ⟨#[], #[.slice none 0 0, .slice none 0 0], []⟩ 8 (by kernel_rfl) (by kernel_rfl) (by kernel_rfl) (by kernel_rfl)) ?_
  intro W base args ds gs before hval0 hW hcnd hsz0 _
  have hval : ∀ (j : Nat) t v, Try.f5.params[j]? = some t → args[j]? = some v → Value.okWide Try.prog W .any base t v := hval0
  have hsz : (DataW.weightsEach Try.prog (Try.f5.params.toList ++ Rows.happenReordersSpec.plain.varTypes Try.prog) (ds ++ gs)).all (· ≤ reachBytes) = true := hsz0
  have hW' := hW
  obtain ⟨p, q, hA0, hV, rfl, hfz, hnd⟩ := hW
  have hA : DataW.TrodAll enc Try.prog W 0 (fun _ => true) true Try.f5.params.toList args.toList ds p := hA0
  rw [Try.params5] at hA hval hsz
  obtain ⟨v0, vs0, d0, ds0, p0, q0, hargs, rfl, rfl, h0, r0⟩ := trodAll_cons hA
  obtain ⟨v1, vs1, d1, ds1, p1, q1, rfl, rfl, rfl, h1, r1⟩ := trodAll_cons r0
  obtain ⟨rfl, rfl, rfl⟩ := trodAll_nil r1
  obtain rfl : args = #[v0, v1] := by cases args; simp_all
  obtain ⟨rfl, rfl⟩ := trodVars_none hV
  obtain ⟨M, n, cm, rfl⟩ := okWide_slice Try.underlying22 (hval 0 22 v0 rfl rfl)
  have h0' := h0
  obtain ⟨fuel, hf⟩ := h0'
  obtain ⟨l, rfl, hM, hok, hlen⟩ := open_rows encE Ev.ok Try.underlying22 cells93 (by simpa [Value.cells] using hf) el93
  obtain ⟨M2, n2, cm2, rfl⟩ := okWide_slice Try.underlying33 (hval 1 33 v1 rfl rfl)
  have h1' := h1
  obtain ⟨fuel2, hf2⟩ := h1'
  have hcap := cap_of_trod Try.underlying33 (by simpa [Value.cells] using hf2)
  obtain ⟨o, rfl, hM2, _, _⟩ := open_rows encI (fun _ => True) Try.underlying33 cells3 (by simpa [Value.cells] using hf2) el3
  clear hA0 hval0 hsz0
  simp only [List.append_nil] at hW'
  refine (reorders_calls l hok M cm o M2 cm2 hcap W hM hM2).mono fun e W' ⟨he, hg⟩ => ?_
  subst he
  exact ⟨_, rfl, post_kept (pa := p0 ++ p1) (pv := []) hW' (fun _ _ _ => (trodAll_cons_mk (shut_bool Try.underlying4 _) trodAll_mk0)) (fun hlt => by
      have := trodAll_cons_mk (Below.trod laid read22 row22 h0 hg (fun x hx => hlt x (by simp [hx]))) (trodAll_cons_mk (Below.trod laid read33 row33 h1 hg (fun x hx => hlt x (by simp [hx]))) trodAll_mk0)
      simp only [List.append_nil] at this
      exact this) (fun _ _ => rfl) (by simp)
    (hg.frame _)⟩

theorem over : Rows.happenReordersRow.holds Try.pinned (OpenSpec.ofChange Rows.happenReordersSpec) :=
  OpenClaim.holds_of_wide 5 Try.f5 rfl rfl rfl rfl rfl rfl rfl ⟨rfl, rfl, rfl, rfl, rfl⟩ rfl rfl rfl rfl rfl (by kernel_rfl) Try.func5 (by kernel_rfl)
    (of_decide_eq_true (by kernel_rfl)) (by unfold Func.isWrapper; first | (rw [if_pos (by decide +kernel)]; kernel_rfl) | (rw [if_neg (by decide +kernel)]; exact ⟨rfl, rfl⟩))
    (fun os started H enc _ => lifted os started H enc)

/-- ████ THE STATEMENT ████ -/
theorem proved : Rows.HappenReordersSaid :=
  over
end Go.Proofs.Ythebembnlmddoaa.happenReorders
