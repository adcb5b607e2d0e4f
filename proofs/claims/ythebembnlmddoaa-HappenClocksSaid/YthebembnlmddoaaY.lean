import Derived.Test.YthebembnlmddoaaRows
import Derived.Test.YthebembnlmddoaaX
import Derived.WalkKit
import Derived.ProofKit
import Derived.OpenShut
import Derived.Deep.Slices
import Derived.Carry
import Derived.SizedLaws
namespace Go.Proofs.Ythebembnlmddoaa
open Go.ChangeShapes Go.WideShapes Go.ChangeAt Go.RowKit
set_option maxRecDepth 100000
set_option linter.unusedVariables false

theorem choose_all {α : Type} {n : Nat} {p : Nat → α → Prop} (h : ∀ i, i < n → ∃ y, p i y) : ∃ ys : List α, ys.length = n ∧ ∀ i (hi : i < ys.length), p i ys[i] := by
  induction n with
  | zero => exact ⟨[], rfl, fun i hi => by simp at hi⟩
  | succ n ih =>
    obtain ⟨ys, hl, hy⟩ := ih (fun i hi => h i (by omega))
    obtain ⟨y, hp⟩ := h n (by omega)
    refine ⟨ys ++ [y], by simp [hl], fun i hi => ?_⟩
    by_cases e : i < ys.length
    · rw [List.getElem_append_left e]; exact hy i e
    · have : i = n := by simp at hi; omega
      subst this
      rw [List.getElem_append_right (by omega)]
      simpa [hl] using hp
/-- a slice whose elements read by a law of their own; its datum has as many elements -/
theorem open_rows {α : Type} (enc' : α → List Value) (good : α → Prop) {sz : Nat} {H : Type} {enc : TypeId × Value → H} {P : Program} {w : World} {base : Nat} {spare : Nat → Bool} {held : Bool} {t e : TypeId} {fuel : Nat} {A0 : Option Addr} {n0 c0 : Nat} {x : DataW H × List MemPlace}
    (ht : P.underlying t = some (.slice e)) (hc : P.cellsOf e = sz) (h : DataW.trod enc P w base spare held fuel t [.slice A0 n0 c0] = some x)
    (hel : ∀ n cs' y, cs'.length = sz → DataW.trod enc P w base spare held n e cs' = some y → ∃ y : α, enc' y = cs' ∧ good y) :
    ∃ xs : List α, xs.length = n0 ∧ Rd enc' sz w A0 xs ∧ (∀ y ∈ xs, good y) ∧ (n0 = 0 ∨ ∃ elems spare, x.1 = .slice elems spare ∧ elems.length = n0) := by
  rcases Go.Deep.open_slice ht h with ⟨hcs, _⟩ | ⟨a, len, cap, m, n, D, Pl, hcs, hb, hl, hm, hmm, hxx, hx⟩
  · simp only [List.cons.injEq, Value.slice.injEq, and_true] at hcs
    obtain ⟨rfl, rfl, rfl⟩ := hcs
    exact ⟨[], rfl, Rd.nil _ _ _ _, fun y hy => by simp at hy, .inl rfl⟩
  · simp only [List.cons.injEq, Value.slice.injEq, and_true] at hcs
    obtain ⟨rfl, rfl, rfl⟩ := hcs
    have hlm : n0 ≤ m := by rw [hmm]; split <;> omega
    obtain ⟨ys, hys, hy⟩ := choose_all (n := n0) (p := fun i (y : α) => good y ∧ ∀ j v, (enc' y)[j]? = some v → w.cell? (a.add (i * sz + j)) = some v) (fun i hi => by
      obtain ⟨cs', h1, h2⟩ := hx i (by omega)
      rw [hc] at h1
      obtain ⟨_, hlen, hcell⟩ := World.cells?_some h1
      obtain ⟨y, rfl, hg⟩ := hel n cs' _ hlen h2
      refine ⟨y, hg, fun j v hv => ?_⟩
      have hj : j < sz := by rw [← hlen]; exact (List.getElem?_eq_some_iff.1 hv).1
      have := hcell j hj
      rw [Go.Deep.add_add] at this
      rw [this]; exact hv)
    refine ⟨ys, hys, ⟨by simp only [maxLen] at hm; omega, fun k hk => ⟨a, rfl, (hy k hk).2⟩⟩, fun y hm => ?_, .inr ⟨_, _, by rw [hxx], by simp⟩⟩
    obtain ⟨i, hi, rfl⟩ := List.mem_iff_getElem.1 hm
    exact (hy i hi).1
theorem own : ownKnob Try.prog.godebug = none := by kernel_rfl
theorem laid : laidOutB Try.prog = true := by kernel_rfl
theorem post_kept {H : Type} {enc : TypeId × Value → H} {P : Program} {f : Func} {s : ChangeSpec} {apart fresh handsOn : Bool} {W W' : World} {args : Array Value} {v : Value} {ds gs : List (DataW H)} {before pa pv : List MemPlace}
    (hW : DataW.Whole enc P f.params.toList s.vars apart W args.toList ds gs before)
    (hres : ∀ (b : Nat) (sp : Nat → Bool) (hd : Bool), DataW.TrodAll enc P W' b sp hd f.resultTypes.toList (v.resultList f.resultTypes.size) (s.fn H (ds ++ gs)).results [])
    (hargs : (∀ p ∈ before, p.block < W.heap.size) → DataW.TrodAll enc P W' 0 (fun b => decide (b < W.heap.size)) true f.params.toList args.toList (s.fn H (ds ++ gs)).args pa)
    (hvars : ∀ sp : Nat → Bool, (∀ p ∈ before, sp p.block = true) → DataW.TrodVars enc P W' sp s.vars (s.fn H (ds ++ gs)).vars pv)
    (hps : before = pa ++ pv) (hk : W.keptBut W' (· ∈ before)) : s.post enc P f apart fresh handsOn false W args v W' := by
  have hold : ∀ p ∈ before, (fun b => decide (b < W.heap.size)) p.block = true := fun p hp => by simpa using hW.lt p hp
  refine ⟨ds, gs, before, [], pa, pv, hW, hres _ _ _, hargs (fun p hp => hW.lt p hp), hvars _ hold, World.keptBut_mono (fun p hp => ⟨hp, ?_⟩) hk, fun h => Bool.noConfusion h⟩
  rw [hps, List.mem_append] at hp
  exact Or.inr hp

theorem cells93 : Try.prog.cellsOf 93 = 11 := by kernel_rfl
theorem cells39 : Try.prog.cellsOf 39 = 7 := by kernel_rfl
theorem cells37 : Try.prog.cellsOf 37 = 3 := by kernel_rfl
theorem cells40 : Try.prog.cellsOf 40 = 2 := by kernel_rfl
theorem cells3 : Try.prog.cellsOf 3 = 1 := by kernel_rfl
theorem cells5 : Try.prog.cellsOf 5 = 1 := by kernel_rfl
theorem bytes93 : Try.prog.bytesOf 93 = 88 := by kernel_rfl
theorem wf_okI {x : Int} (h : (Lit.int .i64 x).wf = true) : okI x := by simpa [Lit.wf, IntKind.min, IntKind.max, IntKind.signed, IntKind.bits, okI] using h
/-- an array of words -/
theorem el_words {H : Type} {enc : TypeId × Value → H} {w : World} {base : Nat} {spare : Nat → Bool} {held : Bool} {t : TypeId} {N n : Nat} (ht : Try.prog.underlying t = some (.array N 3)) (cs' : List Value) (y : DataW H × List MemPlace) (hl : cs'.length = N) (h : DataW.trod enc Try.prog w base spare held n t cs' = some y) : ∀ i, i < N → ∃ a, cs'[i]? = some (.int .i64 a) ∧ okI a := by
  intro i hi
  obtain ⟨xs, m, rfl, _, _, hxl, hf⟩ := DataW.trod_array ht h
  have g := hf i hi
  rw [cells3, Nat.mul_one] at g
  have hx : xs[i]? = some xs[i] := List.getElem?_eq_getElem (by omega)
  rw [hx] at g
  obtain ⟨a, e, _, hw⟩ := DataW.trod_int Try.underlying3 g
  refine ⟨a, ?_, wf_okI hw⟩
  have : ((cs'.drop i).take 1)[0]? = some (.int .i64 a) := by rw [e]; rfl
  rw [List.getElem?_take_of_lt (by decide), List.getElem?_drop] at this
  simpa using this
theorem el39 {H : Type} {enc : TypeId × Value → H} {w : World} {base : Nat} {spare : Nat → Bool} {held : Bool} (n : Nat) (cs' : List Value) (y : DataW H × List MemPlace) (hl : cs'.length = 7) (h : DataW.trod enc Try.prog w base spare held n 39 cs' = some y) :
    ∃ t p q r m f a, cs' = [.int .i64 t, .int .i64 p, .int .i64 q, .int .i64 r, .int .i64 m, .int .i64 f, .int .i64 a] ∧ okI t ∧ okI p ∧ okI q ∧ okI r := by
  obtain ⟨xs, k, rfl, _, _, hxl, hf⟩ := DataW.trod_struct Try.underlying39 h
  match cs', hl with
  | [v0, v1, v2, v3, v4, v5, v6], _ =>
    have g0 := hf 0 _ rfl
    have g1 := hf 1 _ rfl
    have g2 := hf 2 _ rfl
    have g3 := hf 3 _ rfl
    have g4 := hf 4 _ rfl
    simp [cells3, cells37] at g0 g1 g2 g3 g4
    match xs, hxl with
    | [y0, y1, y2, y3, y4], _ =>
      simp at g0 g1 g2 g3 g4
      obtain ⟨t, e0, _, w0⟩ := DataW.trod_int Try.underlying3 g0
      obtain ⟨m, e2, _, w2⟩ := DataW.trod_int Try.underlying3 g2
      obtain ⟨f, e3, _, w3⟩ := DataW.trod_int Try.underlying3 g3
      obtain ⟨a, e4, _, w4⟩ := DataW.trod_int Try.underlying3 g4
      have gw := el_words Try.underlying37 _ _ rfl g1
      obtain ⟨p, p1, p2⟩ := gw 0 (by decide)
      obtain ⟨q, q1, q2⟩ := gw 1 (by decide)
      obtain ⟨r, r1, r2⟩ := gw 2 (by decide)
      simp at e0 e2 e3 e4 p1 q1 r1
      subst e0 e2 e3 e4 p1 q1 r1
      exact ⟨t, p, q, r, m, f, a, rfl, wf_okI w0, p2, q2, r2⟩
theorem el93 {H : Type} {enc : TypeId × Value → H} {w : World} {base : Nat} {spare : Nat → Bool} {held : Bool} (n : Nat) (cs' : List Value) (y : DataW H × List MemPlace) (hl : cs'.length = 11) (h : DataW.trod enc Try.prog w base spare held n 93 cs' = some y) : ∃ m : Ev, encE m = cs' ∧ m.ok := by
  obtain ⟨xs, k, rfl, _, _, hxl, hf⟩ := DataW.trod_struct Try.underlying93 h
  match cs', hl with
  | [v0, v1, v2, v3, v4, v5, v6, v7, v8, v9, v10], _ =>
    have g0 := hf 0 _ rfl
    have g1 := hf 1 _ rfl
    have g2 := hf 2 _ rfl
    have g3 := hf 3 _ rfl
    simp [cells3, cells39, cells40] at g0 g1 g2 g3
    match xs, hxl with
    | [y0, y1, y2, y3], _ =>
      simp at g0 g1 g2 g3
      obtain ⟨k0, e0, _, w0⟩ := DataW.trod_int Try.underlying3 g0
      obtain ⟨o, e2, _, w2⟩ := DataW.trod_int Try.underlying3 g2
      obtain ⟨t, p, q, r, m, f, a, e1, ht, hp, hq, hr⟩ := el39 _ _ _ rfl g1
      have gw := el_words Try.underlying40 _ _ rfl g3
      obtain ⟨x, x1, _⟩ := gw 0 (by decide)
      obtain ⟨z, z1, _⟩ := gw 1 (by decide)
      simp at e0 e1 e2 x1 z1
      obtain ⟨rfl, rfl, rfl, rfl, rfl, rfl, rfl⟩ := e1
      subst e0 e2 x1 z1
      exact ⟨⟨k0, t, p, q, r, m, f, a, o, x, z⟩, rfl, ⟨ht, hp, hq, hr, wf_okI w2⟩⟩
theorem el5 {H : Type} {enc : TypeId × Value → H} {w : World} {base : Nat} {spare : Nat → Bool} {held : Bool} (n : Nat) (cs' : List Value) (y : DataW H × List MemPlace) (hl : cs'.length = 1) (h : DataW.trod enc Try.prog w base spare held n 5 cs' = some y) : ∃ m : Nat, enc8 m = cs' ∧ m ≤ 255 := by
  obtain ⟨a, rfl, _, hw⟩ := DataW.trod_int Try.underlying5 h
  have h0 : 0 ≤ a ∧ a ≤ 255 := by simpa [Lit.wf, IntKind.min, IntKind.max, IntKind.signed, IntKind.bits] using hw
  refine ⟨a.toNat, ?_, by omega⟩
  rw [enc8, Int.toNat_of_nonneg h0.1]
theorem read22 : Try.prog.readableRec 22 = true := by kernel_rfl
theorem row22 : 22 < Try.prog.types.size := of_decide_eq_true (by kernel_rfl)
theorem read23 : Try.prog.readableRec 23 = true := by kernel_rfl
theorem row23 : 23 < Try.prog.types.size := of_decide_eq_true (by kernel_rfl)
end Go.Proofs.Ythebembnlmddoaa

/- At every input 'raddlelaw21.HappenFree' returns true, and each argument reads behind the call as it read before. There is no condition. -/
namespace Go.Proofs.Ythebembnlmddoaa.happenFree
open Go.ChangeShapes Go.WideShapes Go.ChangeAt Go.RowKit
set_option linter.unusedVariables false
/-! ### THE ROW's STEP -/
set_option maxRecDepth 100000 in
theorem lifted (os : Os) (started : os.Started) (H : Type) (enc : TypeId × Value → H) :
    ReturnsInHanded {} Try.checked os 3 .any (Rows.happenFreeSpec.pre6 enc Try.prog Try.f3 Rows.happenFreeRow.domain false) (Rows.happenFreeSpec.post enc Try.prog Try.f3 false true false false) := by
  refine returnsInHanded_of_change_sized (C := Try.checked) own started (by kernel_rfl) Try.func3
    (ChangeSpec.witness6 (enc := enc) (C := Try.checked) false ⟨#[], #[.slice none 0 0, .slice none 0 0], []⟩ 8 (by kernel_rfl) (by kernel_rfl) (by kernel_rfl) (by kernel_rfl)) ?_
  intro W base args ds gs before hval0 hW hcnd hsz0 _
  have hval : ∀ (j : Nat) t v, Try.f3.params[j]? = some t → args[j]? = some v → Value.okWide Try.prog W .any base t v := hval0
  have hsz : (DataW.weightsEach Try.prog (Try.f3.params.toList ++ Rows.happenFreeSpec.plain.varTypes Try.prog) (ds ++ gs)).all (· ≤ reachBytes) = true := hsz0
  have hW' := hW
  obtain ⟨p, q, hA0, hV, rfl, hfz, hnd⟩ := hW
  have hA : DataW.TrodAll enc Try.prog W 0 (fun _ => true) true Try.f3.params.toList args.toList ds p := hA0
  rw [Try.params3] at hA hval hsz
  obtain ⟨v0, vs0, d0, ds0, p0, q0, hargs, rfl, rfl, h0, r0⟩ := trodAll_cons hA
  obtain ⟨v1, vs1, d1, ds1, p1, q1, rfl, rfl, rfl, h1, r1⟩ := trodAll_cons r0
  obtain ⟨rfl, rfl, rfl⟩ := trodAll_nil r1
  obtain rfl : args = #[v0, v1] := by cases args; simp_all
  obtain ⟨rfl, rfl⟩ := trodVars_none hV
  obtain ⟨M, n, cm, rfl⟩ := okWide_slice Try.underlying22 (hval 0 22 v0 rfl rfl)
  have h0' := h0
  obtain ⟨fuel, hf⟩ := h0'
  obtain ⟨l, rfl, hM, hok, hlen⟩ := open_rows encE Ev.ok Try.underlying22 cells93 (by simpa [Value.cells] using hf) el93
  obtain ⟨M2, n2, cm2, rfl⟩ := okWide_slice Try.underlying23 (hval 1 23 v1 rfl rfl)
  have h1' := h1
  obtain ⟨fuel2, hf2⟩ := h1'
  obtain ⟨cs, rfl, hM2, hcs, _⟩ := open_rows enc8 (fun x => x ≤ 255) Try.underlying23 cells5 (by simpa [Value.cells] using hf2) el5
  have hbnd : l.length * 88 ≤ 140737488351232 := by
    rcases hlen with h | ⟨elems, spare, hd, hl⟩
    · omega
    · simp only at hd
      subst hd
      have := sized_slice hsz (j := 0) (t := 22) (e := 93) rfl rfl Try.underlying22
      rw [bytes93] at this
      simp only [reachBytes] at this
      omega
  clear hA0 hval0 hsz0
  simp only [List.append_nil] at hW'
  refine (free_calls l hok M cm cs hcs M2 cm2 W hM hM2 hbnd).mono fun e W' ⟨he, hg⟩ => ?_
  subst he
  exact ⟨_, rfl, post_kept (pa := p0 ++ p1) (pv := []) hW' (fun _ _ _ => (trodAll_cons_mk (shut_bool Try.underlying4 _) trodAll_mk0)) (fun hlt => by
      have := trodAll_cons_mk (Below.trod laid read22 row22 h0 hg (fun x hx => hlt x (by simp [hx]))) (trodAll_cons_mk (Below.trod laid read23 row23 h1 hg (fun x hx => hlt x (by simp [hx]))) trodAll_mk0)
      simp only [List.append_nil] at this
      exact this) (fun _ _ => rfl) (by simp)
    (hg.frame _)⟩

theorem over : Rows.happenFreeRow.holds Try.pinned (OpenSpec.ofChange Rows.happenFreeSpec) :=
  OpenClaim.holds_of_wide 3 Try.f3 rfl rfl rfl rfl rfl rfl rfl ⟨rfl, rfl, rfl, rfl, rfl⟩ rfl rfl rfl rfl rfl (by kernel_rfl) Try.func3 (by kernel_rfl)
    (of_decide_eq_true (by kernel_rfl)) (by unfold Func.isWrapper; first | (rw [if_pos (by decide +kernel)]; kernel_rfl) | (rw [if_neg (by decide +kernel)]; exact ⟨rfl, rfl⟩))
    (fun os started H enc _ => lifted os started H enc)

/-- ████ THE STATEMENT ████ -/
theorem proved : Rows.HappenFreeSaid :=
  over
end Go.Proofs.Ythebembnlmddoaa.happenFree
