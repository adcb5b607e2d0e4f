import Derived.Test.YtggidakiflnhhaaRows
import Derived.Test.YtggidakiflnhhaaBQ
import Derived.WalkKit
import Derived.ProofKit
import Derived.OpenShut
import Derived.Deep.Slices
import Derived.Carry
import Derived.SizedLaws
namespace Go.Proofs.Ytggidakiflnhhaa
open Go.ChangeShapes Go.WideShapes Go.ChangeAt Go.RowKit
set_option maxRecDepth 100000
set_option linter.unusedVariables false
theorem choose_all {α : Type} {n : Nat} {p : Nat → α → Prop} (h : ∀ i, i < n → ∃ y, p i y) : ∃ ys : List α, ys.length = n ∧ ∀ i (hi : i < ys.length), p i ys[i] := by
  induction n with
  | zero => exact ⟨[], rfl, fun i hi => by simp at hi⟩
  | succ n ih =>
    obtain ⟨ys, hl, hy⟩ := ih (fun i hi => h i (by omega))
    obtain ⟨y, hp⟩ := h n (by omega)
    refine ⟨ys ++ [y], by simp [hl], fun i hi => ?_⟩
    by_cases e : i < ys.length
    · rw [List.getElem_append_left e]; exact hy i e
    · have : i = n := by simp at hi; omega
      subst this
      rw [List.getElem_append_right (by omega)]
      simpa [hl] using hp
/-- a slice whose elements read by a law of their own; its datum has as many elements -/
theorem open_rows {α : Type} (enc' : α → List Value) (good : α → Prop) {sz : Nat} {H : Type} {enc : TypeId × Value → H} {P : Program} {w : World} {base : Nat} {spare : Nat → Bool} {held : Bool} {t e : TypeId} {fuel : Nat} {A0 : Option Addr} {n0 c0 : Nat} {x : DataW H × List MemPlace}
    (ht : P.underlying t = some (.slice e)) (hc : P.cellsOf e = sz) (h : DataW.trod enc P w base spare held fuel t [.slice A0 n0 c0] = some x)
    (hel : ∀ n cs' y, cs'.length = sz → DataW.trod enc P w base spare held n e cs' = some y → ∃ y : α, enc' y = cs' ∧ good y) :
    ∃ xs : List α, xs.length = n0 ∧ Rd enc' sz w A0 xs ∧ (∀ y ∈ xs, good y) ∧ (n0 = 0 ∨ ∃ elems spare, x.1 = .slice elems spare ∧ elems.length = n0) := by
  rcases Go.Deep.open_slice ht h with ⟨hcs, _⟩ | ⟨a, len, cap, m, n, D, Pl, hcs, hb, hl, hm, hmm, hxx, hx⟩
  · simp only [List.cons.injEq, Value.slice.injEq, and_true] at hcs
    obtain ⟨rfl, rfl, rfl⟩ := hcs
    exact ⟨[], rfl, Rd.nil _ _ _ _, fun y hy => by simp at hy, .inl rfl⟩
  · simp only [List.cons.injEq, Value.slice.injEq, and_true] at hcs
    obtain ⟨rfl, rfl, rfl⟩ := hcs
    have hlm : n0 ≤ m := by rw [hmm]; split <;> omega
    obtain ⟨ys, hys, hy⟩ := choose_all (n := n0) (p := fun i (y : α) => good y ∧ ∀ j v, (enc' y)[j]? = some v → w.cell? (a.add (i * sz + j)) = some v) (fun i hi => by
      obtain ⟨cs', h1, h2⟩ := hx i (by omega)
      rw [hc] at h1
      obtain ⟨_, hlen, hcell⟩ := World.cells?_some h1
      obtain ⟨y, rfl, hg⟩ := hel n cs' _ hlen h2
      refine ⟨y, hg, fun j v hv => ?_⟩
      have hj : j < sz := by rw [← hlen]; exact (List.getElem?_eq_some_iff.1 hv).1
      have := hcell j hj
      rw [Go.Deep.add_add] at this
      rw [this]; exact hv)
    refine ⟨ys, hys, ⟨by simp only [maxLen] at hm; omega, fun k hk => ⟨a, rfl, (hy k hk).2⟩⟩, fun y hm => ?_, .inr ⟨_, _, by rw [hxx], by simp⟩⟩
    obtain ⟨i, hi, rfl⟩ := List.mem_iff_getElem.1 hm
    exact (hy i hi).1
theorem own : ownKnob Try.prog.godebug = none := by kernel_rfl
theorem laid : laidOutB Try.prog = true := by kernel_rfl
theorem post_kept {H : Type} {enc : TypeId × Value → H} {P : Program} {f : Func} {s : ChangeSpec} {apart fresh handsOn : Bool} {W W' : World} {args : Array Value} {v : Value} {ds gs : List (DataW H)} {before pa pv : List MemPlace}
    (hW : DataW.Whole enc P f.params.toList s.vars apart W args.toList ds gs before)
    (hres : ∀ (b : Nat) (sp : Nat → Bool) (hd : Bool), DataW.TrodAll enc P W' b sp hd f.resultTypes.toList (v.resultList f.resultTypes.size) (s.fn H (ds ++ gs)).results [])
    (hargs : (∀ p ∈ before, p.block < W.heap.size) → DataW.TrodAll enc P W' 0 (fun b => decide (b < W.heap.size)) true f.params.toList args.toList (s.fn H (ds ++ gs)).args pa)
    (hvars : ∀ sp : Nat → Bool, (∀ p ∈ before, sp p.block = true) → DataW.TrodVars enc P W' sp s.vars (s.fn H (ds ++ gs)).vars pv)
    (hps : before = pa ++ pv) (hk : W.keptBut W' (· ∈ before)) : s.post enc P f apart fresh handsOn false W args v W' := by
  have hold : ∀ p ∈ before, (fun b => decide (b < W.heap.size)) p.block = true := fun p hp => by simpa using hW.lt p hp
  refine ⟨ds, gs, before, [], pa, pv, hW, hres _ _ _, hargs (fun p hp => hW.lt p hp), hvars _ hold, World.keptBut_mono (fun p hp => ⟨hp, ?_⟩) hk, fun h => Bool.noConfusion h⟩
  rw [hps, List.mem_append] at hp
  exact Or.inr hp

theorem cells23 : Try.prog.cellsOf 23 = 4 := by kernel_rfl
theorem cells63 : Try.prog.cellsOf 63 = 4 := by kernel_rfl
theorem cells3 : Try.prog.cellsOf 3 = 1 := by kernel_rfl
theorem bytes63 : Try.prog.bytesOf 63 = 32 := by kernel_rfl
theorem read23 : Try.prog.readableRec 23 = true := by kernel_rfl
theorem row23 : 23 < Try.prog.types.size := of_decide_eq_true (by kernel_rfl)
theorem read24 : Try.prog.readableRec 24 = true := by kernel_rfl
theorem row24 : 24 < Try.prog.types.size := of_decide_eq_true (by kernel_rfl)
def okP (_ : Op) : Prop := True
theorem four23 {H : Type} {enc : TypeId × Value → H} {w : World} {base : Nat} {spare : Nat → Bool} {held : Bool} (n : Nat) (cs' : List Value) (y : DataW H × List MemPlace) (hl : cs'.length = 4) (h : DataW.trod enc Try.prog w base spare held n 23 cs' = some y) :
    ∃ t p q r, cs' = [.int .i64 t, .int .i64 p, .int .i64 q, .int .i64 r] := by
  obtain ⟨xs, k, rfl, _, _, hxl, hf⟩ := DataW.trod_struct Try.underlying23 h
  match cs', hl with
  | [v0, v1, v2, v3], _ =>
    have g0 := hf 0 _ rfl
    have g1 := hf 1 _ rfl
    have g2 := hf 2 _ rfl
    have g3 := hf 3 _ rfl
    simp [cells3] at g0 g1 g2 g3
    match xs, hxl with
    | [y0, y1, y2, y3], _ =>
      simp at g0 g1 g2 g3
      obtain ⟨t, e0, _, w0⟩ := DataW.trod_int Try.underlying3 g0
      obtain ⟨p, e1, _, w1⟩ := DataW.trod_int Try.underlying3 g1
      obtain ⟨q, e2, _, w2⟩ := DataW.trod_int Try.underlying3 g2
      obtain ⟨r, e3, _, w3⟩ := DataW.trod_int Try.underlying3 g3
      simp at e0 e1 e2 e3
      subst e0 e1 e2 e3
      exact ⟨t, p, q, r, rfl⟩
theorem four63 {H : Type} {enc : TypeId × Value → H} {w : World} {base : Nat} {spare : Nat → Bool} {held : Bool} (n : Nat) (cs' : List Value) (y : DataW H × List MemPlace) (hl : cs'.length = 4) (h : DataW.trod enc Try.prog w base spare held n 63 cs' = some y) :
    ∃ t p q r, cs' = [.int .i64 t, .int .i64 p, .int .i64 q, .int .i64 r] := by
  obtain ⟨xs, k, rfl, _, _, hxl, hf⟩ := DataW.trod_struct Try.underlying63 h
  match cs', hl with
  | [v0, v1, v2, v3], _ =>
    have g0 := hf 0 _ rfl
    have g1 := hf 1 _ rfl
    have g2 := hf 2 _ rfl
    have g3 := hf 3 _ rfl
    simp [cells3] at g0 g1 g2 g3
    match xs, hxl with
    | [y0, y1, y2, y3], _ =>
      simp at g0 g1 g2 g3
      obtain ⟨t, e0, _, w0⟩ := DataW.trod_int Try.underlying3 g0
      obtain ⟨p, e1, _, w1⟩ := DataW.trod_int Try.underlying3 g1
      obtain ⟨q, e2, _, w2⟩ := DataW.trod_int Try.underlying3 g2
      obtain ⟨r, e3, _, w3⟩ := DataW.trod_int Try.underlying3 g3
      simp at e0 e1 e2 e3
      subst e0 e1 e2 e3
      exact ⟨t, p, q, r, rfl⟩
theorem el63 {H : Type} {enc : TypeId × Value → H} {w : World} {base : Nat} {spare : Nat → Bool} {held : Bool} (n : Nat) (cs' : List Value) (y : DataW H × List MemPlace) (hl : cs'.length = 4) (h : DataW.trod enc Try.prog w base spare held n 63 cs' = some y) : ∃ m : Op, encP m = cs' ∧ okP m := by
  obtain ⟨t, p, q, r, rfl⟩ := four63 n cs' y hl h
  exact ⟨⟨t, p, q, r⟩, rfl, trivial⟩
theorem open_cfg {H : Type} {enc : TypeId × Value → H} {w : World} {base : Nat} {spare : Nat → Bool} {held : Bool} {rc : Go.Reach} {b0 : Nat} {v : Value} {d : DataW H} {p : List MemPlace} (hv : Value.okWide Try.prog w rc b0 23 v) (h : DataW.Trod enc Try.prog w base spare held 23 v d p) : ∃ ca : Cf, v = ca.val := by
  obtain ⟨cs, rfl, hsz⟩ := okWide_struct Try.underlying23 hv
  rw [cells23] at hsz
  obtain ⟨fuel, hf⟩ := h
  have hf' : DataW.trod enc Try.prog w base spare held fuel 23 cs.toList = some (d, p) := by simpa [Value.cells] using hf
  obtain ⟨t, pp, q, r, e⟩ := four23 fuel cs.toList _ (by simpa using hsz) hf'
  refine ⟨⟨t, pp, q, r⟩, ?_⟩
  have : cs = #[.int .i64 t, .int .i64 pp, .int .i64 q, .int .i64 r] := by
    cases cs with
    | mk ls => simp at e; rw [e]
  rw [this]
end Go.Proofs.Ytggidakiflnhhaa
/- At every input 'raddlelaw26.CacheRaces' returns true, and each argument reads behind the call as it read before. There is no condition. -/
namespace Go.Proofs.Ytggidakiflnhhaa.cacheRaces
open Go.ChangeShapes Go.WideShapes Go.ChangeAt Go.RowKit
set_option linter.unusedVariables false
set_option linter.unusedSimpArgs false
/-! ### THE ROW's STEP -/
set_option maxRecDepth 100000 in
theorem lifted (os : Os) (started : os.Started) (H : Type) (enc : TypeId × Value → H) :
    ReturnsInHanded {} Try.checked os 6 .any (Rows.cacheRacesSpec.pre6 enc Try.prog Try.f6 Rows.cacheRacesRow.domain false) (Rows.cacheRacesSpec.post enc Try.prog Try.f6 false true false false) := by
  refine returnsInHanded_of_change_sized (C := Try.checked) own started (by kernel_rfl) Try.func6
    (ChangeSpec.witness6 (enc := enc) (C := Try.checked) false ⟨#[], #[.agg #[.int .i64 0, .int .i64 0, .int .i64 0, .int .i64 0], .slice none 0 0], []⟩ 8 (by kernel_rfl) (by kernel_rfl) (by kernel_rfl) (by kernel_rfl)) ?_
  intro W base args ds gs before hval0 hW hcnd hsz0 _
  have hval : ∀ (j : Nat) t v, Try.f6.params[j]? = some t → args[j]? = some v → Value.okWide Try.prog W .any base t v := hval0
  have hsz : (DataW.weightsEach Try.prog (Try.f6.params.toList ++ Rows.cacheRacesSpec.plain.varTypes Try.prog) (ds ++ gs)).all (· ≤ reachBytes) = true := hsz0
  have hW' := hW
  obtain ⟨p, q, hA0, hV, rfl, hfz, hnd⟩ := hW
  have hA : DataW.TrodAll enc Try.prog W 0 (fun _ => true) true Try.f6.params.toList args.toList ds p := hA0
  rw [Try.params6] at hA hval hsz
  obtain ⟨v0, vs0, d0, ds0, p0, q0, hargs, rfl, rfl, h0, r0⟩ := trodAll_cons hA
  obtain ⟨v1, vs1, d1, ds1, p1, q1, rfl, rfl, rfl, h1, r1⟩ := trodAll_cons r0
  obtain ⟨rfl, rfl, rfl⟩ := trodAll_nil r1
  obtain rfl : args = #[v0, v1] := by cases args; simp_all
  obtain ⟨rfl, rfl⟩ := trodVars_none hV
  obtain ⟨ca, rfl⟩ := open_cfg (hval 0 23 v0 rfl rfl) h0
  obtain ⟨M1, n1, c1, rfl⟩ := okWide_slice Try.underlying24 (hval 1 24 v1 rfl rfl)
  have h1' := h1
  obtain ⟨fuel1, hf1⟩ := h1'
  obtain ⟨l1, rfl, hM1, hok1, hlen1⟩ := open_rows encP okP Try.underlying24 cells63 (by simpa [Value.cells] using hf1) el63
  clear hA0 hval0 hsz0
  simp only [List.append_nil, List.nil_append] at hW'
  refine (cacheRaces_calls ca l1 M1 c1 W hM1).mono fun e W' ⟨he, hg⟩ => ?_
  subst he
  exact ⟨_, rfl, post_kept (pa := p0 ++ (p1)) (pv := []) hW' (fun _ _ _ => (trodAll_cons_mk (shut_bool Try.underlying4 _) trodAll_mk0)) (fun hlt => by
      have := trodAll_cons_mk (Below.trod laid read23 row23 h0 hg (fun x hx => hlt x (by simp [hx]))) (trodAll_cons_mk (Below.trod laid read24 row24 h1 hg (fun x hx => hlt x (by simp [hx]))) trodAll_mk0)
      simp only [List.append_nil, List.nil_append] at this
      exact this) (fun _ _ => rfl) (by simp)
    (hg.frame _)⟩

theorem over : Rows.cacheRacesRow.holds Try.pinned (OpenSpec.ofChange Rows.cacheRacesSpec) :=
  OpenClaim.holds_of_wide 6 Try.f6 rfl rfl rfl rfl rfl rfl rfl ⟨rfl, rfl, rfl, rfl, rfl⟩ rfl rfl rfl rfl rfl (by kernel_rfl) Try.func6 (by kernel_rfl)
    (of_decide_eq_true (by kernel_rfl)) (by unfold Func.isWrapper; first | (rw [if_pos (by decide +kernel)]; kernel_rfl) | (rw [if_neg (by decide +kernel)]; exact ⟨rfl, rfl⟩))
    (fun os started H enc _ => lifted os started H enc)

/-- ████ THE STATEMENT ████ -/
theorem proved : Rows.CacheRacesSaid :=
  over
end Go.Proofs.Ytggidakiflnhhaa.cacheRaces
