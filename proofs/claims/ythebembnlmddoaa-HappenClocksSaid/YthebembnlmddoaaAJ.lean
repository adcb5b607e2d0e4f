import Derived.Test.YthebembnlmddoaaAI
import Derived.Test.YthebembnlmddoaaAE
namespace Go.Proofs.Ythebembnlmddoaa
open Go.RowKit Go.Shelf
attribute [local go_sem] Oper.semAt_some
set_option maxHeartbeats 8000000
set_option maxRecDepth 100000
set_option linter.unusedSimpArgs false
set_option linter.unusedVariables false

abbrev encRC (x : Nat × Nat) : List Value := [.int .i64 (x.1 : Int), .int .i64 (x.2 : Int)]
theorem lenRC (x : Nat × Nat) : (encRC x).length = 2 := rfl
theorem oneRC (x : Nat × Nat) : ∀ u ∈ encRC x, u.oneCell' = true := fun u hu => by
  simp at hu
  rcases hu with rfl | rfl <;> rfl
theorem info29 : (Try.prog.info? 29).map (fun i => (i.zero, i.size, i.bytes)) = some (some (.agg #[.int .i64 0, .int .i64 0]), 2, 16) := by kernel_rfl
/-- append of some elements, told of elements and of the block, in a walk between fences -/
theorem wpListIn_append_told {α : Type} {F : Fence} {N : Nat} {P : Program} {enc : α → List Value} {sz : Nat} (hs : ∀ x, (enc x).length = sz) (h1 : ∀ x, ∀ u ∈ enc x, u.oneCell' = true)
    (w : World) {ops : Array Oper} {rest : List Oper} {o : Oper} {a : Act} {Q : Exit → Act → World → Prop} (hgd : o.guard = none) (s x : Operand) (t : TypeId)
    (ho : o.op = .call { callee := .builtin .append, args := #[s, x], argTypes := #[t, t] })
    (base : Nat) (e : TypeId) (z : Value) (bytes : Nat) (ht : P.underlying t = some (.slice e)) (hinfo : (P.info? e).map (fun i => (i.zero, i.size, i.bytes)) = some (some z, sz, bytes))
    (hzs : z.cells.size = sz) (hsz : 0 < sz) (hb0 : 0 < bytes)
    (v : Value) (xs : List α) (n : Nat) (hn : xs.length = n) (hv : a.eval s = v) (hown : Own enc sz e w base v xs)
    (ad : Addr) (m c : Nat) (ys : List α) (hx : a.eval x = .slice (some ad) m c) (hm : ys.length = m) (hm0 : 0 < m) (hr : Rd enc sz w (some ad) ys)
    (hbytes : (n + m) * bytes ≤ 140737488355328) (hbase : base ≤ w.heap.size)
    (h : ∀ g cap w', Own enc sz e w' base (.slice (some ⟨g, 0, none⟩) (n + m) cap) (xs ++ ys) → w.grownBy w' v.ownBlock → (v.ownBlock = some g ∨ g = w.heap.size) → wpListIn F N P ops Q rest (a.put o.dst (.slice (some ⟨g, 0, none⟩) (n + m) cap)) w') : wpListIn F N P ops Q (o :: rest) a w := by
  subst hm
  subst hn
  obtain ⟨i0, hi, hz0, hz1, hz2⟩ := info_parts hinfo
  have h63 : xs.length + ys.length ≤ maxLen := by
    have : xs.length + ys.length ≤ (xs.length + ys.length) * bytes := Nat.le_mul_of_pos_right _ hb0
    simp only [maxLen]
    omega
  obtain ⟨g, cap, w', hr1, ho1, hg1, hg2, hg3⟩ := run_append_lies (P := P) w t o.type base e i0 z sz bytes ht hi hz0 hz1 hz2 hzs hsz v xs.length (xs.flatMap enc) hown ad ys.length c (ys.flatMap enc) (flat_length hs ys) (hr.news hs)
    (fun u hu => by obtain ⟨y, _, hy⟩ := List.mem_flatMap.1 hu; exact h1 y u hy) hm0 h63 hbytes hbase _ rfl
  refine wpListIn_plain hgd fun K hK => ?_
  unfold Oper.wpIn
  refine ⟨?_, ?_⟩
  · simp [Oper.about, ho, resolve, Target.leads, Sem.run_pure]
  · rw [Oper.semAt_plain F _ _ (by rw [ho]; intro c hc'; cases hc')]
    simp only [execOp, ho, resolve, invoke, builtin, Sem.run_bind, Sem.run_pure, Result.andThen_ok, List.map_toArray, List.map_cons, List.map_nil, hv, hx, hr1]
    refine hK _ _ (h g cap w' ?_ hg1 hg2)
    unfold Own
    rw [List.length_append, List.flatMap_append]
    exact ho1
theorem Ck.keptX {w w' : World} {base bo : Nat} {A : Option Addr} {c : Nat} {l : List Ev} {cb : Nat} {cs : Array Value} (h : Ck w base A c l cb) (hg : w.grownBy w' (some bo)) (hbo : w.heap[bo]? = some (.cells cs 64 (0, 0))) : Ck w' base A c l cb := by
  obtain ⟨mi, AA, h1, h2, h3⟩ := h
  have hno : NoRow w bo := by
    intro cs' h
    rw [hbo] at h
    cases h
  refine ⟨mi, AA, (hg.block cb (Array.getElem?_eq_some_iff.1 h1).1 ?_).trans h1, h2.kept hg ?_, h3.kept hg hno (h3.apart (fun cs' h => by rw [hbo] at h; cases h))⟩
  · intro e
    cases e
    rw [hbo] at h1
    cases h1
  · intro e
    cases e
    obtain ⟨f, hm, _⟩ := h2
    obtain ⟨es, ck, hh⟩ := hm.obj
    rw [hbo] at hh
    cases hh
theorem Rd.keptX {α : Type} {enc : α → List Value} {sz : Nat} {w0 w w' : World} {n0 bo : Nat} {A : Option Addr} {xs : List α} (h : Rd enc sz w0 A xs) (hb : Below w0.heap.size w0 w) (hx : BelX n0 bo w w') (hn : w0.heap.size ≤ n0) (hbo : w0.heap.size ≤ bo) : Rd enc sz w' A xs :=
  ⟨h.small, fun k hk => by
    obtain ⟨a, ha, hc⟩ := h.cell k hk
    refine ⟨a, ha, fun j v hv => ?_⟩
    have hlt := World.block_lt_of_cell? w0 _ (hc j v hv)
    exact (hx.cell (by omega) (by omega)).trans ((hb.cell hlt).trans (hc j v hv))⟩
/-- the iterator over races keeps its contract, where a row behind a box grows -/
theorem races_stopsX (bx bo cb base : Nat) (w00 : World) (l : List Ev) (hok : ∀ e ∈ l, e.ok) (A : Option Addr) (c : Nat) (hcap : l.length ≤ c) (n : Nat) (hn : 3 ≤ n) (w : World) (hbo : bx ≠ bo) {cs : Array Value} (hbb : w.heap[bo]? = some (.cells cs 64 (0, 0)))
    (hbx : w.cell? ⟨bx, 0, none⟩ = some (.pointer (some ⟨cb, 0, none⟩))) (hR : Rd encE 11 w00 A l) (hlow : Below w00.heap.size w00 w) (hbo0 : w00.heap.size ≤ bo) (hC : Ck w base A c l cb) :
    SeqStopsK Fence.wide n Try.prog 56 #[.pointer (some ⟨bx, 0, none⟩)] encR (KrX w.heap.size bo) (fun ys => ys = racesF l) (fun pre => pre <+: racesF l) (racesF l).length w := by
  intro ll J Jx W hW hJ hJx hY h0
  have hb0 : bx < w.heap.size := World.block_lt_of_cell? _ _ hbx
  have hl0 := hlow.size
  exact races1_inX n hn ll w.heap.size bo bx cb base hbo l hok A c hcap J Jx W.heap.size hJ hY W hW.size ((hW.cell (p := ⟨bx, 0, none⟩) hb0).trans hbx) hb0
    (fun W' hb => by
      have hx : BelX w.heap.size bo w W' := (BelX.of hW).trans hb
      exact ⟨hR.keptX hlow hx hl0 hbo0, hC.keptX hx.grown hbb⟩) h0
/-- what the results and the list of races are, in memory -/
structure RS (W : World) (n0 r bo : Nat) (v : Value) (k : Int) (S : Option Addr) (n c : Nat) (xs : List (Nat × Nat)) : Prop where
  r0 : W.heap[r]? = some (.cells #[v] 64 (0, 0))
  r1 : W.heap[r + 1]? = some (.cells #[.int .i64 k] 30 (0, 0))
  b0 : W.heap[bo]? = some (.cells #[.slice S n c] 64 (0, 0))
  own : Own encRC 2 29 W n0 (.slice S n c) xs
  d : r ≠ bo ∧ r + 1 ≠ bo
theorem own_book {α : Type} {enc : α → List Value} {sz : Nat} {e : TypeId} {W W' : World} {base : Nat} {v : Value} {xs : List α} {row : Option Nat} (h : Own enc sz e W base v xs) (hg : W.grownBy W' row) (hrow : ∀ r, row = some r → ∃ o : Obj, W.heap[r]? = some o ∧ o.isCells = false) : Own enc sz e W' base v xs := by
  refine h.grown hg ?_
  cases hv : v.ownBlock with
  | none => exact .inl rfl
  | some b =>
    right
    intro e
    obtain ⟨o, h1, h2⟩ := hrow b e.symm
    obtain ⟨_, _, cur, h3⟩ := h.blk b hv
    rw [h1] at h3
    cases h3
    cases h2
theorem RS.book {W W' : World} {n0 r bo : Nat} {v : Value} {k : Int} {S : Option Addr} {n c : Nat} {xs : List (Nat × Nat)} {row : Option Nat} (h : RS W n0 r bo v k S n c xs) (hg : W.grownBy W' row) (hrow : ∀ r, row = some r → ∃ o : Obj, W.heap[r]? = some o ∧ o.isCells = false) : RS W' n0 r bo v k S n c xs :=
  ⟨blk_kept h.r0 rfl hg hrow, blk_kept h.r1 rfl hg hrow, blk_kept h.b0 rfl hg hrow, own_book h.own hg hrow, h.d⟩
theorem RS.below {W W' : World} {n0 r bo : Nat} {v : Value} {k : Int} {S : Option Addr} {n c : Nat} {xs : List (Nat × Nat)} (h : RS W n0 r bo v k S n c xs) (hb : Below W.heap.size W W') : RS W' n0 r bo v k S n c xs :=
  ⟨(hb.block _ (Array.getElem?_eq_some_iff.1 h.r0).1).trans h.r0, (hb.block _ (Array.getElem?_eq_some_iff.1 h.r1).1).trans h.r1, (hb.block _ (Array.getElem?_eq_some_iff.1 h.b0).1).trans h.b0, h.own.rest hb, h.d⟩
theorem RS.push {U U1 w9 : World} {n0 r bo : Nat} {v : Value} {k : Int} {S : Option Addr} {n c : Nat} {xs : List (Nat × Nat)} (h : RS U n0 r bo v k S n c xs) (hn : n0 ≤ U.heap.size) (hb : Below U.heap.size U U1) {g cap : Nat} {x : Nat × Nat}
    (ho : Own encRC 2 29 w9 n0 (.slice (some ⟨g, 0, none⟩) (n + 1) cap) (xs ++ [x])) (hg : U1.grownBy w9 (Value.slice S n c).ownBlock) :
    w9.heap[bo]? = some (.cells #[.slice S n c] 64 (0, 0)) ∧ RS (w9.setCell ⟨bo, 0, none⟩ (.slice (some ⟨g, 0, none⟩) (n + 1) cap)) n0 r bo v k (some ⟨g, 0, none⟩) (n + 1) cap (xs ++ [x]) ∧
    KeepsOthers U1 (w9.setCell ⟨bo, 0, none⟩ (.slice (some ⟨g, 0, none⟩) (n + 1) cap)) ∧ KrX n0 bo U (w9.setCell ⟨bo, 0, none⟩ (.slice (some ⟨g, 0, none⟩) (n + 1) cap)) ∧ (∀ B w, B ≤ n0 → B ≤ bo → Below B w U → Below B w (w9.setCell ⟨bo, 0, none⟩ (.slice (some ⟨g, 0, none⟩) (n + 1) cap))) := by
  have h1 := h.below hb
  have ne64 := own_apart h1.own h1.b0 (by decide)
  have ner := own_apart h1.own h1.r0 (by decide)
  have ne30 := own_apart h1.own h1.r1 (by decide)
  have b9 := (hg.block bo (Array.getElem?_eq_some_iff.1 h1.b0).1 ne64).trans h1.b0
  have r9 := (hg.block r (Array.getElem?_eq_some_iff.1 h1.r0).1 ner).trans h1.r0
  have q9 := (hg.block (r + 1) (Array.getElem?_eq_some_iff.1 h1.r1).1 ne30).trans h1.r1
  have hsx : ∀ i, i ≠ bo → (w9.setCell ⟨bo, 0, none⟩ (.slice (some ⟨g, 0, none⟩) (n + 1) cap)).heap[i]? = w9.heap[i]? := fun i hi => heap_setCell_other _ _ _ _ hi
  have hb9 : Below n0 U w9 := (hb.mono hn).grown hg (Nat.le_trans hn hb.size) (fun q hq => (h1.own.blk q hq).1)
  refine ⟨b9, ⟨?_, ?_, ?_, ?_, h.d⟩, ?_, ⟨?_, ?_⟩, ?_⟩
  · rw [hsx _ h.d.1]; exact r9
  · rw [hsx _ h.d.2]; exact q9
  · have := heap_setCell_same w9 bo 0 _ _ (.slice (some ⟨g, 0, none⟩) (n + 1) cap) b9
    exact this
  · refine ho.grown (grownBy_setCell' w9 bo _) (.inr ?_)
    intro e
    have e1 : g = bo := Option.some.inj e
    subst e1
    obtain ⟨_, _, cur, h3⟩ := ho.blk g rfl
    rw [b9] at h3
    cases h3
  · refine (KeepsOthers.of_grownBy hg (fun j o hj ho => ?_)).trans (KeepsOthers.setCell _ _ _)
    obtain ⟨_, _, cur, h3⟩ := h1.own.blk j hj
    rw [h3] at ho
    cases ho
    rfl
  · exact (BelX.of hb9).trans (BelX.ofGrown (grownBy_setCell' w9 bo _) (Nat.le_trans hn hb9.size))
  · intro i cs fr hi
    have hib : i ≠ bo := by
      rintro rfl
      rw [h.b0] at hi
      cases hi
    rw [hsx i hib]
    have hi1 := (hb.block i (Array.getElem?_eq_some_iff.1 hi).1).trans hi
    refine (hg.block i (Array.getElem?_eq_some_iff.1 hi1).1 ?_).trans hi1
    intro e
    obtain ⟨_, _, cur, h3⟩ := h1.own.blk i e.symm
    rw [hi1] at h3
    cases h3
  · intro B w hB hBo hw
    exact (hw.trans (hb9.mono hB)).setCell hBo _
end Go.Proofs.Ythebembnlmddoaa
