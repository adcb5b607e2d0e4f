import Derived.Test.YthebembnlmddoaaI
namespace Go.Proofs.Ythebembnlmddoaa
open Go.RowKit
set_option maxHeartbeats 1000000
set_option maxRecDepth 100000
set_option linter.unusedSimpArgs false
set_option linter.unusedVariables false

/-- the same, where only the new elements are known to be of one cell each -/
theorem wpList_append_toldY {α : Type} {P : Program} {enc : α → List Value} {sz : Nat} (hs : ∀ x, (enc x).length = sz)
    (w : World) {ops : Array Oper} {rest : List Oper} {o : Oper} {a : Act} {Q : Exit → Act → World → Prop} (hgd : o.guard = none) (s x : Operand) (t : TypeId)
    (ho : o.op = .call { callee := .builtin .append, args := #[s, x], argTypes := #[t, t] })
    (base : Nat) (e : TypeId) (z : Value) (bytes : Nat) (ht : P.underlying t = some (.slice e)) (hinfo : (P.info? e).map (fun i => (i.zero, i.size, i.bytes)) = some (some z, sz, bytes))
    (hzs : z.cells.size = sz) (hsz : 0 < sz) (hb0 : 0 < bytes)
    (v : Value) (xs : List α) (n : Nat) (hn : xs.length = n) (hv : a.eval s = v) (hown : Own enc sz e w base v xs)
    (ad : Addr) (m c : Nat) (ys : List α) (hx : a.eval x = .slice (some ad) m c) (hm : ys.length = m) (hm0 : 0 < m) (h1 : ∀ x ∈ ys, ∀ u ∈ enc x, u.oneCell' = true) (hr : Rd enc sz w (some ad) ys)
    (hbytes : (n + m) * bytes ≤ 140737488355328) (hbase : base ≤ w.heap.size)
    (h : ∀ g cap w', Own enc sz e w' base (.slice (some ⟨g, 0, none⟩) (n + m) cap) (xs ++ ys) → w.grownBy w' v.ownBlock → (v.ownBlock = some g ∨ g = w.heap.size) → wpList P ops Q rest (a.put o.dst (.slice (some ⟨g, 0, none⟩) (n + m) cap)) w') : wpList P ops Q (o :: rest) a w := by
  subst hm
  subst hn
  obtain ⟨i0, hi, hz0, hz1, hz2⟩ := info_parts hinfo
  have h63 : xs.length + ys.length ≤ maxLen := by
    have : xs.length + ys.length ≤ (xs.length + ys.length) * bytes := Nat.le_mul_of_pos_right _ hb0
    simp only [maxLen]
    omega
  obtain ⟨g, cap, w', hr1, ho1, hg1, hg2, hg3⟩ := run_append_lies (P := P) w t o.type base e i0 z sz bytes ht hi hz0 hz1 hz2 hzs hsz v xs.length (xs.flatMap enc) hown ad ys.length c (ys.flatMap enc) (flat_length hs ys) (hr.news hs)
    (fun u hu => by obtain ⟨y, hm, hy⟩ := List.mem_flatMap.1 hu; exact h1 y hm u hy) hm0 h63 hbytes hbase _ rfl
  refine wpList_plain hgd fun K hK => ?_
  unfold Oper.wp execOp
  simp only [ho, resolve, invoke, builtin, Sem.run_bind, Sem.run_pure, Result.andThen_ok, List.map_toArray, List.map_cons, List.map_nil, hv, hx, hr1]
  refine hK _ _ (h g cap w' ?_ hg1 hg2)
  unfold Own
  rw [List.length_append, List.flatMap_append]
  exact ho1

/-- what newClocks holds while it makes the clocks -/
structure Tb (w0 : World) (A : Option Addr) (c : Nat) (l : List Ev) (mi cb mt mp K : Nat) (T : Int → Option (List Int)) (P : Int × Int × Int → Option (List Int)) (As : List (List Int)) (nt np na : Nat) (wr : World) : Prop where
  low : Below w0.heap.size w0 wr
  ix : IxM wr mi l.length (tkF l)
  tm : TabM 3 kI okI wr w0.heap.size K mt nt T
  pm : TabM 37 kP okP wr w0.heap.size K mp np P
  cc : ∃ S cp, wr.heap[cb]? = some (.cells #[.slice A l.length c, .map (some mi), .slice S na cp] 95 (0, 0)) ∧ AllV wr w0.heap.size K (.slice S na cp) As
  d1 : mi ≠ mt
  d2 : mi ≠ mp
  d3 : mt ≠ mp
  bi : w0.heap.size ≤ mi
  bt : w0.heap.size ≤ mt
  bp : w0.heap.size ≤ mp
  bc : w0.heap.size ≤ cb
section
variable {w0 : World} {A : Option Addr} {c : Nat} {l : List Ev} {mi cb mt mp K : Nat} {T : Int → Option (List Int)} {P : Int × Int × Int → Option (List Int)} {As : List (List Int)} {nt np na : Nat} {wr : World}
theorem Tb.rest (h : Tb w0 A c l mi cb mt mp K T P As nt np na wr) {w' : World} (hb : Below wr.heap.size wr w') : Tb w0 A c l mi cb mt mp K T P As nt np na w' := by
  obtain ⟨S, cp, h1, h2⟩ := h.cc
  exact ⟨h.low.trans (hb.mono h.low.size), h.ix.rest hb, h.tm.rest hb, h.pm.rest hb, ⟨S, cp, (hb.block _ (Array.getElem?_eq_some_iff.1 h1).1).trans h1, h2.rest hb⟩, h.d1, h.d2, h.d3, h.bi, h.bt, h.bp, h.bc⟩
theorem Tb.cbLt (h : Tb w0 A c l mi cb mt mp K T P As nt np na wr) : cb < wr.heap.size := by
  obtain ⟨S, cp, h1, h2⟩ := h.cc
  exact (Array.getElem?_eq_some_iff.1 h1).1
theorem Tb.cells (h : Tb w0 A c l mi cb mt mp K T P As nt np na wr) : ∃ S cp, wr.cell? ⟨cb, 0, none⟩ = some (.slice A l.length c) ∧ wr.cell? ⟨cb, 1, none⟩ = some (.map (some mi)) ∧ wr.cell? ⟨cb, 2, none⟩ = some (.slice S na cp) ∧ wr.frozen? ⟨cb, 2, none⟩ = false ∧ AllV wr w0.heap.size K (.slice S na cp) As := by
  obtain ⟨S, cp, h1, h2⟩ := h.cc
  refine ⟨S, cp, ?_, ?_, ?_, frozen_of_row _ _ _ _ _ h1, h2⟩
  · rw [cell_of_row _ _ _ _ _ _ h1]; rfl
  · rw [cell_of_row _ _ _ _ _ _ h1]; rfl
  · rw [cell_of_row _ _ _ _ _ _ h1]; rfl
theorem AllV.apart {w : World} {base K X : Nat} {AA : Value} {As : List (List Int)} (h : AllV w base K AA As) (hX : ∀ cs, w.heap[X]? ≠ some (.cells cs 33 (0, 0))) : AA.ownBlock ≠ some X := by
  obtain ⟨vs, h1, h2, h3⟩ := h
  intro e
  obtain ⟨_, _, cur, hc⟩ := h1.blk X e
  exact hX cur hc
theorem MapV.no {κ : Type} {K0 : TypeId} {kl : κ → Lit} {ok : κ → Prop} {w : World} {b n : Nat} {f : κ → Option Value} {cnt : Nat} (h : MapV K0 kl ok w b n f cnt) (t : TypeId) : ∀ cs, w.heap[b]? ≠ some (.cells cs t (0, 0)) := by
  obtain ⟨es, cl, h3⟩ := h.obj
  intro cs e
  rw [h3] at e
  cases e
theorem TabM.no {κ : Type} {K0 : TypeId} {kl : κ → Lit} {ok : κ → Prop} {w : World} {base K b n : Nat} {F : κ → Option (List Int)} (h : TabM K0 kl ok w base K b n F) (t : TypeId) : ∀ cs, w.heap[b]? ≠ some (.cells cs t (0, 0)) := by
  obtain ⟨f, cnt, h1, h2⟩ := h
  exact h1.no t
theorem Tb.putT (h : Tb w0 A c l mi cb mt mp K T P As nt np na wr) (hn : nt < 1000000) (t : Int) (ht : okI t) (v : Value) (row : List Int) (hv : RowV wr w0.heap.size K v row) :
    ∃ w', (Instr.mapUpdate 108 (.map (some mt)) (.int .i64 t) v).run Try.prog wr = .ok () w' ∧ Tb w0 A c l mi cb mt mp K (fun u => if u = t then some row else T u) P As (nt + 1) np na w' ∧ RowV w' w0.heap.size K v row ∧ wr.grownBy w' (some mt) := by
  obtain ⟨w', r1, r2, r3⟩ := h.tm.put kI_inj keyedI Try.underlying108 hn t ht (keyI t ht) v row hv
  have hX := h.tm.obj
  obtain ⟨S, cp, h1, h2⟩ := h.cc
  have hcb : cb ≠ mt := fun e => h.tm.no 95 _ (e ▸ h1)
  exact ⟨w', r1, ⟨h.low.grown r3 h.low.size (fun k hk => by cases hk; exact h.bt), h.ix.kept r3 (fun e => h.d1 (Option.some.inj e)), r2, h.pm.kept r3 hX (fun e => h.d3 e.symm), ⟨S, cp, (r3.block _ (Array.getElem?_eq_some_iff.1 h1).1 (fun e => hcb (Option.some.inj e))).trans h1, h2.kept r3 hX (h2.apart (h.tm.no 33))⟩, h.d1, h.d2, h.d3, h.bi, h.bt, h.bp, h.bc⟩, hv.kept r3 hX, r3⟩
theorem Tb.putP (h : Tb w0 A c l mi cb mt mp K T P As nt np na wr) (hn : np < 1000000) (p : Int × Int × Int) (hp : okP p) (v : Value) (row : List Int) (hv : RowV wr w0.heap.size K v row) :
    ∃ w', (Instr.mapUpdate 109 (.map (some mp)) (plV p) v).run Try.prog wr = .ok () w' ∧ Tb w0 A c l mi cb mt mp K T (fun u => if u = p then some row else P u) As nt (np + 1) na w' ∧ RowV w' w0.heap.size K v row ∧ wr.grownBy w' (some mp) := by
  obtain ⟨w', r1, r2, r3⟩ := h.pm.put kP_inj keyed37 Try.underlying109 hn p hp (keyP p hp) v row hv
  have hX := h.pm.obj
  obtain ⟨S, cp, h1, h2⟩ := h.cc
  have hcb : cb ≠ mp := fun e => h.pm.no 95 _ (e ▸ h1)
  exact ⟨w', r1, ⟨h.low.grown r3 h.low.size (fun k hk => by cases hk; exact h.bp), h.ix.kept r3 (fun e => h.d2 (Option.some.inj e)), h.tm.kept r3 hX h.d3, r2, ⟨S, cp, (r3.block _ (Array.getElem?_eq_some_iff.1 h1).1 (fun e => hcb (Option.some.inj e))).trans h1, h2.kept r3 hX (h2.apart (h.pm.no 33))⟩, h.d1, h.d2, h.d3, h.bi, h.bt, h.bp, h.bc⟩, hv.kept r3 hX, r3⟩
theorem info33 : (Try.prog.info? 33).map (fun i => (i.zero, i.size, i.bytes)) = some (some (.slice none 0 0), 1, 24) := by kernel_rfl
theorem oneO (K : Nat) (g cp : Nat) : ∀ u ∈ encO (.slice (some ⟨g, 0, none⟩) K cp), u.oneCell' = true := fun u hu => by
  simp at hu; subst hu; rfl
theorem Tb.appCell (h : Tb w0 A c l mi cb mt mp K T P As nt np na wr) {S : Option Addr} {cp : Nat} {vs : List Value} (hvs : Own encO 1 33 wr w0.heap.size (.slice S na cp) vs)
    {W w1 : World} (hW : Below wr.heap.size wr W) (hg : W.grownBy w1 (Value.slice S na cp).ownBlock) :
    ∃ v, w1.cell? ⟨cb, 2, none⟩ = some v ∧ w1.frozen? ⟨cb, 2, none⟩ = false := by
  have hW2 := h.rest hW
  obtain ⟨S', cp', h1, h2⟩ := hW2.cc
  have hown := hvs.rest hW
  have e1 : w1.heap[cb]? = some (.cells #[.slice A l.length c, .map (some mi), .slice S' na cp'] 95 (0, 0)) := by
    refine (hg.block _ (Array.getElem?_eq_some_iff.1 h1).1 (fun e => ?_)).trans h1
    obtain ⟨_, _, cur, hc⟩ := hown.blk cb e.symm
    rw [h1] at hc
    cases hc
  exact ⟨_, by rw [cell_of_row _ _ _ _ _ _ e1]; rfl, frozen_of_row _ _ _ _ _ e1⟩
/-- behind the append of a clock and the store of the longer slice -/
theorem Tb.app (h : Tb w0 A c l mi cb mt mp K T P As nt np na wr) {S : Option Addr} {cp : Nat} (hcb : wr.cell? ⟨cb, 2, none⟩ = some (.slice S na cp)) {vs : List Value} (hvs : Own encO 1 33 wr w0.heap.size (.slice S na cp) vs) (hlen : vs.length = As.length)
    (hr : ∀ i (h : i < vs.length) (h' : i < As.length), RowV wr w0.heap.size K vs[i] As[i]) (v : Value) (row : List Int) (hv : RowV wr w0.heap.size K v row)
    {W w1 : World} (hW : Below wr.heap.size wr W) {g' cap : Nat} (ho : Own encO 1 33 w1 w0.heap.size (.slice (some ⟨g', 0, none⟩) (na + 1) cap) (vs ++ [v])) (hg : W.grownBy w1 (Value.slice S na cp).ownBlock) :
    Tb w0 A c l mi cb mt mp K T P (As ++ [row]) nt np (na + 1) (w1.setCell ⟨cb, 2, none⟩ (.slice (some ⟨g', 0, none⟩) (na + 1) cap)) := by
  have hW2 := h.rest hW
  obtain ⟨S', cp', h1, h2⟩ := hW2.cc
  have hown := hvs.rest hW
  -- the written block is no map, no row of numbers, not the pointer's block
  have e1 : w1.heap[cb]? = some (.cells #[.slice A l.length c, .map (some mi), .slice S' na cp'] 95 (0, 0)) := by
    refine (hg.block _ (Array.getElem?_eq_some_iff.1 h1).1 (fun e => ?_)).trans h1
    obtain ⟨_, _, cur, hc⟩ := hown.blk cb e.symm
    rw [h1] at hc
    cases hc
  have keepM : ∀ {κ : Type} {K0 : TypeId} {kl : κ → Lit} {ok : κ → Prop} {b n : Nat} {f : κ → Option Value} {cnt : Nat}, MapV K0 kl ok W b n f cnt → MapV K0 kl ok w1 b n f cnt := by
    intro κ K0 kl ok b n f cnt hm
    refine hm.kept hg (fun e => ?_)
    obtain ⟨_, _, cur, hc⟩ := hown.blk b e.symm
    exact hm.no 33 cur hc
  have keepR : ∀ {u : Value} {r : List Int}, RowV W w0.heap.size K u r → RowV w1 w0.heap.size K u r := by
    intro u r hu
    obtain ⟨g2, cp2, q1, q2, q3⟩ := hu
    refine ⟨g2, cp2, q1, q2, q3.grown hg ?_⟩
    subst q1
    refine Or.inr (fun e => ?_)
    obtain ⟨_, _, cur, hc⟩ := hown.blk g2 e.symm
    obtain ⟨_, _, cur2, hc2⟩ := q3.blk g2 rfl
    rw [hc] at hc2
    cases hc2
  have keepT : ∀ {κ : Type} {K0 : TypeId} {kl : κ → Lit} {ok : κ → Prop} {b n : Nat} {F : κ → Option (List Int)}, TabM K0 kl ok W w0.heap.size K b n F → TabM K0 kl ok w1 w0.heap.size K b n F := by
    intro κ K0 kl ok b n F hm
    obtain ⟨f, cnt, m1, m2⟩ := hm
    refine ⟨f, cnt, keepM m1, fun t ht => ?_⟩
    have := m2 t ht
    cases hF : F t with
    | none => rw [hF] at this; exact this
    | some row => rw [hF] at this; obtain ⟨v, e1, e2⟩ := this; exact ⟨v, e1, keepR e2⟩
  have hlow1 : Below w0.heap.size w0 w1 := hW2.low.grown hg hW2.low.size (fun k hk => (hown.blk k hk).1)
  -- the store into the pointer's block
  have e2 := heap_setCell_same w1 cb 2 _ 95 (.slice (some ⟨g', 0, none⟩) (na + 1) cap) e1
  have hs : w1.grownBy (w1.setCell ⟨cb, 2, none⟩ (.slice (some ⟨g', 0, none⟩) (na + 1) cap)) (some cb) := ⟨rfl, rfl, rfl, by simp [World.setCell], fun k _ hk => heap_setCell_other _ _ _ _ (fun e => hk (by rw [e]))⟩
  have hX : NoRow w1 cb := fun cs e => by rw [e1] at e; cases e
  have hgc : g' ≠ cb := fun e => by
    obtain ⟨_, _, cur, hc⟩ := ho.blk g' rfl
    rw [e, e1] at hc
    cases hc
  have nm : ∀ {κ : Type} {K0 : TypeId} {kl : κ → Lit} {ok : κ → Prop} {b n : Nat} {f : κ → Option Value} {cnt : Nat}, MapV K0 kl ok w1 b n f cnt → b ≠ cb := fun hm e => hm.no 95 _ (e ▸ e1)
  refine ⟨hlow1.setCell h.bc _, ?_, ?_, ?_, ⟨some ⟨g', 0, none⟩, cap, ?_, ?_⟩, h.d1, h.d2, h.d3, h.bi, h.bt, h.bp, h.bc⟩
  · obtain ⟨f, m1, m2⟩ := hW2.ix
    have := keepM m1
    exact ⟨f, this.kept hs (fun e => nm this (Option.some.inj e)), m2⟩
  · have := keepT hW2.tm
    exact this.kept hs hX (by obtain ⟨f, cnt, m1, m2⟩ := this; exact nm m1)
  · have := keepT hW2.pm
    exact this.kept hs hX (by obtain ⟨f, cnt, m1, m2⟩ := this; exact nm m1)
  · rw [e2]; rfl
  · refine ⟨vs ++ [v], ho.grown hs (Or.inr (fun e => hgc (Option.some.inj (show some g' = some cb from e)))), by simp [hlen], fun i hi hi' => ?_⟩
    by_cases e : i < vs.length
    · rw [List.getElem_append_left e, List.getElem_append_left (by omega)]
      exact (keepR ((hr i e (by omega)).rest hW)).kept hs hX
    · have h3 : i = vs.length := by simp at hi; omega
      subst h3
      rw [List.getElem_append_right (by omega), List.getElem_append_right (by omega)]
      simp only [hlen, Nat.sub_self, List.getElem_cons_zero]
      exact (keepR (hv.rest hW)).kept hs hX
theorem TbEq (h : Tb w0 A c l mi cb mt mp K T P As nt np na wr) {T' : Int → Option (List Int)} {P' : Int × Int × Int → Option (List Int)} {As' : List (List Int)} {nt' np' : Nat} (hT : ∀ t, T t = T' t) (hP : ∀ p, P p = P' p) (hA : As = As') (h1 : nt ≤ nt') (h2 : np ≤ np') :
    Tb w0 A c l mi cb mt mp K T' P' As' nt' np' na wr := by
  subst hA
  exact ⟨h.low, h.ix, (h.tm.congr hT).mono h1, (h.pm.congr hP).mono h2, h.cc, h.d1, h.d2, h.d3, h.bi, h.bt, h.bp, h.bc⟩
end
end Go.Proofs.Ythebembnlmddoaa
