import Derived.Test.YtggidakiflnhhaaBD
import Derived.Test.YtggidakiflnhhaaBE
namespace Go.Proofs.Ytggidakiflnhhaa
open Go.RowKit Go.Shelf
attribute [local go_sem] Oper.semAt_some
set_option maxHeartbeats 8000000
set_option maxRecDepth 100000
set_option linter.unusedSimpArgs false
set_option linter.unusedVariables false

/-! ### the marks that ranges over functions leave, where such a range stands within a loop -/
def mkD (D : Nat) : Deferred := { target := .collected D, args := #[] }
structure Mks (n0 : Nat) (Ds : List Nat) (W : World) : Prop where
  nd : Ds.Nodup
  at_ : ∀ D ∈ Ds, n0 ≤ D ∧ W.heap[D]? = some (.deferred (some []))
theorem Mks.nil (n0 : Nat) (W : World) : Mks n0 [] W := ⟨List.nodup_nil, fun D h => by cases h⟩
theorem Mks.lt {n0 : Nat} {Ds : List Nat} {W : World} (h : Mks n0 Ds W) {D : Nat} (hD : D ∈ Ds) : D < W.heap.size := (Array.getElem?_eq_some_iff.1 (h.at_ D hD).2).1
theorem Mks.keep {n0 : Nat} {Ds : List Nat} {W W' : World} (h : Mks n0 Ds W) (hk : ∀ D ∈ Ds, W'.heap[D]? = W.heap[D]?) : Mks n0 Ds W' := ⟨h.nd, fun D hD => ⟨(h.at_ D hD).1, (hk D hD).trans (h.at_ D hD).2⟩⟩
theorem Mks.below {n0 : Nat} {Ds : List Nat} {W W' : World} (h : Mks n0 Ds W) (hb : Below W.heap.size W W') : Mks n0 Ds W' := h.keep (fun D hD => hb.block D (h.lt hD))
/-- what is kept off the cells keeps the marks -/
theorem Mks.others {n0 B : Nat} {Ds : List Nat} {W W' : World} (h : Mks n0 Ds W) (hk : KeepsFrom B W W') (hB : B ≤ n0) : Mks n0 Ds W' :=
  ⟨h.nd, fun D hD => ⟨(h.at_ D hD).1, hk.same D _ (Nat.le_trans hB (h.at_ D hD).1) (h.at_ D hD).2 rfl⟩⟩
theorem Mks.grown {n0 : Nat} {Ds : List Nat} {W W' : World} {row : Option Nat} (h : Mks n0 Ds W) (hg : W.grownBy W' row) (hr : ∀ r, row = some r → W.heap.size ≤ r ∨ ∃ o : Obj, W.heap[r]? = some o ∧ o.isCells = true) : Mks n0 Ds W' :=
  h.keep (fun D hD => hg.block D (h.lt hD) (fun e => by
    rcases hr D e.symm with h1 | ⟨o, h1, h2⟩
    · have := h.lt hD; omega
    · rw [(h.at_ D hD).2] at h1; cases h1; cases h2))
theorem Mks.cons {n0 D : Nat} {Ds : List Nat} {W W' : World} (h : Mks n0 Ds W) (hD : n0 ≤ D) (h1 : W.heap.size ≤ D) (h' : Mks n0 Ds W') (hd : W'.heap[D]? = some (.deferred (some []))) : Mks n0 (D :: Ds) W' :=
  ⟨List.nodup_cons.2 ⟨fun hm => by have := h.lt hm; omega, h.nd⟩, fun E hE => by
    rcases List.mem_cons.1 hE with rfl | hE
    · exact ⟨hD, hd⟩
    · exact h'.at_ E hE⟩
/-- a function that leaves with marks among its deferred calls -/
theorem leaves_marks {F : Fence} {n : Nat} {P : Program} {fn : Func} {tmps : Array Value} {R : Ending → World → Prop} : ∀ (Ds : List Nat) (n0 : Nat) (W : World), Mks n0 Ds W →
    (∀ W' : World, W'.os = W.os → W'.tape = W.tape → W'.output = W.output → W'.heap.size = W.heap.size → (∀ k, k ∉ Ds → W'.heap[k]? = W.heap[k]?) → LeavesIn F n P fn tmps R [] .returning W') →
    LeavesInM F n P fn tmps R (Ds.map mkD) .returning W
  | [], n0, W, _, h => h W rfl rfl rfl rfl (fun _ _ => rfl)
  | D :: Ds, n0, W, hm, h => by
    have hd := (hm.at_ D List.mem_cons_self).2
    have hnd := List.nodup_cons.1 hm.nd
    have ho : ∀ k, k ≠ D → (W.putObj D (.deferred none)).heap[k]? = W.heap[k]? := fun k hk => World.putObj_heap_other hk
    refine ⟨by simp, .inl ⟨D, _, rfl, run_takeDeferred hd, ?_⟩⟩
    refine leaves_marks Ds n0 (W.putObj D (.deferred none)) ⟨hnd.2, fun E hE => ⟨(hm.at_ E (List.mem_cons_of_mem _ hE)).1, (ho E (fun e => hnd.1 (e ▸ hE))).trans (hm.at_ E (List.mem_cons_of_mem _ hE)).2⟩⟩ ?_
    intro W' h1 h2 h3 h4 h5
    have hg := grownBy_putObj' W D (.deferred none)
    refine h W' (h1.trans hg.os) (h2.trans hg.tape) (h3.trans hg.output) (h4.trans (by simp [World.putObj])) (fun k hk => ?_)
    rw [h5 k (fun e => hk (List.mem_cons_of_mem _ e)), ho k (fun e => hk (e ▸ List.mem_cons_self))]

/-! ### Race -/
def raceT (c : Cf) (l : List Op) : Int × Int × Bool × Int := if chkF c l = 0 then (match rcR l l.length with | some x => ((x.1 : Int), (x.2 : Int), true, 0) | none => (0, 0, false, 0)) else (0, 0, false, chkF c l)
def RacePost (c : Cf) (l : List Op) (w : World) (e : Ending) (w' : World) : Prop := e = .returned (.tuple #[.int .i64 (raceT c l).1, .int .i64 (raceT c l).2.1, .bool (raceT c l).2.2.1, .int .i64 (raceT c l).2.2.2]) ∧ Below w.heap.size w w'
/-- the four boxes of the results -/
structure R4 (w : World) (n : Nat) (i j : Int) (b : Bool) (k : Int) : Prop where
  c0 : w.heap[n]? = some (.cells #[.int .i64 i] 3 (0, 0))
  c1 : w.heap[n + 1]? = some (.cells #[.int .i64 j] 3 (0, 0))
  c2 : w.heap[n + 1 + 1]? = some (.cells #[.bool b] 4 (0, 0))
  c3 : w.heap[n + 1 + 1 + 1]? = some (.cells #[.int .i64 k] 29 (0, 0))
theorem R4.below {W W' : World} {n : Nat} {i j : Int} {b : Bool} {k : Int} (h : R4 W n i j b k) (hb : Below W.heap.size W W') : R4 W' n i j b k :=
  ⟨(hb.block _ (blk_lt h.c0)).trans h.c0, (hb.block _ (blk_lt h.c1)).trans h.c1, (hb.block _ (blk_lt h.c2)).trans h.c2, (hb.block _ (blk_lt h.c3)).trans h.c3⟩
theorem R4.keep {W W' : World} {n : Nat} {i j : Int} {b : Bool} {k : Int} (h : R4 W n i j b k) (hk : ∀ q (o : Obj), W.heap[q]? = some o → o.isCells = true → n ≤ q → q ≤ n + 1 + 1 + 1 → W'.heap[q]? = W.heap[q]?) : R4 W' n i j b k :=
  ⟨(hk _ _ h.c0 rfl (by omega) (by omega)).trans h.c0, (hk _ _ h.c1 rfl (by omega) (by omega)).trans h.c1, (hk _ _ h.c2 rfl (by omega) (by omega)).trans h.c2, (hk _ _ h.c3 rfl (by omega) (by omega)).trans h.c3⟩
theorem R4.cells {W : World} {n : Nat} {i j : Int} {b : Bool} {k : Int} (h : R4 W n i j b k) : W.cell? ⟨n, 0, none⟩ = some (.int .i64 i) ∧ W.cell? ⟨n + 1, 0, none⟩ = some (.int .i64 j) ∧ W.cell? ⟨n + 1 + 1, 0, none⟩ = some (.bool b) ∧ W.cell? ⟨n + 1 + 1 + 1, 0, none⟩ = some (.int .i64 k) := by
  refine ⟨?_, ?_, ?_, ?_⟩
  · rw [cell_of_row _ _ _ _ _ _ h.c0]; rfl
  · rw [cell_of_row _ _ _ _ _ _ h.c1]; rfl
  · rw [cell_of_row _ _ _ _ _ _ h.c2]; rfl
  · rw [cell_of_row _ _ _ _ _ _ h.c3]; rfl
theorem R4.frozen {W : World} {n : Nat} {i j : Int} {b : Bool} {k : Int} (h : R4 W n i j b k) : W.frozen? ⟨n, 0, none⟩ = false ∧ W.frozen? ⟨n + 1, 0, none⟩ = false ∧ W.frozen? ⟨n + 1 + 1, 0, none⟩ = false ∧ W.frozen? ⟨n + 1 + 1 + 1, 0, none⟩ = false :=
  ⟨frozen_of_row _ _ _ _ _ h.c0, frozen_of_row _ _ _ _ _ h.c1, frozen_of_row _ _ _ _ _ h.c2, frozen_of_row _ _ _ _ _ h.c3⟩
/-- the stores of the four -/
theorem R4.fill {W : World} {n n0 : Nat} {i0 j0 : Int} {b0 : Bool} {k0 : Int} (h : R4 W n i0 j0 b0 k0) (i j : Int) (b : Bool) (k : Int) {Z : World} (hZ : (((W.setCell ⟨n, 0, none⟩ (.int .i64 i)).setCell ⟨n + 1, 0, none⟩ (.int .i64 j)).setCell ⟨n + 1 + 1, 0, none⟩ (.bool b)).setCell ⟨n + 1 + 1 + 1, 0, none⟩ (.int .i64 k) = Z) (hn : n0 ≤ n) :
    R4 Z n i j b k ∧ Below n0 W Z ∧ KeepsOthers W Z := by
  subst hZ
  have o1 : ∀ (w : World) (a b : Nat) (v : Value), a ≠ b → (w.setCell ⟨b, 0, none⟩ v).heap[a]? = w.heap[a]? := fun w a b v hab => heap_setCell_other _ _ _ _ (by simpa using hab)
  have a1 := heap_setCell_same W n 0 _ _ (.int .i64 i) h.c0
  have b1 := heap_setCell_same (W.setCell ⟨n, 0, none⟩ (.int .i64 i)) (n + 1) 0 _ _ (.int .i64 j) ((o1 _ _ _ _ (by omega)).trans h.c1)
  have c1 := heap_setCell_same ((W.setCell ⟨n, 0, none⟩ (.int .i64 i)).setCell ⟨n + 1, 0, none⟩ (.int .i64 j)) (n + 1 + 1) 0 _ _ (.bool b) ((o1 _ _ _ _ (by omega)).trans ((o1 _ _ _ _ (by omega)).trans h.c2))
  have d1 := heap_setCell_same (((W.setCell ⟨n, 0, none⟩ (.int .i64 i)).setCell ⟨n + 1, 0, none⟩ (.int .i64 j)).setCell ⟨n + 1 + 1, 0, none⟩ (.bool b)) (n + 1 + 1 + 1) 0 _ _ (.int .i64 k) ((o1 _ _ _ _ (by omega)).trans ((o1 _ _ _ _ (by omega)).trans ((o1 _ _ _ _ (by omega)).trans h.c3)))
  refine ⟨⟨?_, ?_, ?_, d1⟩, ?_, ?_⟩
  · rw [o1 _ _ _ _ (by omega), o1 _ _ _ _ (by omega), o1 _ _ _ _ (by omega)]; exact a1
  · rw [o1 _ _ _ _ (by omega), o1 _ _ _ _ (by omega)]; exact b1
  · rw [o1 _ _ _ _ (by omega)]; exact c1
  · exact ((((Below.refl _ _).setCell hn _).setCell (show n0 ≤ n + 1 by omega) _).setCell (show n0 ≤ n + 1 + 1 by omega) _).setCell (show n0 ≤ n + 1 + 1 + 1 by omega) _
  · exact (((KeepsOthers.setCell _ _ _).trans (KeepsOthers.setCell _ _ _)).trans (KeepsOthers.setCell _ _ _)).trans (KeepsOthers.setCell _ _ _)
theorem race_results (tmps : Array Value) (X : World) (n : Nat) (i j : Int) (b : Bool) (k : Int) (h4 : tmps[4]?.getD undef = .pointer (some ⟨n, 0, none⟩)) (h5 : tmps[5]?.getD undef = .pointer (some ⟨n + 1, 0, none⟩)) (h6 : tmps[6]?.getD undef = .pointer (some ⟨n + 1 + 1, 0, none⟩)) (h7 : tmps[7]?.getD undef = .pointer (some ⟨n + 1 + 1 + 1, 0, none⟩)) (h : R4 X n i j b k) :
    (results Try.f22 tmps).run Try.prog X = .ok (.tuple #[.int .i64 i, .int .i64 j, .bool b, .int .i64 k]) X := by
  obtain ⟨z0, z1, z2, z3⟩ := h.cells
  simp [results, Try.results22, go_sem, h4, h5, h6, h7, z0, z1, z2, z3]
theorem boxes5 (w : World) (c : Cf) : ∃ W, ((((w.alloc (.cells c.cells 25)).alloc (.cells #[.int .i64 0] 3)).alloc (.cells #[.int .i64 0] 3)).alloc (.cells #[.bool false] 4)).alloc (.cells #[.int .i64 0] 29) = W ∧ Below w.heap.size w W ∧ W.heap.size = w.heap.size + 5 ∧ W.heap[w.heap.size]? = some (.cells c.cells 25 (0, 0)) ∧ R4 W (w.heap.size + 1) 0 0 false 0 := by
  refine ⟨_, rfl, ((((((Below.refl _ w).alloc (Nat.le_refl _) _).alloc (by simp) _).alloc (by simp <;> omega) _).alloc (by simp <;> omega) _).alloc (by simp <;> omega) _), by simp, ?_, ⟨?_, ?_, ?_, ?_⟩⟩
  · rw [Below.heap_alloc _ _ _ (by simp <;> omega), Below.heap_alloc _ _ _ (by simp <;> omega), Below.heap_alloc _ _ _ (by simp <;> omega), Below.heap_alloc _ _ _ (by simp)]; exact Go.heap_alloc_new w _
  · rw [Below.heap_alloc _ _ _ (by simp <;> omega), Below.heap_alloc _ _ _ (by simp <;> omega), Below.heap_alloc _ _ _ (by simp)]
    have := Go.heap_alloc_new (w.alloc (.cells c.cells 25)) (.cells #[.int .i64 0] 3)
    simpa using this
  · rw [Below.heap_alloc _ _ _ (by simp <;> omega), Below.heap_alloc _ _ _ (by simp)]
    have := Go.heap_alloc_new ((w.alloc (.cells c.cells 25)).alloc (.cells #[.int .i64 0] 3)) (.cells #[.int .i64 0] 3)
    simpa using this
  · rw [Below.heap_alloc _ _ _ (by simp)]
    have := Go.heap_alloc_new (((w.alloc (.cells c.cells 25)).alloc (.cells #[.int .i64 0] 3)).alloc (.cells #[.int .i64 0] 3)) (.cells #[.bool false] 4)
    simpa using this
  · have := Go.heap_alloc_new ((((w.alloc (.cells c.cells 25)).alloc (.cells #[.int .i64 0] 3)).alloc (.cells #[.int .i64 0] 3)).alloc (.cells #[.bool false] 4)) (.cells #[.int .i64 0] 29)
    simpa using this
theorem races_calls (bf : Nat) (o : Op) (w : World) : Calls Try.prog 40 #[ptr bf, o.val] w fun e w' => e = .returned (.func (.func 55) #[] #[.pointer (some ⟨w.heap.size + 1, 0, none⟩), .pointer (some ⟨w.heap.size, 0, none⟩)]) ∧ w' = (w.alloc (.cells #[ptr bf] 88)).alloc (.cells o.cells 38) := by
  have hmf : ∀ (fn : Fn) (first cap : Array Value) (w : World), (Instr.makeFunc fn first cap).run Try.prog w = .ok (.func fn first cap) w := fun _ _ _ _ => rfl
  go_enter Try.func40, Try.ntmps40
  go_wp2
  go_ret
  exact ⟨rfl, rfl⟩
theorem Fol.own {P : Nat → Prop} {bf base : Nat} {s : Fo} {w w' : World} {row : Option Nat} (h : Fol P bf base s w) (hg : w.grownBy w' row) (hr : ∀ r, row = some r → w.heap.size ≤ r ∨ ∃ o : Obj, w.heap[r]? = some o ∧ o.isCells = false) : Fol P bf base s w' := by
  obtain ⟨va, vb, hF⟩ := h
  have key : ∀ (b : Nat) (o : Obj), w.heap[b]? = some o → o.isCells = true → row ≠ some b := fun b o hb ho e => by
    rcases hr b e with h1 | ⟨o', h1, h2⟩
    · have := (Array.getElem?_eq_some_iff.1 hb).1; omega
    · rw [hb] at h1; cases h1; rw [ho] at h2; cases h2
  have ka : va.ownBlock = none ∨ va.ownBlock ≠ row := by
    cases hv : va.ownBlock with
    | none => exact Or.inl rfl
    | some b =>
      obtain ⟨_, _, cur, hc⟩ := hF.tr.blk b hv
      exact Or.inr (fun e => key b _ hc rfl e.symm)
  have kb : vb.ownBlock = none ∨ vb.ownBlock ≠ row := by
    cases hv : vb.ownBlock with
    | none => exact Or.inl rfl
    | some b =>
      obtain ⟨_, _, cur, hc⟩ := hF.re.blk b hv
      exact Or.inr (fun e => key b _ hc rfl e.symm)
  exact ⟨va, vb, hF.keep hg (key bf _ hF.top rfl) ka kb⟩
theorem Fol.imp {P Q : Nat → Prop} {bf base : Nat} {s : Fo} {w : World} (h : Fol P bf base s w) (hQ : ∀ k, Q k → P k ∨ w.heap.size ≤ k) : Fol Q bf base s w := by
  obtain ⟨va, vb, hF⟩ := h
  exact ⟨va, vb, hF.imp hQ⟩
theorem Fol.rest {P : Nat → Prop} {bf base : Nat} {s : Fo} {w w' : World} (h : Fol P bf base s w) (hb : Below w.heap.size w w') : Fol P bf base s w' := by
  obtain ⟨va, vb, hF⟩ := h
  exact ⟨va, vb, hF.rest hb⟩
theorem RaIn.kept {P : Nat → Prop} {bo bp bf base : Nat} {va vb : Value} {s : Fo} {o : Op} {w w' : World} (h : RaIn bo bp bf base va vb s o w) (hk : Ke P w w') (h1 : P bo) (h2 : P bp) (h3 : P bf) (h4 : ∀ k, va.ownBlock = some k → P k) (h5 : ∀ k, vb.ownBlock = some k → P k) : RaIn bo bp bf base va vb s o w' :=
  ⟨(hk.block _ (blk_lt h.op) h1).trans h.op, (hk.block _ (blk_lt h.fp) h2).trans h.fp, ⟨(hk.block _ (blk_lt h.fo.top) h3).trans h.fo.top, own_at h.fo.tr (fun g hg => hk.block g (h.fo.tr.blk g hg).2.1 (h4 g hg)), own_at h.fo.re (fun g hg => hk.block g (h.fo.re.blk g hg).2.1 (h5 g hg)), h.fo.bf_, Nat.le_trans h.fo.bw hk.size, h.fo.pf, h.fo.pa, h.fo.pb⟩⟩
theorem RaIn.rest {bo bp bf base : Nat} {va vb : Value} {s : Fo} {o : Op} {w w' : World} (h : RaIn bo bp bf base va vb s o w) (hb : Below w.heap.size w w') : RaIn bo bp bf base va vb s o w' :=
  h.kept (P := fun k => True) (Ke.of hb |>.mono (fun _ _ => trivial)) trivial trivial trivial (fun _ _ => trivial) (fun _ _ => trivial)
/-- the iterator over races keeps its contract -/
theorem races_stops (P : Nat → Prop) (bo bp bf base : Nat) (va vb : Value) (s : Fo) (o : Op) (ho : 0 ≤ o.a ∧ o.a < 8) (hl : s.re.length = s.tr.length) (n : Nat) (hn : 3 ≤ n) (w : World) (h : RaIn bo bp bf base va vb s o w) (h1 : P bo) (h2 : P bp) (h3 : P bf) (h4 : ∀ k, va.ownBlock = some k → P k) (h5 : ∀ k, vb.ownBlock = some k → P k) :
    SeqStopsK Fence.wide n Try.prog 55 #[.pointer (some ⟨bo, 0, none⟩), .pointer (some ⟨bp, 0, none⟩)] encR (Ke P) (fun ys => ys = rcL s o) (fun pre => pre <+: rcL s o) (rcL s o).length w := by
  intro ll J Jx W hW hJ hJx hY h0
  exact races1_in n hn ll P bo bp bf base va vb s o ho hl J Jx W.heap.size hJ (fun pre x W h1 h2 => hY pre x W h1 (by have := h2.length_le; simp at this; omega)) W (fun W' hk => (h.rest hW).kept hk h1 h2 h3 h4 h5) h0
/-- the same, each yielded number known to be one of the trace's -/
theorem races_stopsF (P : Nat → Prop) (bo bp bf base : Nat) (va vb : Value) (s : Fo) (o : Op) (ho : 0 ≤ o.a ∧ o.a < 8) (hl : s.re.length = s.tr.length) (n : Nat) (hn : 3 ≤ n) (w : World) (h : RaIn bo bp bf base va vb s o w) (h1 : P bo) (h2 : P bp) (h3 : P bf) (h4 : ∀ k, va.ownBlock = some k → P k) (h5 : ∀ k, vb.ownBlock = some k → P k) :
    SeqStopsK Fence.wide n Try.prog 55 #[.pointer (some ⟨bo, 0, none⟩), .pointer (some ⟨bp, 0, none⟩)] (fun (x : Fin s.tr.length) => encR x.val) (Ke P) (fun ys => ys.map (·.val) = rcL s o) (fun pre => pre.map (·.val) <+: rcL s o) (rcL s o).length w := by
  intro ll J Jx W hW hJ hJx hY h0
  have hm := races1_in n hn ll P bo bp bf base va vb s o ho hl (fun pre W => ∃ p : List (Fin s.tr.length), p.map (·.val) = pre ∧ J p W) (fun pre W => ∃ p : List (Fin s.tr.length), p.map (·.val) = pre ∧ Jx p W) W.heap.size
    (fun pre A B row hs hg hr => by
      obtain ⟨p, hp, hJp⟩ := hs
      exact ⟨p, hp, hJ p A B row hJp hg hr⟩)
    (fun pre x W1 hs hx => by
      obtain ⟨p, hp, hJp⟩ := hs
      have hxm : x ∈ rcL s o := by obtain ⟨t, ht⟩ := hx; rw [← ht]; simp
      have hxl := rcL_lt hxm
      have hle := hx.length_le
      obtain ⟨fn, tmps, assign, body, hy, hR⟩ := hY p ⟨x, hxl⟩ W1 hJp (by rw [← hp] at hle; simp at hle; omega)
      refine ⟨fn, tmps, assign, body, hy, hR.mono ?_⟩
      rintro e W' (⟨he, hj, hk⟩ | ⟨he, hj⟩)
      · exact Or.inl ⟨he, ⟨p ++ [⟨x, hxl⟩], by simp [hp], hj⟩, hk⟩
      · exact Or.inr ⟨he, ⟨p ++ [⟨x, hxl⟩], by simp [hp], hj⟩⟩)
    W (fun W' hk => (h.rest hW).kept hk h1 h2 h3 h4 h5) ⟨[], rfl, h0⟩
  refine hm.mono ?_
  rintro e W' ⟨hv, ⟨ys, rfl, p, hp, hj⟩ | ⟨pre, hpre, p, hp, hj⟩⟩
  · exact ⟨hv, Or.inl ⟨p, hp, hj⟩⟩
  · exact ⟨hv, Or.inr ⟨p, by show _ <+: _; rw [hp]; exact hpre, hj⟩⟩
theorem foF_take {l : List Op} {j : Nat} (hj : j < l.length) : foF (l.take (j + 1)) = addF (foF (l.take j)) l[j] := by
  unfold foF
  rw [List.take_succ_eq_append_getElem hj, List.foldl_append]; rfl
theorem foF_rl {l : List Op} (hl : ∀ o ∈ l, gdO o) (j : Nat) : (foF (l.take j)).re.length = (foF (l.take j)).tr.length := (fo_ok _ (fun o ho => hl o (List.mem_of_mem_take ho)) _ initF_ok).rl
/-- what the rounds of Race keep -/
structure RcI (w : World) (n0 bf nF : Nat) (s : Fo) (Ds : List Nat) (W : World) : Prop where
  r4 : R4 W (n0 + 1) 0 0 false 0
  lo : Below n0 w W
  mks : Mks n0 Ds W
  fo : ∃ P, Fol P bf nF s W ∧ (∀ k, k < nF → P k) ∧ (∀ D ∈ Ds, P D)
theorem R4.own {W W' : World} {n : Nat} {i j : Int} {b : Bool} {k : Int} {row : Option Nat} (h : R4 W n i j b k) (hg : W.grownBy W' row) (hr : ∀ r, row = some r → W.heap.size ≤ r ∨ ∃ o : Obj, W.heap[r]? = some o ∧ o.isCells = false) : R4 W' n i j b k :=
  h.keep (fun q o hq ho _ _ => hg.block q (Array.getElem?_eq_some_iff.1 hq).1 (fun e => by
    rcases hr q e.symm with h1 | ⟨o', h1, h2⟩
    · have := (Array.getElem?_eq_some_iff.1 hq).1; omega
    · rw [hq] at h1; cases h1; rw [ho] at h2; cases h2))
theorem RcI.own {w : World} {n0 bf nF n9 : Nat} {s : Fo} {Ds : List Nat} {W W' : World} {row : Option Nat} (h : RcI w n0 bf nF s Ds W) (hn : n0 ≤ n9) (hD : ∀ D ∈ Ds, D < n9) (hg : W.grownBy W' row) (hr : ∀ r, row = some r → n9 ≤ r ∧ ∃ o : Obj, W.heap[r]? = some o ∧ o.isCells = false) : RcI w n0 bf nF s Ds W' :=
  ⟨h.r4.own hg (fun r e => Or.inr (hr r e).2), h.lo.grown hg (by have := blk_lt h.r4.c0; omega) (fun k e => Nat.le_trans hn (hr k e).1), h.mks.keep (fun D hd => hg.block D (h.mks.lt hd) (fun e => by have := (hr D e.symm).1; have := hD D hd; omega)), by
    obtain ⟨P, h1, h2, h3⟩ := h.fo
    exact ⟨P, h1.own hg (fun r e => Or.inr (hr r e).2), h2, h3⟩⟩
theorem alloc2 (w : World) (o0 o1 : Obj) {W : World} (h : (w.alloc o0).alloc o1 = W) : Below w.heap.size w W ∧ W.heap.size = w.heap.size + 2 ∧ W.heap[w.heap.size]? = some o0 ∧ W.heap[w.heap.size + 1]? = some o1 := by
  obtain ⟨W', h0, h1⟩ := box2 w o0 o1
  rw [h] at h0; subst h0; exact h1
theorem ke_book {P : Nat → Prop} {n : Nat} (hP : ∀ k, P k → k < n) (W : World) (l : Nat) (o' : Obj) (hl : n ≤ l) : Ke P W (W.putObj l o') :=
  Ke.grown (grownBy_putObj' W l o') (fun k e p => by obtain rfl := Option.some.inj e; have := hP _ p; omega)
/-- what a round of Race keeps while the races of an operation are gone through -/
structure RcJ (w : World) (n0 bf nF : Nat) (s : Fo) (Ds : List Nat) (P : Nat → Prop) (b : Nat) (j : Int) (o : Op) (W : World) : Prop where
  r4 : R4 W (n0 + 1) 0 0 false 0
  lo : Below n0 w W
  mks : Mks n0 Ds W
  fo : Fol P bf nF s W
  bj : W.heap[b]? = some (.cells #[.int .i64 j] 3 (0, 0))
  bo : W.heap[b + 1]? = some (.cells o.cells 38 (0, 0))
theorem blk_own {W W' : World} {row : Option Nat} {b : Nat} {o : Obj} (h : W.heap[b]? = some o) (ho : o.isCells = true) (hg : W.grownBy W' row) (hrow : ∀ r, row = some r → ∃ o : Obj, W.heap[r]? = some o ∧ o.isCells = false) : W'.heap[b]? = some o :=
  (hg.block b (Array.getElem?_eq_some_iff.1 h).1 (fun e => by
    obtain ⟨o', h1, h2⟩ := hrow b e.symm
    rw [h] at h1; cases h1; rw [ho] at h2; cases h2)).trans h
theorem RcJ.own {w : World} {n0 bf nF n9 b : Nat} {s : Fo} {Ds : List Nat} {P : Nat → Prop} {j : Int} {o : Op} {W W' : World} {row : Option Nat} (h : RcJ w n0 bf nF s Ds P b j o W) (hn : n0 ≤ n9) (hD : ∀ D ∈ Ds, D < n9) (hg : W.grownBy W' row) (hr : ∀ r, row = some r → n9 ≤ r ∧ ∃ o : Obj, W.heap[r]? = some o ∧ o.isCells = false) : RcJ w n0 bf nF s Ds P b j o W' :=
  ⟨h.r4.own hg (fun r e => Or.inr (hr r e).2), h.lo.grown hg (by have := blk_lt h.r4.c0; omega) (fun k e => Nat.le_trans hn (hr k e).1), h.mks.keep (fun D hd => hg.block D (h.mks.lt hd) (fun e => by have := (hr D e.symm).1; have := hD D hd; omega)),
    h.fo.own hg (fun r e => Or.inr (hr r e).2), blk_own h.bj rfl hg (fun r e => (hr r e).2), blk_own h.bo rfl hg (fun r e => (hr r e).2)⟩
theorem RcJ.rest {w : World} {n0 bf nF b : Nat} {s : Fo} {Ds : List Nat} {P : Nat → Prop} {j : Int} {o : Op} {W W' : World} (h : RcJ w n0 bf nF s Ds P b j o W) (hb : Below W.heap.size W W') : RcJ w n0 bf nF s Ds P b j o W' :=
  ⟨h.r4.below hb, h.lo.trans (hb.mono (by have := blk_lt h.r4.c0; omega)), h.mks.below hb, h.fo.rest hb, (hb.block _ (blk_lt h.bj)).trans h.bj, (hb.block _ (blk_lt h.bo)).trans h.bo⟩
theorem Mks.taken {n0 : Nat} {Ds : List Nat} {W W' : World} (h : Mks n0 Ds W) (hn : n0 ≤ W.heap.size) (h1 : W'.os = W.os) (h2 : W'.tape = W.tape) (h3 : W'.output = W.output) (h4 : W'.heap.size = W.heap.size) (h5 : ∀ k, k ∉ Ds → W'.heap[k]? = W.heap[k]?) :
    Below n0 W W' ∧ ∀ (q : Nat) (o : Obj), W.heap[q]? = some o → o.isCells = true → W'.heap[q]? = some o := by
  refine ⟨⟨h1, h2, h3, by omega, fun k hk => h5 k (fun hm => by have := (h.at_ k hm).1; omega)⟩, fun q o hq ho => (h5 q (fun hm => ?_)).trans hq⟩
  rw [(h.at_ q hm).2] at hq
  cases hq; cases ho
theorem chk_len {c : Cf} {l : List Op} (h : chkF c l = 0) : l.length ≤ 2000 := by
  unfold chkF at h
  split at h
  · cases h
  · split at h
    · cases h
    · omega
theorem rcR_stay {l : List Op} {n : Nat} {x : Nat × Nat} (h : rcR l n = some x) : ∀ m, n ≤ m → rcR l m = some x := by
  intro m hm
  induction m with
  | zero => obtain rfl : n = 0 := by omega
            exact h
  | succ m ih =>
    by_cases hnm : n ≤ m
    · rw [rcR_succ, ih hnm]
    · obtain rfl : n = m + 1 := by omega
      exact h
theorem rcAt_eq {l : List Op} {j : Nat} (hj : j < l.length) : rcAt l j = rcL (foF (l.take j)) l[j] := by
  unfold rcAt; rw [getD_at _ _ hj]
/-- the end of Race -/
theorem race_end {c : Cf} {l : List Op} {w W : World} {n0 : Nat} {Ds : List Nat} (hw : w.heap.size = n0) (tmps : Array Value) (h4 : tmps[4]?.getD undef = .pointer (some ⟨n0 + 1, 0, none⟩)) (h5 : tmps[5]?.getD undef = .pointer (some ⟨n0 + 1 + 1, 0, none⟩)) (h6 : tmps[6]?.getD undef = .pointer (some ⟨n0 + 1 + 1 + 1, 0, none⟩)) (h7 : tmps[7]?.getD undef = .pointer (some ⟨n0 + 1 + 1 + 1 + 1, 0, none⟩))
    {i j : Int} {b : Bool} {k : Int} (hr : R4 W (n0 + 1) i j b k) (hl : Below n0 w W) (hm : Mks n0 Ds W) (he : raceT c l = (i, j, b, k)) : LeavesInM Fence.wide 5 Try.prog Try.f22 tmps (RacePost c l w) (Ds.map mkD) .returning W := by
  refine leaves_marks Ds n0 W hm (fun W' g1 g2 g3 g4 g5 => ?_)
  obtain ⟨q1, q2⟩ := hm.taken (by have := blk_lt hr.c0; omega) g1 g2 g3 g4 g5
  refine ⟨_, race_results _ _ (n0 + 1) i j b k h4 h5 h6 h7 (hr.keep (fun q o hq ho _ _ => (q2 q o hq ho).trans hq.symm)), ?_⟩
  refine ⟨by rw [he], ?_⟩
  rw [hw]; exact hl.trans q1
theorem drew_below (W : World) : Below W.heap.size W W.drew := ⟨rfl, rfl, rfl, Nat.le_refl _, fun _ _ => rfl⟩
theorem race_calls (c : Cf) (l : List Op) (A : Option Addr) (cp : Nat) (w : World) (hA : Rd encP 4 w A l) :
    Calls Try.prog 22 #[c.val, .slice A l.length cp] w (RacePost c l w) := by
  obtain ⟨W, hW, hb, hsz, hcf, hr4⟩ := boxes5 w c
  obtain ⟨n0, hn0⟩ : ∃ n, w.heap.size = n := ⟨_, rfl⟩
  rw [hn0] at hb hsz hcf hr4
  have hsm := hA.small
  have hck := check_calls c l A cp W (hA.below (by rw [hn0]; exact hb))
  have x0 : W.cell? ⟨n0, 0, none⟩ = some (.int .i64 c.L) := by rw [cell_of_row _ _ _ _ _ _ hcf]; rfl
  have x1 : W.cell? ⟨n0, 1, none⟩ = some (.int .i64 c.W) := by rw [cell_of_row _ _ _ _ _ _ hcf]; rfl
  have x2 : W.cell? ⟨n0, 2, none⟩ = some (.int .i64 c.N) := by rw [cell_of_row _ _ _ _ _ _ hcf]; rfl
  have x3 : W.cell? ⟨n0, 3, none⟩ = some (.int .i64 c.H) := by rw [cell_of_row _ _ _ _ _ _ hcf]; rfl
  have HC := Lib.hid hck
  have HW := Lib.hid (And.intro hW hn0)
  have HX := Lib.hid (And.intro hb (And.intro hsz (And.intro hr4 hA)))
  clear hck hW hn0 hb hsz hcf hr4 hA
  refine (callsIn_wide (n := 5)).1 ?_
  refine callsIn_of_wp_marks Try.func22 rfl trivial ?_ rfl
  refine wpIn_wide.2 ?_
  simp only [Try.ntmps22, List.size_toArray, List.length_cons, List.length_nil, Nat.reduceAdd, Nat.reduceSub, Array.replicate_succ, Array.replicate_zero, List.push_toArray, List.append_toArray, List.nil_append, List.cons_append]
  by_cases hk : chkF c l = 0
  · have hkc : (chkF c l != 0) = false := by rw [bne_eq_false_iff_eq]; exact hk
    obtain ⟨hcfk, hops⟩ := chk_parts hk
    have HG := Lib.hid (show ∀ o ∈ l, gdO o from fun o ho => op_gd hcfk (hops o ho))
    have HL := Lib.hid (chk_len hk)
    have HK := Lib.hid hk
    clear hk hcfk hops
    go_upto_region 1 with fail
    rw [HW.out.1]
    try rw [HW.out.2]
    go_upto_region 4 with ((with_reducible refine (HC.out).mono ?_); rintro e w1 ⟨rfl, hb1⟩; have H1 := Lib.hid hb1; clear hb1)
    obtain ⟨nF, hnF⟩ : ∃ n, w1.heap.size = n := ⟨_, rfl⟩
    have hnf := newFollower_calls (fun k => k < w1.heap.size) w1 (fun k h => h)
    rw [hnF] at hnf
    have HNF := Lib.hid hnf
    have HnF := Lib.hid hnF
    clear x0 x1 x2 x3 hnf hnF
    go_upto_block 0 with ((with_reducible refine (HNF.out).mono ?_); rintro e w2 ⟨bf, rfl, hf2, hb2⟩; have H2 := Lib.hid (And.intro hf2 hb2); clear hf2 hb2)
    refine wp_block ?_
    refine wp_loop_ghost_k (fun k a' W => ∃ (v10 v11 v12 v22 v23 v24 v25 v26 v27 v28 v29 v31 v32 v33 v34 v35 v36 : Value) (j : Nat) (Ds : List Nat), a' = { tmps := #[c.val, .slice A l.length cp, .pointer (some ⟨n0, 0, none⟩), undef, .pointer (some ⟨n0 + 1, 0, none⟩), .pointer (some ⟨n0 + 1 + 1, 0, none⟩), .pointer (some ⟨n0 + 1 + 1 + 1, 0, none⟩), .pointer (some ⟨n0 + 1 + 1 + 1 + 1, 0, none⟩), .int .i64 (chkF c l), ptr bf, v10, v11, v12, .agg c.cells, .slice A l.length cp, .int .i64 (chkF c l), .int .i64 (chkF c l), .bool false, undef, ptr bf, .slice A l.length cp, .int .i64 (l.length : Int), v22, v23, v24, v25, v26, v27, v28, v29, undef, v31, v32, v33, v34, v35, v36], defers := Ds.map mkD } ∧ j + k = l.length ∧ v22 = .int .i64 (j : Int) ∧ rcR l j = none ∧ RcI w n0 bf nF (foF (l.take j)) Ds W) l.length ?start ?round
    case start =>
      refine ⟨_, _, _, _, _, _, _, _, _, _, _, _, _, _, _, _, _, 0, [], rfl, by omega, rfl, rfl, ⟨(HX.out.2.2.1.below H1.out).below (by rw [HnF.out]; exact H2.out.2), HX.out.1.trans ((H1.out.trans ((show Below w1.heap.size w1 w2 by rw [HnF.out]; exact H2.out.2).mono H1.out.size)).mono (by rw [← HW.out.2]; exact HX.out.1.size)), Mks.nil _ _, ?_⟩⟩
      exact ⟨_, H2.out.1, fun k h => h, fun D h => by cases h⟩
    case round =>
      rintro gk a' wr ⟨v10, v11, v12, v22, v23, v24, v25, v26, v27, v28, v29, v31, v32, v33, v34, v35, v36, j, Ds, rfl, hi, rfl, hnone, hI⟩ J K hJ hK
      by_cases hlt : j < l.length
      · have hd : decide (j < l.length) = true := decide_eq_true hlt
        have hjI : (j : Int) < (l.length : Int) := by omega
        obtain ⟨a, rfl, hca⟩ := (HX.out.2.2.2.below (by rw [HW.out.2]; exact hI.lo)).cell j hlt
        obtain ⟨o, ho⟩ : ∃ o, l[j] = o := ⟨_, rfl⟩
        rw [ho] at hca
        obtain ⟨xa, xk, xp, xv⟩ := o
        have y0 := hca 0 _ rfl
        have y1 := hca 1 _ rfl
        have y2 := hca 2 _ rfl
        have y3 := hca 3 _ rfl
        rw [Nat.add_zero] at y0
        rw [add_field _ _ _ (by decide)] at y1 y2 y3
        obtain ⟨W8, hW8⟩ : ∃ W8, (wr.alloc (.cells #[.int .i64 (j : Int)] 3)).alloc (.cells #[.int .i64 xa, .int .i64 xk, .int .i64 xp, .int .i64 xv] 38) = W8 := ⟨_, rfl⟩
        obtain ⟨hb8, hz8, hx10, hx11⟩ := alloc2 _ _ _ hW8
        obtain ⟨P, hP, hPn, hPD⟩ := hI.fo
        obtain ⟨b10, hb10⟩ : ∃ b, wr.heap.size = b := ⟨_, rfl⟩
        obtain ⟨P1, hP1⟩ : ∃ P1 : Nat → Prop, P1 = fun k => P k ∨ b10 ≤ k := ⟨_, rfl⟩
        have hJ8 : RcJ w n0 bf nF (foF (l.take j)) Ds P1 b10 (j : Int) ⟨xa, xk, xp, xv⟩ W8 :=
          ⟨hI.r4.below hb8, hI.lo.trans (hb8.mono (by have := blk_lt hI.r4.c0; omega)), hI.mks.below hb8, (hP.imp (fun k h => by rw [hP1] at h; rw [hb10]; exact h)).rest hb8, by rw [← hb10]; exact hx10, by rw [← hb10]; exact hx11⟩
        have hDs : ∀ D ∈ Ds, D < b10 := fun D h => by rw [← hb10]; exact hI.mks.lt h
        have hPP : (∀ k, k < nF → P1 k) ∧ (∀ D ∈ Ds, P1 D) ∧ (∀ D, b10 ≤ D → P1 D) := by rw [hP1]; exact ⟨fun k h => Or.inl (hPn k h), fun D h => Or.inl (hPD D h), fun D h => Or.inr h⟩
        have hn0b : n0 + 5 ≤ b10 := by have := blk_lt hI.r4.c3; omega
        have z0 : W8.cell? ⟨b10 + 1, 0, none⟩ = some (.int .i64 xa) := by rw [cell_of_row _ _ _ _ _ _ hJ8.bo]; rfl
        have z1 : W8.cell? ⟨b10 + 1, 1, none⟩ = some (.int .i64 xk) := by rw [cell_of_row _ _ _ _ _ _ hJ8.bo]; rfl
        have z2 : W8.cell? ⟨b10 + 1, 2, none⟩ = some (.int .i64 xp) := by rw [cell_of_row _ _ _ _ _ _ hJ8.bo]; rfl
        have z3 : W8.cell? ⟨b10 + 1, 3, none⟩ = some (.int .i64 xv) := by rw [cell_of_row _ _ _ _ _ _ hJ8.bo]; rfl
        have HQ := Lib.hid (And.intro ho (And.intro hnone hi))
        have H8 := Lib.hid (And.intro hJ8 (And.intro hDs (And.intro hPP (And.intro hn0b (show W8.heap.size = b10 + 2 by omega)))))
        have HW8 := Lib.hid (And.intro hW8 hb10)
        have HJ := Lib.hid hJ
        clear hI ho hnone hi hW8 hca hJ hb8 hz8 hx10 hx11 hP hPn hPD hb10 hP1 hJ8 hDs hPP hn0b
        go_upto_region 8 with fail
        rw [HW8.out.1]
        try rw [HW8.out.2]
        clear y0 y1 y2 y3
        go_wp2_with ((with_reducible refine (races_calls bf ⟨xa, xk, xp, xv⟩ W8).mono ?_); rintro e w9 ⟨rfl, hw9⟩; have H9 := Lib.hid hw9; clear hw9)
        obtain ⟨n8, hn8⟩ : ∃ n, W8.heap.size = n := ⟨_, rfl⟩
        rw [hn8]
        obtain ⟨hb9, hz9, hq0, hq1⟩ := alloc2 _ _ _ H9.out.symm
        rw [hn8] at hb9 hz9 hq0 hq1
        have hJ9 := H8.out.1.rest (by rw [hn8]; exact hb9)
        have hgd : ∀ o ∈ l, gdO o := HG.out
        have hoj : gdO ⟨xa, xk, xp, xv⟩ := by rw [← HQ.out.1]; exact hgd _ (List.getElem_mem hlt)
        have hrl := foF_rl hgd j
        have hn8' : n8 = b10 + 2 := by rw [← hn8]; exact H8.out.2.2.2.2
        obtain ⟨n9, hn9⟩ : ∃ n, w9.heap.size = n := ⟨_, rfl⟩
        rw [hn9] at hz9
        obtain ⟨va, vb, hFw⟩ := hJ9.fo
        have hRa : RaIn (n8 + 1) n8 bf nF va vb (foF (l.take j)) ⟨xa, xk, xp, xv⟩ w9 :=
          ⟨hq1, hq0, hFw.imp (fun k h => h.elim)⟩
        have hst := races_stops (fun k => k < n9) (n8 + 1) n8 bf nF va vb (foF (l.take j)) ⟨xa, xk, xp, xv⟩ ⟨hoj.2.1, hoj.2.2⟩ hrl 4 (by omega) w9 hRa (show n8 + 1 < n9 by omega) (show n8 < n9 by omega) (by rw [← hn9]; exact blk_lt hFw.top) (fun k h => by rw [← hn9]; exact (hFw.tr.blk k h).2.1) (fun k h => by rw [← hn9]; exact (hFw.re.blk k h).2.1)
        have hD9 : ∀ D ∈ Ds, D < n9 := fun D h => by have := H8.out.2.1 D h; omega
        have hn09 : n0 ≤ n9 := by have := H8.out.2.2.2.1; omega
        have HST := Lib.hid hst
        have H9 := Lib.hid (And.intro hJ9 (And.intro hD9 (And.intro hn09 (And.intro hn9 (And.intro hrl hoj)))))
        clear hJ9 hst hRa hFw hb9 hq0 hq1 hgd hD9 hrl hoj hn8 hz9 hn8'
        refine (wpIn_wide (n := 5)).1 ?_
        refine wpIn_rangeFunc_ownH (F := Fence.wide) (n := 5) rfl (by omega) (gf := 55) (lb := #[.pointer (some ⟨n8 + 1, 0, none⟩), .pointer (some ⟨n8, 0, none⟩)]) rfl trivial (enters_of Try.func55 (by kernel_rfl) rfl) (encs := encR) (Kp := Ke (fun k => k < n9)) (w0 := w9)
          HST.out
          (fun h k => h.trans k) (fun W l o o' hl h ho hw => ke_book (fun k h => h) W l o' (by rw [← hn9]; exact hl)) (Below.refl _ _) (fun _ => rfl)
          (fun pre W => pre = [] ∧ RcJ w n0 bf nF (foF (l.take j)) Ds P1 b10 (j : Int) ⟨xa, xk, xp, xv⟩ W ∧ n9 ≤ W.heap.size)
          (fun c pre W => c = .ret ∧ ∃ x : Nat, pre = [x] ∧ R4 W (n0 + 1) (x : Int) (j : Int) true 0 ∧ Below n0 w W ∧ Mks n0 Ds W)
          (fun s A B row hs hg hr => ⟨hs.1, hs.2.1.own H9.out.2.2.1 H9.out.2.1 hg (fun r e => by rw [← hn9]; exact hr r e), Nat.le_trans hs.2.2 hg.size⟩)
          (fun c s A B row hs hg hr => by
            obtain ⟨h1, x, h2, h3, h4, h5⟩ := hs
            exact ⟨h1, x, h2, h3.own hg (fun r e => Or.inr (hr r e).2), h4.grown hg (by have := blk_lt h3.c0; omega) (fun k e => Nat.le_trans H9.out.2.2.1 (by rw [← hn9]; exact (hr k e).1)), h5.keep (fun D hd => hg.block D (h5.lt hd) (fun e => by have := (hr D e.symm).1; have := H9.out.2.1 D hd; omega))⟩)
          ⟨rfl, H9.out.1, Nat.le_of_eq hn9.symm⟩
          (fun x a' W => a' = { tmps := #[c.val, .slice (some a) l.length cp, .pointer (some ⟨n0, 0, none⟩), undef, .pointer (some ⟨n0 + 1, 0, none⟩), .pointer (some ⟨n0 + 1 + 1, 0, none⟩), .pointer (some ⟨n0 + 1 + 1 + 1, 0, none⟩), .pointer (some ⟨n0 + 1 + 1 + 1 + 1, 0, none⟩), .int .i64 (chkF c l), ptr bf, .pointer (some ⟨b10, 0, none⟩), .pointer (some ⟨b10 + 1, 0, none⟩), .int .i64 (x : Int), .agg c.cells, .slice (some a) l.length cp, .int .i64 (chkF c l), .int .i64 (chkF c l), .bool false, undef, ptr bf, .slice (some a) l.length cp, .int .i64 (l.length : Int), .int .i64 (j : Int), .bool true, .int .i64 (j : Int), .pointer (some (a.add (j * 4))), .agg #[.int .i64 xa, .int .i64 xk, .int .i64 xp, .int .i64 xv], ptr bf, .agg #[.int .i64 xa, .int .i64 xk, .int .i64 xp, .int .i64 xv], .func (.func 55) #[] #[.pointer (some ⟨n8 + 1, 0, none⟩), .pointer (some ⟨n8, 0, none⟩)], .int .i64 (x : Int), v31, v32, v33, v34, v35, v36], defers := [] })
          (fun x a' s A B row hs hg hr => hs) ?assign ?body ?done ?stop
        case assign =>
          intro ll pre x U K hI hK
          have HI := Lib.hid hI
          clear hI
          gi_wp2
          exact hK _ _ (KeepsFrom.refl _ _) (Ke.refl _) HI.out rfl
        case body =>
          rintro ll pre x a' U hl hr ⟨rfl, hI, hs⟩ rfl hlt2
          obtain ⟨z0, z1, z2, z3⟩ := hI.r4.cells
          obtain ⟨f0, f1, f2, f3⟩ := hI.r4.frozen
          have y0 : U.cell? ⟨b10, 0, none⟩ = some (.int .i64 (j : Int)) := by rw [cell_of_row _ _ _ _ _ _ hI.bj]; rfl
          have HI := Lib.hid hI
          clear hI hl hr hlt2
          gi_wp2
          obtain ⟨e1, e2, e3, e4⟩ : n0 + 1 ≠ b10 ∧ n0 + 1 + 1 ≠ b10 ∧ n0 + 1 + 1 + 1 ≠ b10 ∧ n0 + 1 + 1 + 1 + 1 ≠ b10 := by have := H8.out.2.2.2.1; omega
          refine wpIn_region_any (by kernel_rfl) ?_
          change wpAnyIn _ _ _ _ _ _ _ _ _ (World.drew _)
          refine wpAnyIn_ready (rs := [0, 1]) (by kernel_rfl) (by simp) ?_
          refine AllReadyIn.cons rfl (fun K hK => ?_) ?_
          · go_simp
            refine hK _ _ ?_
            clear hK K
            try simp only [Act.put, List.getElem_toArray, List.getElem_cons_zero, List.getElem_cons_succ, List.setIfInBounds_toArray, List.set_cons_zero, List.set_cons_succ]
            refine wpAnyIn_ready (rs := [1, 2]) (by kernel_rfl) (by simp) ?_
            refine AllReadyIn.cons rfl (fun K hK => ?_) ?_
            · go_simp
              refine hK _ _ ?_
              clear hK K
              try simp only [Act.put, List.getElem_toArray, List.getElem_cons_zero, List.getElem_cons_succ, List.setIfInBounds_toArray, List.set_cons_zero, List.set_cons_succ]
              refine wpAnyIn_ready (rs := [2]) (by kernel_rfl) (by simp) ?_
              refine AllReadyIn.cons rfl (fun K hK => ?_) AllReadyIn.nil
              go_simp
              refine hK _ _ ?_
              clear hK K
              try simp only [Act.put, List.getElem_toArray, List.getElem_cons_zero, List.getElem_cons_succ, List.setIfInBounds_toArray, List.set_cons_zero, List.set_cons_succ]
              refine wpAnyIn_ready (rs := [3]) (by kernel_rfl) (by simp) ?_
              refine AllReadyIn.cons rfl (fun K hK => ?_) AllReadyIn.nil
              go_simp
              refine hK _ _ ?_
              clear hK K
              try simp only [Act.put, List.getElem_toArray, List.getElem_cons_zero, List.getElem_cons_succ, List.setIfInBounds_toArray, List.set_cons_zero, List.set_cons_succ]
              refine wpAnyIn_ready (rs := [4]) (by kernel_rfl) (by simp) ?_
              refine AllReadyIn.cons rfl (fun K hK => ?_) AllReadyIn.nil
              go_simp
              refine hK _ _ ?_
              clear hK K
              try simp only [Act.put, List.getElem_toArray, List.getElem_cons_zero, List.getElem_cons_succ, List.setIfInBounds_toArray, List.set_cons_zero, List.set_cons_succ]
              refine wpAnyIn_ready (rs := [5]) (by kernel_rfl) (by simp) ?_
              refine AllReadyIn.cons rfl (fun K hK => ?_) AllReadyIn.nil
              go_simp
              refine hK _ _ ?_
              clear hK K
              try simp only [Act.put, List.getElem_toArray, List.getElem_cons_zero, List.getElem_cons_succ, List.setIfInBounds_toArray, List.set_cons_zero, List.set_cons_succ]
              refine wpAnyIn_done (by kernel_rfl) ?_ _
              gi_wp2
              obtain ⟨Z, hZ⟩ : ∃ Z, (((U.setCell ⟨n0 + 1, 0, none⟩ (.int .i64 (x : Int))).setCell ⟨n0 + 1 + 1, 0, none⟩ (.int .i64 (j : Int))).setCell ⟨n0 + 1 + 1 + 1, 0, none⟩ (.bool true)).setCell ⟨n0 + 1 + 1 + 1 + 1, 0, none⟩ (.int .i64 0) = Z := ⟨_, rfl⟩
              rw [hZ]
              obtain ⟨h1, h2, h3⟩ := HI.out.r4.fill (x : Int) (j : Int) true 0 hZ (n0 := n0) (by omega)
              exact ⟨(h3.trans (KeepsOthers.drew Z)).from _, rfl, x, rfl, h1.below (drew_below Z), (HI.out.lo.trans h2).trans ((drew_below Z).mono (by have := blk_lt h1.c0; omega)), (HI.out.mks.others (h3.from n0) (Nat.le_refl _)).below (drew_below Z)⟩
            refine AllReadyIn.cons rfl (fun K hK => ?_) AllReadyIn.nil
            go_simp
            refine hK _ _ ?_
            clear hK K
            try simp only [Act.put, List.getElem_toArray, List.getElem_cons_zero, List.getElem_cons_succ, List.setIfInBounds_toArray, List.set_cons_zero, List.set_cons_succ]
            refine wpAnyIn_ready (rs := [1]) (by kernel_rfl) (by simp) ?_
            refine AllReadyIn.cons rfl (fun K hK => ?_) AllReadyIn.nil
            go_simp
            refine hK _ _ ?_
            clear hK K
            try simp only [Act.put, List.getElem_toArray, List.getElem_cons_zero, List.getElem_cons_succ, List.setIfInBounds_toArray, List.set_cons_zero, List.set_cons_succ]
            refine wpAnyIn_ready (rs := [3]) (by kernel_rfl) (by simp) ?_
            refine AllReadyIn.cons rfl (fun K hK => ?_) AllReadyIn.nil
            go_simp
            refine hK _ _ ?_
            clear hK K
            try simp only [Act.put, List.getElem_toArray, List.getElem_cons_zero, List.getElem_cons_succ, List.setIfInBounds_toArray, List.set_cons_zero, List.set_cons_succ]
            refine wpAnyIn_ready (rs := [4]) (by kernel_rfl) (by simp) ?_
            refine AllReadyIn.cons rfl (fun K hK => ?_) AllReadyIn.nil
            go_simp
            refine hK _ _ ?_
            clear hK K
            try simp only [Act.put, List.getElem_toArray, List.getElem_cons_zero, List.getElem_cons_succ, List.setIfInBounds_toArray, List.set_cons_zero, List.set_cons_succ]
            refine wpAnyIn_ready (rs := [5]) (by kernel_rfl) (by simp) ?_
            refine AllReadyIn.cons rfl (fun K hK => ?_) AllReadyIn.nil
            go_simp
            refine hK _ _ ?_
            clear hK K
            try simp only [Act.put, List.getElem_toArray, List.getElem_cons_zero, List.getElem_cons_succ, List.setIfInBounds_toArray, List.set_cons_zero, List.set_cons_succ]
            refine wpAnyIn_done (by kernel_rfl) ?_ _
            gi_wp2
            obtain ⟨Z, hZ⟩ : ∃ Z, (((U.setCell ⟨n0 + 1, 0, none⟩ (.int .i64 (x : Int))).setCell ⟨n0 + 1 + 1, 0, none⟩ (.int .i64 (j : Int))).setCell ⟨n0 + 1 + 1 + 1, 0, none⟩ (.bool true)).setCell ⟨n0 + 1 + 1 + 1 + 1, 0, none⟩ (.int .i64 0) = Z := ⟨_, rfl⟩
            rw [hZ]
            obtain ⟨h1, h2, h3⟩ := HI.out.r4.fill (x : Int) (j : Int) true 0 hZ (n0 := n0) (by omega)
            exact ⟨(h3.trans (KeepsOthers.drew Z)).from _, rfl, x, rfl, h1.below (drew_below Z), (HI.out.lo.trans h2).trans ((drew_below Z).mono (by have := blk_lt h1.c0; omega)), (HI.out.mks.others (h3.from n0) (Nat.le_refl _)).below (drew_below Z)⟩
          refine AllReadyIn.cons rfl (fun K hK => ?_) AllReadyIn.nil
          go_simp
          refine hK _ _ ?_
          clear hK K
          try simp only [Act.put, List.getElem_toArray, List.getElem_cons_zero, List.getElem_cons_succ, List.setIfInBounds_toArray, List.set_cons_zero, List.set_cons_succ]
          refine wpAnyIn_ready (rs := [0]) (by kernel_rfl) (by simp) ?_
          refine AllReadyIn.cons rfl (fun K hK => ?_) AllReadyIn.nil
          go_simp
          refine hK _ _ ?_
          clear hK K
          try simp only [Act.put, List.getElem_toArray, List.getElem_cons_zero, List.getElem_cons_succ, List.setIfInBounds_toArray, List.set_cons_zero, List.set_cons_succ]
          refine wpAnyIn_ready (rs := [2]) (by kernel_rfl) (by simp) ?_
          refine AllReadyIn.cons rfl (fun K hK => ?_) AllReadyIn.nil
          go_simp
          refine hK _ _ ?_
          clear hK K
          try simp only [Act.put, List.getElem_toArray, List.getElem_cons_zero, List.getElem_cons_succ, List.setIfInBounds_toArray, List.set_cons_zero, List.set_cons_succ]
          refine wpAnyIn_ready (rs := [3]) (by kernel_rfl) (by simp) ?_
          refine AllReadyIn.cons rfl (fun K hK => ?_) AllReadyIn.nil
          go_simp
          refine hK _ _ ?_
          clear hK K
          try simp only [Act.put, List.getElem_toArray, List.getElem_cons_zero, List.getElem_cons_succ, List.setIfInBounds_toArray, List.set_cons_zero, List.set_cons_succ]
          refine wpAnyIn_ready (rs := [4]) (by kernel_rfl) (by simp) ?_
          refine AllReadyIn.cons rfl (fun K hK => ?_) AllReadyIn.nil
          go_simp
          refine hK _ _ ?_
          clear hK K
          try simp only [Act.put, List.getElem_toArray, List.getElem_cons_zero, List.getElem_cons_succ, List.setIfInBounds_toArray, List.set_cons_zero, List.set_cons_succ]
          refine wpAnyIn_ready (rs := [5]) (by kernel_rfl) (by simp) ?_
          refine AllReadyIn.cons rfl (fun K hK => ?_) AllReadyIn.nil
          go_simp
          refine hK _ _ ?_
          clear hK K
          try simp only [Act.put, List.getElem_toArray, List.getElem_cons_zero, List.getElem_cons_succ, List.setIfInBounds_toArray, List.set_cons_zero, List.set_cons_succ]
          refine wpAnyIn_done (by kernel_rfl) ?_ _
          gi_wp2
          obtain ⟨Z, hZ⟩ : ∃ Z, (((U.setCell ⟨n0 + 1, 0, none⟩ (.int .i64 (x : Int))).setCell ⟨n0 + 1 + 1, 0, none⟩ (.int .i64 (j : Int))).setCell ⟨n0 + 1 + 1 + 1, 0, none⟩ (.bool true)).setCell ⟨n0 + 1 + 1 + 1 + 1, 0, none⟩ (.int .i64 0) = Z := ⟨_, rfl⟩
          rw [hZ]
          obtain ⟨h1, h2, h3⟩ := HI.out.r4.fill (x : Int) (j : Int) true 0 hZ (n0 := n0) (by omega)
          exact ⟨(h3.trans (KeepsOthers.drew Z)).from _, rfl, x, rfl, h1.below (drew_below Z), (HI.out.lo.trans h2).trans ((drew_below Z).mono (by have := blk_lt h1.c0; omega)), (HI.out.mks.others (h3.from n0) (Nat.le_refl _)).below (drew_below Z)⟩
        case done =>
          rintro D xs U hD rfl ⟨hnil, hI, hs⟩ hdD
          have z0 : U.cell? ⟨b10 + 1, 0, none⟩ = some (.int .i64 xa) := by rw [cell_of_row _ _ _ _ _ _ hI.bo]; rfl
          have z1 : U.cell? ⟨b10 + 1, 1, none⟩ = some (.int .i64 xk) := by rw [cell_of_row _ _ _ _ _ _ hI.bo]; rfl
          have z2 : U.cell? ⟨b10 + 1, 2, none⟩ = some (.int .i64 xp) := by rw [cell_of_row _ _ _ _ _ _ hI.bo]; rfl
          have z3 : U.cell? ⟨b10 + 1, 3, none⟩ = some (.int .i64 xv) := by rw [cell_of_row _ _ _ _ _ _ hI.bo]; rfl
          have hadd := add_calls (fun k => P1 k ∧ k < U.heap.size) bf nF (foF (l.take j)) ⟨xa, xk, xp, xv⟩ U (fun k h => h.2) (hI.fo.imp (fun k h => Or.inl h.1)) H9.out.2.2.2.2.1 (by rw [foF_tr]; have := HL.out; simp; omega) H9.out.2.2.2.2.2.2
          have HI := Lib.hid (And.intro hI (And.intro hnil (And.intro hdD (And.intro hD hs))))
          have HADD := Lib.hid hadd
          clear hI hnil hdD hD hs hadd
          go_wp2_with ((with_reducible refine (HADD.out).mono ?_); rintro e w5 ⟨rfl, hf5, hk5⟩; have H5 := Lib.hid (And.intro hf5 hk5); clear hf5 hk5)
          refine Handed.intro (l.length - (j + 1)) (by have := HQ.out.2.2; omega) (HJ.out _ _ _ ⟨_, _, _, _, _, _, _, _, _, _, _, _, _, _, _, _, _, j + 1, D :: Ds, rfl, by omega, by go_num, ?_, ?_⟩)
          · rw [rcR_succ, HQ.out.2.1]
            show (rcAt l j).head?.map _ = none
            rw [rcAt_eq hlt, HQ.out.1, HI.out.2.1]; rfl
          · obtain ⟨hI, hnil, hdD, hD, hs⟩ := HI.out
            obtain ⟨hf5, hk5⟩ := H5.out
            obtain ⟨va, vb, hFw⟩ := hI.fo
            have hnFU : nF ≤ U.heap.size := hFw.bw
            have hDU : D < U.heap.size := (Array.getElem?_eq_some_iff.1 hdD).1
            have hn5 : n0 + 5 ≤ nF := by have := HX.out.2.1; have := H1.out.size; have := HnF.out; omega
            have hb10D : b10 ≤ D := by have := H8.out.2.2.2.2; have := H9.out.1.bo; have := blk_lt this; omega
            have hk : ∀ k, P1 k → k < U.heap.size → w5.heap[k]? = U.heap[k]? := fun k h1 h2 => hk5.block k h2 ⟨h1, h2⟩
            refine ⟨hI.r4.keep (fun q o hq ho h1 h2 => hk q (H8.out.2.2.1.1 q (by omega)) (Array.getElem?_eq_some_iff.1 hq).1), hI.lo.trans (hk5.low (by omega) (fun k h => ⟨H8.out.2.2.1.1 k (by omega), by omega⟩)), Mks.cons H9.out.1.mks (by have := H9.out.2.2.1; have := H9.out.2.2.2.1; omega) hD (hI.mks.keep (fun E hE => hk E (H8.out.2.2.1.2.1 E hE) (hI.mks.lt hE))) ((hk D (H8.out.2.2.1.2.2 D hb10D) hDU).trans hdD), ?_⟩
            refine ⟨fun k => P1 k ∧ k < U.heap.size, by rw [foF_take hlt, HQ.out.1]; exact hf5, fun k h => ⟨H8.out.2.2.1.1 k h, by omega⟩, fun E hE => ?_⟩
            rcases List.mem_cons.1 hE with rfl | hE
            · exact ⟨H8.out.2.2.1.2.2 _ hb10D, hDU⟩
            · exact ⟨H8.out.2.2.1.2.1 E hE, hI.mks.lt hE⟩
        case stop =>
          rintro D c' pre U hD hpre ⟨rfl, x, rfl, hr4, hlow, hmk⟩ hdD
          have he : raceT c l = ((x : Int), (j : Int), true, 0) := by
            unfold raceT
            rw [if_pos HK.out, rcR_stay (n := j + 1) (x := (x, j)) ?_ _ (by omega)]
            rw [rcR_succ, HQ.out.2.1]
            show (rcAt l j).head?.map _ = _
            rw [rcAt_eq hlt, HQ.out.1]
            obtain ⟨t, ht⟩ := hpre
            rw [← ht]; rfl
          have hm := Mks.cons H9.out.1.mks (by have := H9.out.2.2.1; have := H9.out.2.2.2.1; omega) hD hmk hdD
          have HE := Lib.hid (And.intro hr4 (And.intro hlow (And.intro hm he)))
          clear hr4 hlow hmk hm he hdD hD hpre
          gi_wp2
          exact race_end HW.out.2 _ rfl rfl rfl rfl HE.out.1 HE.out.2.1 HE.out.2.2.1 HE.out.2.2.2
      · have hd : decide (j < l.length) = false := decide_eq_false hlt
        obtain rfl : j = l.length := by omega
        have he : raceT c l = (0, 0, false, 0) := by unfold raceT; rw [if_pos HK.out, hnone]
        obtain ⟨z0, z1, z2, z3⟩ := hI.r4.cells
        obtain ⟨f0, f1, f2, f3⟩ := hI.r4.frozen
        have HI := Lib.hid (And.intro hI he)
        clear hI he hnone hi
        go_wp2_with fail
        obtain ⟨Z, hZ⟩ : ∃ Z, (((wr.setCell ⟨n0 + 1, 0, none⟩ (.int .i64 0)).setCell ⟨n0 + 1 + 1, 0, none⟩ (.int .i64 0)).setCell ⟨n0 + 1 + 1 + 1, 0, none⟩ (.bool false)).setCell ⟨n0 + 1 + 1 + 1 + 1, 0, none⟩ (.int .i64 0) = Z := ⟨_, rfl⟩
        rw [hZ]
        obtain ⟨h1, h2, h3⟩ := HI.out.1.r4.fill 0 0 false 0 hZ (n0 := n0) (by omega)
        exact race_end HW.out.2 _ rfl rfl rfl rfl h1 (HI.out.1.lo.trans h2) (HI.out.1.mks.others (h3.from n0) (Nat.le_refl _)) HI.out.2
  · have hkc : (chkF c l != 0) = true := by rw [bne_iff_ne]; exact hk
    have he : raceT c l = (0, 0, false, chkF c l) := by unfold raceT; rw [if_neg hk]
    have HE := Lib.hid he
    clear hk he
    go_upto_region 1 with fail
    rw [HW.out.1]
    try rw [HW.out.2]
    go_upto_region 3 with ((with_reducible refine (HC.out).mono ?_); rintro e w1 ⟨rfl, hb1⟩; have H1 := Lib.hid hb1; clear hb1)
    have hr := HX.out.2.2.1.below H1.out
    obtain ⟨z0, z1, z2, z3⟩ := hr.cells
    obtain ⟨f0, f1, f2, f3⟩ := hr.frozen
    have HR := Lib.hid hr
    clear hr x0 x1 x2 x3
    go_wp2_with fail
    obtain ⟨Z, hZ⟩ : ∃ Z, (((w1.setCell ⟨n0 + 1, 0, none⟩ (.int .i64 0)).setCell ⟨n0 + 1 + 1, 0, none⟩ (.int .i64 0)).setCell ⟨n0 + 1 + 1 + 1, 0, none⟩ (.bool false)).setCell ⟨n0 + 1 + 1 + 1 + 1, 0, none⟩ (.int .i64 (chkF c l)) = Z := ⟨_, rfl⟩
    rw [hZ]
    obtain ⟨h1, h2, h3⟩ := HR.out.fill 0 0 false (chkF c l) hZ (n0 := n0) (by omega)
    exact race_end (Ds := []) HW.out.2 _ rfl rfl rfl rfl h1 ((HX.out.1.trans (H1.out.mono (by rw [← HW.out.2]; exact HX.out.1.size))).trans h2) (Mks.nil _ _) HE.out
end Go.Proofs.Ytggidakiflnhhaa
