import Derived.Test.YtggidakiflnhhaaAL
namespace Go.Proofs.Ytggidakiflnhhaa
open Go.RowKit
set_option maxHeartbeats 16000000
set_option maxRecDepth 100000
set_option linter.unusedSimpArgs false
set_option linter.unusedVariables false

theorem RS.turn {c : Cf} {bm bc : Nat} {X : Nat → Prop} {A : AS} {w w' : World} (h : RS c bm bc X A w) {b : Nat} (hX : X b) (h1 : b ≠ bm) (h2 : b ≠ bc) (hg : w.grownBy w' (some b)) : RS c bm bc X A w' :=
  h.kept fun k hk hx => hg.block k hk (fun e => by
    obtain rfl := Option.some.inj e
    rcases hx with hx | hx | hx
    · exact hx hX
    · exact h1 hx
    · exact h2 hx)
theorem own_RowR {bm bc n : Nat} {X : Nat → Prop} {w : World} {v : Value} {es : List En} (h : Own encN 13 107 w n v es) (h1 : bm < n) (h2 : bc < n) (hX : ∀ k, X k → k < n) : RowR bm bc X w v es := by
  obtain ⟨P, cp, rfl, hle, hr, hb⟩ := h.form lenN
  refine ⟨P, cp, rfl, hle, hr, fun a ha => ?_, fun h0 a ha => ?_⟩
  · rcases h.2 with ⟨e1, e2⟩ | ⟨g, cap, cur, e1, _⟩
    · obtain ⟨rfl, _, _⟩ := Value.slice.inj e1; cases ha
    · obtain ⟨rfl, _, _⟩ := Value.slice.inj e1
      obtain rfl := Option.some.inj ha
      exact ⟨rfl, rfl⟩
  · obtain ⟨g1, g2⟩ := hb a ha
    exact ⟨by omega, by omega, fun hx => by have := hX _ hx; omega⟩
theorem exec_load_mid {P : Program} {o : Oper} {a : Act} {w : World} (ty : TypeId) (x : Operand) (ho : o.op = .load ty x) (b f : Nat) (hx : a.eval x = .pointer (some ⟨b, f, none⟩)) (cs : List Value) (d : TypeDesc) (hc : w.rangeAt b f cs)
    (hu : P.underlying ty = some d) (hd : d.isRow = true) (hi : (P.info? ty).map (·.size) = some cs.length) : (execOp a.eval o).run P w = .ok (.value (.agg cs.toArray)) w := by
  unfold execOp
  simp only [ho, hx, Instr.loadAt, Instr.sureAddr, Sem.run_bind, Sem.run_pure, Result.andThen_ok, run_loadVar_mid w b f ty cs d hc hu hd hi]
theorem newE_cells (x : Nat) : (newE x).cells = #[.int .i64 (x : Int), .int .i64 0, .int .i64 0, .int .i64 0, .int .i64 0, .bool false, .bool false, .bool false, .bool false, .bool false, .bool false, .bool false, .bool false] := rfl
theorem entA_cs (c : Cf) (A : AS) (k : Nat) (es : List En) (x : Nat) : (entA c A k es x).cs.length = A.cs.length := by unfold entA; simp
/-! ### the state in a box of a function's own -/
structure BxF (bm bc n0 n1 : Nat) (X1 : Nat → Prop) : Prop where
  o1 : n0 < n1
  o2 : n1 < n0 + 2
  o3 : bm < n0
  o4 : bc < n0
  x0 : X1 n0
  x1 : X1 n1
  xl : ∀ k, X1 k → k < n0 + 2
structure BxS (c : Cf) (bm bc n0 n1 : Nat) (X1 : Nat → Prop) (B : AS) (w W : World) : Prop where
  st : W.heap[n0]? = some (.cells (stC c bm bc B) 81 (0, 0))
  zr : W.heap[n1]? = some (.cells stZ 81 (0, 0))
  rs : RS c bm bc X1 B W
  kq : Kq bm bc n0 w W
  sz : n0 + 2 ≤ W.heap.size
theorem bx_open {c : Cf} {bm bc : Nat} {X : Nat → Prop} {A : AS} {w : World} (h : RS c bm bc X A w) (hX : ∀ k, X k → k < w.heap.size) :
    ∃ W1 n0 n1 X1, (w.alloc (.cells (stC c bm bc A) 81)).alloc (.cells stZ 81) = W1 ∧ w.heap.size = n0 ∧ n0 + 1 = n1 ∧ BxF bm bc n0 n1 X1 ∧ (∀ k, X k → X1 k) ∧ BxS c bm bc n0 n1 X1 A w W1 := by
  obtain ⟨W1, hW1, hb1, hz1, x0, x1⟩ := box2 w (.cells (stC c bm bc A) 81) (.cells stZ 81)
  have hlt := h.lts
  refine ⟨W1, w.heap.size, w.heap.size + 1, fun k => X k ∨ k = w.heap.size ∨ k = w.heap.size + 1, hW1, rfl, rfl, ⟨by omega, by omega, hlt.1, hlt.2, Or.inr (Or.inl rfl), Or.inr (Or.inr rfl), ?_⟩, fun k hk => Or.inl hk, ⟨x0, x1, ?_, Kq.of hb1, by omega⟩⟩
  · intro k hk
    rcases hk with hk | hk | hk
    · have := hX k hk; omega
    · omega
    · omega
  · refine (h.ext (fun k hk => ?_)).rest hb1
    rcases hk with hk | hk | hk
    · exact Or.inl hk
    · exact Or.inr (by omega)
    · exact Or.inr (by omega)
section
variable {c : Cf} {bm bc n0 n1 : Nat} {X1 X : Nat → Prop} {A B B' : AS} {w W W' : World}
theorem BxS.rest (h : BxS c bm bc n0 n1 X1 B w W) (hb : Below W.heap.size W W') : BxS c bm bc n0 n1 X1 B w W' :=
  ⟨(hb.block _ (blk_lt h.st)).trans h.st, (hb.block _ (blk_lt h.zr)).trans h.zr, h.rs.rest hb, h.kq.trans (Kq.of (hb.mono (by have := h.sz; omega))), Nat.le_trans h.sz hb.size⟩
theorem BxS.drew (h : BxS c bm bc n0 n1 X1 B w W) : BxS c bm bc n0 n1 X1 B w W.drew := h.rest (bb_drew (Below.refl _ _))
/-- behind a call, the box not yet stored -/
theorem BxS.seen (h : BxS c bm bc n0 n1 X1 B w W) (hF : BxF bm bc n0 n1 X1) (hk : Kq bm bc W.heap.size W W') : W'.heap[n0]? = some (.cells (stC c bm bc B) 81 (0, 0)) ∧ W'.heap[n1]? = some (.cells stZ 81 (0, 0)) ∧ n0 + 2 ≤ W'.heap.size :=
  ⟨(hk.block _ (blk_lt h.st) (by have := hF.o3; omega) (by have := hF.o4; omega)).trans h.st, (hk.block _ (blk_lt h.zr) (by have := hF.o3; have := hF.o1; omega) (by have := hF.o4; have := hF.o1; omega)).trans h.zr, Nat.le_trans h.sz hk.size⟩
theorem BxS.store (h : BxS c bm bc n0 n1 X1 B w W) (hF : BxF bm bc n0 n1 X1) (hr : RS c bm bc X1 B' W') (hk : Kq bm bc W.heap.size W W') : BxS c bm bc n0 n1 X1 B' w (W'.setRow n0 (stC c bm bc B')) := by
  obtain ⟨h1, h2, h3⟩ := h.seen hF hk
  have a1 := hF.o1
  have a3 := hF.o3
  have a4 := hF.o4
  refine ⟨setRow_heap _ _ _ _ _ _ h1, by rw [setRow_other _ _ _ _ (by omega)]; exact h2, hr.turn hF.x0 (by omega) (by omega) (grownBy_setRow _ _ _), ?_, by simpa using h3⟩
  exact (h.kq.trans (hk.mono (by have := h.sz; omega))).row _ (by omega) (by omega)
theorem BxS.cell (h : BxS c bm bc n0 n1 X1 B w W) : W.cell? ⟨n0, 0, none⟩ = some (.int .i64 c.L) ∧ W.cell? ⟨n0, 1, none⟩ = some (.int .i64 c.W) ∧ W.cell? ⟨n0, 2, none⟩ = some (.int .i64 c.N) ∧ W.cell? ⟨n0, 3, none⟩ = some (.int .i64 c.H) ∧ W.cell? ⟨n0, 4, none⟩ = some (.slice (some ⟨bm, 0, none⟩) B.m.length B.m.length) ∧ W.cell? ⟨n0, 5, none⟩ = some (.slice (some ⟨bc, 0, none⟩) B.cs.length B.cs.length) ∧ W.cell? ⟨n0, 6, none⟩ = some (.int .i64 (B.f : Int)) ∧ W.cell? ⟨n0, 7, none⟩ = some (.int .i64 (B.wr : Int)) ∧ W.cell? ⟨n0, 8, none⟩ = some (.int .i64 (B.h : Int)) := st9 h.st
/-- a row of the table turns -/
theorem BxS.setRow (h : BxS c bm bc n0 n1 X1 B w W) (hF : BxF bm bc n0 n1 X1) (k : Nat) {v : Value} {es : List En} (hr : RowR bm bc X1 W v es) : BxS c bm bc n0 n1 X1 { B with cs := B.cs.set k es } w (W.setCell ⟨bc, k, none⟩ v) := by
  have a1 := hF.o1
  have a3 := hF.o3
  have a4 := hF.o4
  have hg := grownBy_set W bc k v
  refine ⟨?_, (hg.block _ (blk_lt h.zr) (by simp; omega)).trans h.zr, h.rs.setRow k hr, h.kq.set _ _ _ (by have := h.sz; omega) (by omega), Nat.le_trans h.sz hg.size⟩
  rw [hg.block _ (blk_lt h.st) (by simp; omega), h.st]
  simp
/-- a word of the memory turns -/
theorem BxS.setMem (h : BxS c bm bc n0 n1 X1 B w W) (hF : BxF bm bc n0 n1 X1) (k : Nat) (x : Int) : BxS c bm bc n0 n1 X1 { B with m := B.m.set k x } w (W.setCell ⟨bm, k, none⟩ (.int .i64 x)) := by
  have a1 := hF.o1
  have a3 := hF.o3
  have a4 := hF.o4
  have hg := grownBy_set W bm k (.int .i64 x)
  refine ⟨?_, (hg.block _ (blk_lt h.zr) (by simp; omega)).trans h.zr, h.rs.setMem k x, h.kq.set _ _ _ (by have := h.sz; omega) (by omega), Nat.le_trans h.sz hg.size⟩
  rw [hg.block _ (blk_lt h.st) (by simp; omega), h.st]
  simp
/-- a count turns -/
theorem BxS.setCnt (h : BxS c bm bc n0 n1 X1 B w W) (hF : BxF bm bc n0 n1 X1) (j : Nat) (v : Value) (h1 : B'.m = B.m) (h2 : B'.cs = B.cs) (hv : (stC c bm bc B).setIfInBounds j v = stC c bm bc B') : BxS c bm bc n0 n1 X1 B' w (W.setCell ⟨n0, j, none⟩ v) := by
  have a1 := hF.o1
  have a3 := hF.o3
  have a4 := hF.o4
  have hg := grownBy_set W n0 j v
  refine ⟨?_, (hg.block _ (blk_lt h.zr) (fun e => by have := Option.some.inj e; omega)).trans h.zr, (h.rs.turn hF.x0 (by omega) (by omega) hg).same h1 h2, h.kq.set _ _ _ (by have := h.sz; omega) (by omega), Nat.le_trans h.sz hg.size⟩
  rw [heap_setCell_same W n0 j _ 81 _ h.st, hv]
/-- the result is stored -/
theorem BxS.done (h : BxS c bm bc n0 n1 X1 B w W) (hF : BxF bm bc n0 n1 X1) (hX : ∀ k, X k → X1 k) : (W.setRow n1 (stC c bm bc B)).heap[n1]? = some (.cells (stC c bm bc B) 81 (0, 0)) ∧ RS c bm bc X B (W.setRow n1 (stC c bm bc B)) ∧ Kq bm bc n0 w (W.setRow n1 (stC c bm bc B)) := by
  have a1 := hF.o1
  have a3 := hF.o3
  have a4 := hF.o4
  exact ⟨setRow_heap _ _ _ _ _ _ h.zr, (h.rs.turn hF.x1 (by omega) (by omega) (grownBy_setRow _ _ _)).weak hX, h.kq.row _ (by have := h.sz; omega) (by omega)⟩
theorem BxS.row (h : BxS c bm bc n0 n1 X1 B w W) {k : Nat} {es : List En} (hk : B.cs[k]? = some es) : ∃ P cp, W.cell? ⟨bc, k, none⟩ = some (.slice P es.length cp) ∧ W.frozen? ⟨bc, k, none⟩ = false ∧ es.length ≤ cp ∧ Rd encN 13 W P es ∧ (∀ a, P = some a → a.off = 0 ∧ a.spot = none) ∧ RowR bm bc X1 W (.slice P es.length cp) es := h.rs.row hk
end
theorem RowR.rd {bm bc : Nat} {X : Nat → Prop} {W : World} {P : Option Addr} {n cp : Nat} {es : List En} (h : RowR bm bc X W (.slice P n cp) es) : Rd encN 13 W P es := by
  obtain ⟨P', cp', hv', h1, h2, h4, h3⟩ := h
  obtain ⟨rfl, _, _⟩ := Value.slice.inj hv'
  exact h2
theorem RowR.box {bm bc : Nat} {X : Nat → Prop} {W W' : World} {v : Value} {es : List En} (h : RowR bm bc X W v es) {b : Nat} (hb : X b) (hg : W.grownBy W' (some b)) : RowR bm bc X W' v es :=
  h.keep fun j hj hx _ _ => hg.block j hj (fun e => by obtain rfl := Option.some.inj e; exact hx hb)
theorem RowR.call {bm bc N : Nat} {X : Nat → Prop} {W W' : World} {v : Value} {es : List En} (h : RowR bm bc X W v es) (hk : Kq bm bc N W W') (hN : W.heap.size ≤ N) : RowR bm bc X W' v es :=
  h.keep fun j hj _ e1 e2 => hk.block j (by omega) e1 e2
/-- memory and counts behind the writing of the entry that has to go -/
def evB (c : Cf) (A : AS) (es : List En) : AS := if (es.length : Int) = c.N then wb A (es.headD (newE 0)) else A
theorem evB_cs (c : Cf) (A : AS) (es : List En) : (evB c A es).cs = A.cs := by unfold evB; split <;> simp [wb_cs]
theorem entA_evB (c : Cf) (A : AS) (k : Nat) (es : List En) (x : Nat) : ({ evB c A es with cs := (evB c A es).cs.set k (evL c es ++ [newE x]) } : AS) = entA c A k es x := by
  rw [evB_cs]
  unfold entA evA evB
  split <;> rfl
theorem added_calls {c : Cf} {bm bc : Nat} {X : Nat → Prop} {A : AS} {w : World} (h : RS c bm bc X A w) (hA : Ok c A) (hX : ∀ k, X k → k < w.heap.size) (hw : cnt A ≤ 900000000) {k : Nat} {es : List En} (hk : A.cs[k]? = some es) (x : Nat) :
    Calls Try.prog 51 #[.agg (stC c bm bc A), .int .i64 (k : Int), .int .i64 (x : Int)] w (StPost c bm bc X (entA c A k es x) w) := by
  obtain ⟨W1, n0, n1, X1, hW1, hn0, hn1, hF, hX1, hS⟩ := bx_open h hX
  obtain ⟨P, cp, hcell, hfz, hle, hrd, hP, hrow⟩ := hS.row hk
  obtain ⟨y0, y1, y2, y3, y4, y5, y6, y7, y8⟩ := hS.cell
  have hkl : k < A.cs.length := (List.getElem?_eq_some_iff.1 hk).1
  have hklI : (k : Int) < (A.cs.length : Int) := by omega
  have hml := hA.ml
  have hlen := hA.len k es hk
  obtain ⟨o1, o2, o3, o4, o5, o6, o7, o8, o9⟩ := hA.cf
  have hcn : A.wr ≤ cnt A := by unfold cnt; omega
  have HB := Lib.hid (show A.m.length ≤ 256 ∧ A.wr < 1000000000 ∧ (es.length : Int) ≤ c.N ∧ es.length ≤ 16 ∧ 1 ≤ c.N by omega)
  have HW := Lib.hid (And.intro hW1 (And.intro hn0 hn1))
  have HF := Lib.hid hF
  have HX := Lib.hid (And.intro hS (And.intro hrow (And.intro hP (And.intro hrd hX1))))
  have HL := Lib.hid (And.intro hk (And.intro (hA.lin k es) (And.intro hle hkl)))
  clear hW1 hn0 hn1 hF hX1 hS y0 y1 y3 y4 y6 y7 y8 hml hlen o1 o2 o3 o4 o5 o6 o7 o8 o9 hcn hw hA hrow hrd hP hfz hk hkl hX h hle
  go_enter Try.func51, Try.ntmps51
  go_upto_region 1 with fail
  rw [HW.out.1]
  rw [HW.out.2.1, HW.out.2.2]
  go_upto_if 18 with fail
  go_cut [7] (fun v7 wx => ∃ P' cp', v7 = .slice P' (evL c es).length cp' ∧ (evL c es).length ≤ cp' ∧ Rd encN 13 wx P' (evL c es) ∧ BxS c bm bc n0 n1 X1 (evB c A es) w wx)
  case first =>
   by_cases hf : (es.length : Int) = c.N
   · have hpos2 : 0 < es.length := by have := HB.out.2.2.2.2; omega
     obtain ⟨e0, he0⟩ : ∃ e0, es[0] = e0 := ⟨_, rfl⟩
     obtain ⟨a, rfl, _⟩ := HX.out.2.2.2.1.cell 0 hpos2
     have hmem : e0 ∈ es := by rw [← he0]; exact List.getElem_mem _
     have HE := Lib.hid (And.intro he0 hmem)
     clear he0 hmem
     obtain ⟨hP1, hP2⟩ := HX.out.2.2.1 a rfl
     obtain ⟨g, go, gs⟩ := a
     simp only at hP1 hP2
     subst hP1
     subst hP2
     have hd : decide ((es.length : Int) = c.N) = true := decide_eq_true hf
     have hd2 : ((es.length : Int) == c.N) = true := by simpa using hf
     have HFU := Lib.hid hf
     clear hf
     have hpos : (0 : Int) < (es.length : Int) := by omega
     go_upto_region 3 with fail
     clear hcell y2 y5
     have h3r : W1.rangeAt g 0 (encN e0) := by have := rd_range HX.out.2.2.2.1 0 hpos2; rwa [Nat.zero_mul, HE.out.1] at this
     have HC := Lib.hid (written_calls HX.out.1.drew.rs e0 (HL.out.2.1 e0 HL.out.1 HE.out.2) HB.out.1 HB.out.2.1 : Calls Try.prog 54 #[.agg (stC c bm bc A), .agg e0.cells] W1.drew (WrPost c bm bc X1 A e0 W1.drew))
     have HR := Lib.hid h3r
     clear h3r
     refine wp_region_held_drew (S := (fun w' => w'.rangeAt g 0 (encN e0))) (by kernel_rfl) ?_ (fun hHelda => ?_)
     · (try dsimp only); exact HR.out
     refine wpAnyH_take (i := 1) (oi := _) (v := ?va1) rfl (by kernel_rfl) (by kernel_rfl) (by kernel_rfl) (fun _ _ _ h => h) (Or.inl ⟨by rfl, ?hya1⟩) (by assumption) ?resta1
     case hya1 => (intro w hSw; (try dsimp only at hSw); go_simp; all_goals with_reducible rfl)
     try simp only [Act.put, List.getElem_toArray, List.getElem_cons_zero, List.getElem_cons_succ, List.setIfInBounds_toArray, List.set_cons_zero, List.set_cons_succ]
     refine wpAnyH_take (i := 2) (oi := _) (v := ?va2) rfl (by kernel_rfl) (by kernel_rfl) (by kernel_rfl) (fun _ _ _ h => h) (Or.inl ⟨by rfl, ?hya2⟩) (by assumption) ?resta2
     case hya2 => (intro w hSw; (try dsimp only at hSw); go_simp; all_goals with_reducible rfl)
     try simp only [Act.put, List.getElem_toArray, List.getElem_cons_zero, List.getElem_cons_succ, List.setIfInBounds_toArray, List.set_cons_zero, List.set_cons_succ]
     refine wpAnyH_take (i := 3) (oi := _) (v := ?va3) rfl (by kernel_rfl) (by kernel_rfl) (by kernel_rfl) (fun _ _ _ h => h) (Or.inl ⟨by rfl, ?hya3⟩) (by assumption) ?resta3
     case hya3 => (intro w hSw; (try dsimp only at hSw); (refine exec_load_mid 107 (.tmp 22) ?_ g 0 ?_ (encN e0) _ hSw Try.underlying107 rfl info107s) <;> rfl)
     try simp only [Act.put, List.getElem_toArray, List.getElem_cons_zero, List.getElem_cons_succ, List.setIfInBounds_toArray, List.set_cons_zero, List.set_cons_succ]
     refine wpAnyH_ready (rs := [0]) (by kernel_rfl) (by simp) ?_
     refine AllReadyH.cons (o := _) rfl (fun K hK => ?_) AllReadyH.nil
     refine wp_load_row 81 (.tmp 3) rfl n0 rfl 81 (stC c bm bc A) (0, 0) _ HX.out.1.st Try.underlying81 rfl info81s ?_
     refine hK.out _ _ ?_ (fun hHelda4 => ?_)
     · (try dsimp only); exact HR.out
     clear hK K hHelda
     try simp only [Act.put, List.getElem_toArray, List.getElem_cons_zero, List.getElem_cons_succ, List.setIfInBounds_toArray, List.set_cons_zero, List.set_cons_succ]
     refine wpAnyH_ready (rs := [4]) (by kernel_rfl) (by simp) ?_
     refine AllReadyH.cons (o := _) rfl (fun K hK => ?_) AllReadyH.nil
     go_simp
     try go_wp2_with fail
     (with_reducible refine (HC.out).mono ?_); rintro y w5 ⟨rfl, hr5, hk5⟩
     have hro5 := (HX.out.2.1.call (Kq.drew (Kq.refl W1)) (Nat.le_refl _)).call hk5 (Nat.le_refl _)
     have hrd5 : w5.rangeAt g 0 (encN e0) := by have := rd_range hro5.rd 0 hpos2; rwa [Nat.zero_mul, HE.out.1] at this
     have hrd6 : (w5.setRow n0 (stC c bm bc (wb A e0))).rangeAt g 0 (encN e0) := by have := rd_range (hro5.box HF.out.x0 (grownBy_setRow w5 n0 (stC c bm bc (wb A e0)))).rd 0 hpos2; rwa [Nat.zero_mul, HE.out.1] at this
     have H5 := Lib.hid (And.intro hr5 hk5)
     have HR5 := Lib.hid hrd5
     have HR6 := Lib.hid hrd6
     clear hr5 hk5 hrd5 hro5 hrd6
     refine hK.out _ _ ?_ (fun hHelda5 => ?_)
     · (try dsimp only); exact HR5.out
     clear hK K hHelda4
     try simp only [Act.put, List.getElem_toArray, List.getElem_cons_zero, List.getElem_cons_succ, List.setIfInBounds_toArray, List.set_cons_zero, List.set_cons_succ]
     refine wpAnyH_take (i := 5) (oi := _) (v := ?va6) rfl (by kernel_rfl) (by kernel_rfl) (by kernel_rfl) (fun _ _ _ h => h) (Or.inl ⟨by rfl, ?hya6⟩) (by assumption) ?resta6
     case hya6 => (intro w hSw; (try dsimp only at hSw); go_simp; all_goals with_reducible rfl)
     try simp only [Act.put, List.getElem_toArray, List.getElem_cons_zero, List.getElem_cons_succ, List.setIfInBounds_toArray, List.set_cons_zero, List.set_cons_succ]
     refine wpAnyH_take (i := 6) (oi := _) (v := ?va7) rfl (by kernel_rfl) (by kernel_rfl) (by kernel_rfl) (fun _ _ _ h => h) (Or.inl ⟨by rfl, ?hya7⟩) (by assumption) ?resta7
     case hya7 => (intro w hSw; (try dsimp only at hSw); go_simp; all_goals with_reducible rfl)
     try simp only [Act.put, List.getElem_toArray, List.getElem_cons_zero, List.getElem_cons_succ, List.setIfInBounds_toArray, List.set_cons_zero, List.set_cons_succ]
     refine wpAnyH_take (i := 7) (oi := _) (v := ?va8) rfl (by kernel_rfl) (by kernel_rfl) (by kernel_rfl) (fun _ _ _ h => h) (Or.inl ⟨by rfl, ?hya8⟩) (by assumption) ?resta8
     case hya8 => (intro w hSw; (try dsimp only at hSw); go_simp; all_goals with_reducible rfl)
     try simp only [Act.put, List.getElem_toArray, List.getElem_cons_zero, List.getElem_cons_succ, List.setIfInBounds_toArray, List.set_cons_zero, List.set_cons_succ]
     refine wpAnyH_ready (rs := [8]) (by kernel_rfl) (by simp) ?_
     refine AllReadyH.cons (o := _) rfl (fun K hK => ?_) AllReadyH.nil
     refine wp_store_row 81 (.tmp 3) (.tmp 25) rfl n0 (stC c bm bc (wb A e0)) rfl rfl 81 (stC c bm bc A) (HX.out.1.drew.seen HF.out H5.out.2).1 info81s rfl (stC_one _ _ _ _) ?_
     refine hK.out _ _ ?_ (fun hHelda9 => ?_)
     · (try dsimp only); exact HR6.out
     clear hK K hHelda5
     try simp only [Act.put, List.getElem_toArray, List.getElem_cons_zero, List.getElem_cons_succ, List.setIfInBounds_toArray, List.set_cons_zero, List.set_cons_succ]
     refine wpAnyH_done (by kernel_rfl) ?_ _
     skip
     obtain ⟨W6, hW6⟩ : ∃ W, w5.setRow n0 (stC c bm bc (wb A e0)) = W := ⟨_, rfl⟩
     rw [hW6]
     have hS6 : BxS c bm bc n0 n1 X1 (wb A e0) w W6 := by rw [← hW6]; exact HX.out.1.drew.store HF.out H5.out.1 H5.out.2
     have hrd6 : RowR bm bc X1 W6 (.slice (some ⟨g, 0, none⟩) es.length cp) es := by
       rw [← hW6]
       exact ((HX.out.2.1.call (Kq.drew (Kq.refl W1)) (Nat.le_refl _)).call H5.out.2 (Nat.le_refl _)).box HF.out.x0 (grownBy_setRow _ _ _)
     have e1 : evL c es = es.tail := if_pos HFU.out
     have e2 : evB c A es = wb A e0 := by
       unfold evB; rw [if_pos HFU.out]
       have := HE.out.1
       cases es with
       | nil => simp at hpos2
       | cons e es => simp at this; subst this; rfl
     have htl : es.tail.length = es.length - 1 := by simp
     have H7 := Lib.hid (And.intro e1 (And.intro e2 (And.intro htl (And.intro hS6 hrd6))))
     have HL1 := HL.out.2.2.1
     have hcp1 : (1 : Int) ≤ (es.length : Int) := by omega
     have hcp0 : 1 ≤ cp := by omega
     have hcp2 : 1 ≤ es.length := by omega
     clear e1 e2 htl hS6 hrd6 hW6
     by_cases hcap : cp = 1
     · subst hcap
       have hone : es.length = 1 := by omega
       have HON := Lib.hid hone
       clear hone HL1
       go_wp2_with fail
       go_meet
       refine ⟨_, _, by rw [H7.out.1, H7.out.2.2.1], ?_, ?_, ?_⟩
       · rw [H7.out.1]; have := H7.out.2.2.1; have := HON.out; omega
       · rw [H7.out.1, List.eq_nil_of_length_eq_zero (show es.tail.length = 0 by have := H7.out.2.2.1; have := HON.out; omega)]; exact Rd.nil _ _ _ _
       · rw [H7.out.2.1]; exact H7.out.2.2.2.1
     · have hcap' : ¬ 1 = cp := fun h => hcap h.symm
       clear HL1
       go_wp2_with fail
       go_meet
       refine ⟨_, _, by rw [H7.out.1, H7.out.2.2.1], ?_, ?_, ?_⟩
       · rw [H7.out.1]; have := H7.out.2.2.1; have := HL.out.2.2.1; omega
       · rw [H7.out.1, ← List.drop_one]; exact rd_dropB H7.out.2.2.2.2.rd 1
       · rw [H7.out.2.1]; exact H7.out.2.2.2.1
   · have hne : ((es.length : Int) == c.N) = false := by simpa using hf
     have e1 : evL c es = es := if_neg hf
     have e2 : evB c A es = A := if_neg hf
     have HE := Lib.hid (And.intro e1 e2)
     clear e1 e2 hf
     go_wp2_with fail
     go_meet
     exact ⟨P, cp, by rw [HE.out.1], by rw [HE.out.1]; exact HL.out.2.2.1, by rw [HE.out.1]; exact HX.out.2.2.2.1, by rw [HE.out.2]; exact HX.out.1⟩
  case rest =>
    obtain ⟨P', cp', rfl, hle', hrd', hS⟩ := hcut
    have hl16 : (evL c es).length ≤ 16 := by
      have := HB.out.2.2.2.1
      unfold evL
      split
      · simp; omega
      · exact this
    have hent := entA_evB c A k es x
    have hbcs : (evB c A es).cs.length = A.cs.length := by rw [evB_cs]
    have hbk : (evB c A es).cs[k]? = some es := by rw [evB_cs]; exact HL.out.1
    obtain ⟨fs, hfs⟩ : ∃ fs, evL c es = fs := ⟨_, rfl⟩
    obtain ⟨B, hB⟩ : ∃ B, evB c A es = B := ⟨_, rfl⟩
    rw [hfs] at hle' hrd' hl16 hent ⊢
    rw [hB] at hS hent hbcs hbk
    have y5 := hS.cell.2.2.2.2.2.1
    rw [hbcs] at y5
    have hS' := hS.drew
    have HS := Lib.hid (And.intro hS (And.intro hrd' (And.intro hent (And.intro hbcs (And.intro hbk hS')))))
    have HO := Lib.hid (show (0 + fs.length) * 48 ≤ 140737488355328 ∧ (fs.length + 1) * 48 ≤ 140737488355328 by omega)
    have hLe := hle'
    clear hcell y2 hS hrd' hent hbcs hbk hS' hfs hB hle' hl16 y5 hLe
    go_upto_region 5 with fail
    have hy5 : ∀ u, Below wc.heap.size wc.drew u → u.cell? ⟨n0, 5, none⟩ = some (.slice (some ⟨bc, 0, none⟩) A.cs.length A.cs.length) := fun u hu => by
      have := ((HS.out.2.2.2.2.2.rest hu).cell).2.2.2.2.2.1
      rw [HS.out.2.2.2.1] at this; exact this
    have HY0 := Lib.hid hy5
    clear hy5
    refine wp_region_held_drew (S := (fun w' => w'.cell? ⟨n0, 5, none⟩ = some (.slice (some ⟨bc, 0, none⟩) A.cs.length A.cs.length))) (by kernel_rfl) ?_ (fun hHeldb => ?_)
    · (try dsimp only); exact HY0.out _ (Below.refl _ _)
    obtain ⟨U, hU⟩ : ∃ U, wc.drew = U := ⟨_, rfl⟩
    rw [hU] at hHeldb ⊢
    obtain ⟨nU, hnU⟩ : ∃ n, wc.heap.size = n := ⟨_, rfl⟩
    have HU := Lib.hid (show Us nU U [] (.slice none 0 0) none (newE x) U from Us.init _ (by rw [← hU, ← hnU]; exact Nat.le_refl _))
    have HV := Lib.hid (show U.heap.size ≤ nU by rw [← hU, ← hnU]; exact Nat.le_refl _)
    have HY := Lib.hid (show ∀ u, Below U.heap.size U u → u.cell? ⟨n0, 5, none⟩ = some (.slice (some ⟨bc, 0, none⟩) A.cs.length A.cs.length) from fun u hu => HY0.out u (by rw [← hU] at hu; exact hu))
    have HN5 := Lib.hid (show n0 + 2 ≤ nU by rw [← hnU]; exact HS.out.1.sz)
    have HS2 := Lib.hid (show BxS c bm bc n0 n1 X1 B w U ∧ Rd encN 13 U P' fs from by rw [← hU]; exact ⟨HS.out.1.drew, HS.out.2.1.drew⟩)
    clear hU hnU
    refine wpAnyH_take (i := 0) (oi := _) (v := ?vb1) rfl (by kernel_rfl) (by kernel_rfl) (by kernel_rfl) (fun _ _ _ h => h) (Or.inl ⟨by rfl, ?hyb1⟩) (by assumption) ?restb1
    case hyb1 => (intro w hSw; (try dsimp only at hSw); go_simp; all_goals with_reducible rfl)
    try simp only [Act.put, List.getElem_toArray, List.getElem_cons_zero, List.getElem_cons_succ, List.setIfInBounds_toArray, List.set_cons_zero, List.set_cons_succ]
    refine wpAnyH_take (i := 1) (oi := _) (v := ?vb2) rfl (by kernel_rfl) (by kernel_rfl) (by kernel_rfl) (fun _ _ _ h => h) (Or.inl ⟨by rfl, ?hyb2⟩) (by assumption) ?restb2
    case hyb2 => (intro w hSw; (try dsimp only at hSw); go_simp; all_goals with_reducible rfl)
    try simp only [Act.put, List.getElem_toArray, List.getElem_cons_zero, List.getElem_cons_succ, List.setIfInBounds_toArray, List.set_cons_zero, List.set_cons_succ]
    refine wpAnyH_take (i := 2) (oi := _) (v := ?vb3) rfl (by kernel_rfl) (by kernel_rfl) (by kernel_rfl) (fun _ _ _ h => h) (Or.inl ⟨by rfl, ?hyb3⟩) (by assumption) ?restb3
    case hyb3 => (intro w hSw; (try dsimp only at hSw); go_simp; all_goals with_reducible rfl)
    try simp only [Act.put, List.getElem_toArray, List.getElem_cons_zero, List.getElem_cons_succ, List.setIfInBounds_toArray, List.set_cons_zero, List.set_cons_succ]
    refine wpAnyH_take (i := 4) (oi := _) (v := ?vb4) rfl (by kernel_rfl) (by kernel_rfl) (by kernel_rfl) (fun _ _ _ h => h) (Or.inl ⟨by rfl, ?hyb4⟩) (by assumption) ?restb4
    case hyb4 => (intro w hSw; (try dsimp only at hSw); go_simp; all_goals with_reducible rfl)
    try simp only [Act.put, List.getElem_toArray, List.getElem_cons_zero, List.getElem_cons_succ, List.setIfInBounds_toArray, List.set_cons_zero, List.set_cons_succ]
    refine wpAnyH_take (i := 6) (oi := _) (v := ?vb5) rfl (by kernel_rfl) (by kernel_rfl) (by kernel_rfl) (fun _ _ _ h => h) (Or.inl ⟨by rfl, ?hyb5⟩) (by assumption) ?restb5
    case hyb5 => (intro w hSw; (try dsimp only at hSw); go_simp; all_goals with_reducible rfl)
    try simp only [Act.put, List.getElem_toArray, List.getElem_cons_zero, List.getElem_cons_succ, List.setIfInBounds_toArray, List.set_cons_zero, List.set_cons_succ]
    refine wpAnyH_take (i := 7) (oi := _) (v := ?vb6) rfl (by kernel_rfl) (by kernel_rfl) (by kernel_rfl) (fun _ _ _ h => h) (Or.inl ⟨by rfl, ?hyb6⟩) (by assumption) ?restb6
    case hyb6 => (intro w hSw; (try dsimp only at hSw); go_simp; all_goals with_reducible rfl)
    try simp only [Act.put, List.getElem_toArray, List.getElem_cons_zero, List.getElem_cons_succ, List.setIfInBounds_toArray, List.set_cons_zero, List.set_cons_succ]
    refine wpAnyH_ready (rs := [3, 8]) (by kernel_rfl) (by simp) ?_
    refine AllReadyH.cons (o := _) rfl (fun K hK => ?_) ?_
    · go_simp
      obtain ⟨Un, hUn⟩ : ∃ W, U.alloc (.cells #[] 107) = W := ⟨_, rfl⟩
      rw [hUn]
      have HUn := Lib.hid (show Us _ _ _ _ _ _ Un by rw [← hUn]; exact HU.out.new)
      clear hUn
      refine hK.out _ _ ?_ (fun hHeldb7 => ?_)
      · (try dsimp only); exact HY.out _ (HUn.out.lo.mono HV.out)
      clear hK K hHeldb
      try simp only [Act.put, List.getElem_toArray, List.getElem_cons_zero, List.getElem_cons_succ, List.setIfInBounds_toArray, List.set_cons_zero, List.set_cons_succ]
      refine wpAnyH_ready (rs := [5, 8]) (by kernel_rfl) (by simp) ?_
      refine AllReadyH.cons (o := _) rfl (fun K hK => ?_) ?_
      · refine wp_append_rowN lenN oneN Un (.tmp 32) (.tmp 33) 85 rfl nU 107 _ 48 Try.underlying85 info107 rfl (by decide) (by decide) _ _ 0 rfl rfl HUn.out.own _ fs.length _ fs rfl rfl (HS2.out.2.below (HUn.out.lo.mono HV.out)) HO.out.1 HUn.out.size fs.length (Nat.zero_add _) fs rfl ?_
        intro B1 c1 Una ho hg hl
        have HUna := Lib.hid (HUn.out.app ho hg hl)
        clear ho hg hl
        refine hK.out _ _ ?_ (fun hHeldb8 => ?_)
        · (try dsimp only); exact HY.out _ (HUna.out.lo.mono HV.out)
        clear hK K hHeldb7
        try simp only [Act.put, List.getElem_toArray, List.getElem_cons_zero, List.getElem_cons_succ, List.setIfInBounds_toArray, List.set_cons_zero, List.set_cons_succ]
        refine wpAnyH_ready (rs := [8]) (by kernel_rfl) (by simp) ?_
        refine AllReadyH.cons (o := _) rfl (fun K hK => ?_) AllReadyH.nil
        go_simp
        obtain ⟨Unax, hUnax⟩ : ∃ W, Una.alloc (.cells (newE x).cells 107) = W := ⟨_, rfl⟩
        simp only [newE_cells] at hUnax
        rw [hUnax]
        have HUnax := Lib.hid (show Us _ _ _ _ _ _ Unax by rw [← hUnax]; exact HUna.out.lay)
        clear hUnax
        refine hK.out _ _ ?_ (fun hHeldb9 => ?_)
        · (try dsimp only); exact HY.out _ (HUnax.out.lo.mono HV.out)
        clear hK K hHeldb8
        try simp only [Act.put, List.getElem_toArray, List.getElem_cons_zero, List.getElem_cons_succ, List.setIfInBounds_toArray, List.set_cons_zero, List.set_cons_succ]
        refine wpAnyH_ready (rs := [9]) (by kernel_rfl) (by simp) ?_
        refine AllReadyH.cons (o := _) rfl (fun K hK => ?_) AllReadyH.nil
        refine wp_append_rowN lenN oneN Unax (.tmp 34) (.tmp 37) 85 rfl nU 107 _ 48 Try.underlying85 info107 rfl (by decide) (by decide) _ fs fs.length rfl rfl HUnax.out.own _ 1 _ [newE x] rfl rfl HUnax.out.rd1 HO.out.2 HUnax.out.size (fs.length + 1) rfl (fs ++ [newE x]) rfl ?_
        intro B2 c2 Unaxb ho hg hl
        have HUnaxb := Lib.hid (HUnax.out.app ho hg hl)
        clear ho hg hl
        refine hK.out _ _ ?_ (fun hHeldb10 => ?_)
        · (try dsimp only); exact HY.out _ (HUnaxb.out.lo.mono HV.out)
        clear hK K hHeldb9
        try simp only [Act.put, List.getElem_toArray, List.getElem_cons_zero, List.getElem_cons_succ, List.setIfInBounds_toArray, List.set_cons_zero, List.set_cons_succ]
        refine wpAnyH_take (i := 10) (oi := _) (v := ?vb11) rfl (by kernel_rfl) (by kernel_rfl) (by kernel_rfl) (fun _ _ _ h => h) (Or.inl ⟨by rfl, ?hyb11⟩) (by assumption) ?restb11
        case hyb11 => (intro w hSw; (try dsimp only at hSw); go_simp; all_goals with_reducible rfl)
        try simp only [Act.put, List.getElem_toArray, List.getElem_cons_zero, List.getElem_cons_succ, List.setIfInBounds_toArray, List.set_cons_zero, List.set_cons_succ]
        refine wpAnyH_ready (rs := [11]) (by kernel_rfl) (by simp) ?_
        refine AllReadyH.cons (o := _) rfl (fun K hK => ?_) AllReadyH.nil
        have hS9 := HS2.out.1.rest (HUnaxb.out.lo.mono HV.out)
        obtain ⟨P9, c9, hc9, hf9, _⟩ := hS9.row HS.out.2.2.2.2.1
        have HZ := Lib.hid (show BxS c bm bc n0 n1 X1 (entA c A k es x) w (Unaxb.setCell ⟨bc, k, none⟩ (.slice B2 (fs.length + 1) c2)) from by rw [← HS.out.2.2.1]; exact hS9.setRow HF.out k (own_RowR HUnaxb.out.own (by have := HF.out.o3; have := HN5.out; omega) (by have := HF.out.o4; have := HN5.out; omega) (fun j hj => by have := HF.out.xl j hj; have := HN5.out; omega)))
        clear hS9
        go_simp
        clear hc9 hf9
        refine hK.out _ _ ?_ (fun hHeldb12 => ?_)
        · (try dsimp only); have := HZ.out.cell.2.2.2.2.2.1; rwa [entA_cs] at this
        clear hK K hHeldb10
        try simp only [Act.put, List.getElem_toArray, List.getElem_cons_zero, List.getElem_cons_succ, List.setIfInBounds_toArray, List.set_cons_zero, List.set_cons_succ]
        refine wpAnyH_done (by kernel_rfl) ?_ _
        obtain ⟨Z, hZ⟩ : ∃ Z, Unaxb.setCell ⟨bc, k, none⟩ (.slice B2 (fs.length + 1) c2) = Z := ⟨_, rfl⟩
        rw [hZ] at HZ ⊢
        have HD := Lib.hid (HZ.out.done HF.out HX.out.2.2.2.2)
        go_wp2_with (first | (refine wpList_load_row rfl 81 (.tmp 3) rfl n0 rfl 81 _ (0, 0) _ HZ.out.st Try.underlying81 rfl info81s ?_) | (refine wpList_store_row rfl 81 (.tmp 6) (.tmp 40) rfl n1 _ rfl rfl 81 _ HZ.out.zr info81s rfl (stC_one _ _ _ _) ?_))
        refine bodyPost_ret (v := .agg (stC c bm bc (entA c A k es x))) (results_cell_row (ty := 81) (p := 6) rfl _ _ n1 81 _ (0, 0) _ rfl HD.out.1 Try.underlying81 rfl info81s) rfl ?_
        unfold StPost
        rw [HW.out.2.1]
        exact ⟨rfl, HD.out.2⟩
      refine AllReadyH.cons (o := _) rfl (fun K hK => ?_) AllReadyH.nil
      go_simp
      obtain ⟨Unx, hUnx⟩ : ∃ W, Un.alloc (.cells (newE x).cells 107) = W := ⟨_, rfl⟩
      simp only [newE_cells] at hUnx
      rw [hUnx]
      have HUnx := Lib.hid (show Us _ _ _ _ _ _ Unx by rw [← hUnx]; exact HUn.out.lay)
      clear hUnx
      refine hK.out _ _ ?_ (fun hHeldb13 => ?_)
      · (try dsimp only); exact HY.out _ (HUnx.out.lo.mono HV.out)
      clear hK K hHeldb7
      try simp only [Act.put, List.getElem_toArray, List.getElem_cons_zero, List.getElem_cons_succ, List.setIfInBounds_toArray, List.set_cons_zero, List.set_cons_succ]
      refine wpAnyH_ready (rs := [5]) (by kernel_rfl) (by simp) ?_
      refine AllReadyH.cons (o := _) rfl (fun K hK => ?_) AllReadyH.nil
      refine wp_append_rowN lenN oneN Unx (.tmp 32) (.tmp 33) 85 rfl nU 107 _ 48 Try.underlying85 info107 rfl (by decide) (by decide) _ _ 0 rfl rfl HUnx.out.own _ fs.length _ fs rfl rfl (HS2.out.2.below (HUnx.out.lo.mono HV.out)) HO.out.1 HUnx.out.size fs.length (Nat.zero_add _) fs rfl ?_
      intro B1 c1 Unxa ho hg hl
      have HUnxa := Lib.hid (HUnx.out.app ho hg hl)
      clear ho hg hl
      refine hK.out _ _ ?_ (fun hHeldb14 => ?_)
      · (try dsimp only); exact HY.out _ (HUnxa.out.lo.mono HV.out)
      clear hK K hHeldb13
      try simp only [Act.put, List.getElem_toArray, List.getElem_cons_zero, List.getElem_cons_succ, List.setIfInBounds_toArray, List.set_cons_zero, List.set_cons_succ]
      refine wpAnyH_ready (rs := [9]) (by kernel_rfl) (by simp) ?_
      refine AllReadyH.cons (o := _) rfl (fun K hK => ?_) AllReadyH.nil
      refine wp_append_rowN lenN oneN Unxa (.tmp 34) (.tmp 37) 85 rfl nU 107 _ 48 Try.underlying85 info107 rfl (by decide) (by decide) _ fs fs.length rfl rfl HUnxa.out.own _ 1 _ [newE x] rfl rfl HUnxa.out.rd1 HO.out.2 HUnxa.out.size (fs.length + 1) rfl (fs ++ [newE x]) rfl ?_
      intro B2 c2 Unxab ho hg hl
      have HUnxab := Lib.hid (HUnxa.out.app ho hg hl)
      clear ho hg hl
      refine hK.out _ _ ?_ (fun hHeldb15 => ?_)
      · (try dsimp only); exact HY.out _ (HUnxab.out.lo.mono HV.out)
      clear hK K hHeldb14
      try simp only [Act.put, List.getElem_toArray, List.getElem_cons_zero, List.getElem_cons_succ, List.setIfInBounds_toArray, List.set_cons_zero, List.set_cons_succ]
      refine wpAnyH_take (i := 10) (oi := _) (v := ?vb16) rfl (by kernel_rfl) (by kernel_rfl) (by kernel_rfl) (fun _ _ _ h => h) (Or.inl ⟨by rfl, ?hyb16⟩) (by assumption) ?restb16
      case hyb16 => (intro w hSw; (try dsimp only at hSw); go_simp; all_goals with_reducible rfl)
      try simp only [Act.put, List.getElem_toArray, List.getElem_cons_zero, List.getElem_cons_succ, List.setIfInBounds_toArray, List.set_cons_zero, List.set_cons_succ]
      refine wpAnyH_ready (rs := [11]) (by kernel_rfl) (by simp) ?_
      refine AllReadyH.cons (o := _) rfl (fun K hK => ?_) AllReadyH.nil
      have hS9 := HS2.out.1.rest (HUnxab.out.lo.mono HV.out)
      obtain ⟨P9, c9, hc9, hf9, _⟩ := hS9.row HS.out.2.2.2.2.1
      have HZ := Lib.hid (show BxS c bm bc n0 n1 X1 (entA c A k es x) w (Unxab.setCell ⟨bc, k, none⟩ (.slice B2 (fs.length + 1) c2)) from by rw [← HS.out.2.2.1]; exact hS9.setRow HF.out k (own_RowR HUnxab.out.own (by have := HF.out.o3; have := HN5.out; omega) (by have := HF.out.o4; have := HN5.out; omega) (fun j hj => by have := HF.out.xl j hj; have := HN5.out; omega)))
      clear hS9
      go_simp
      clear hc9 hf9
      refine hK.out _ _ ?_ (fun hHeldb17 => ?_)
      · (try dsimp only); have := HZ.out.cell.2.2.2.2.2.1; rwa [entA_cs] at this
      clear hK K hHeldb15
      try simp only [Act.put, List.getElem_toArray, List.getElem_cons_zero, List.getElem_cons_succ, List.setIfInBounds_toArray, List.set_cons_zero, List.set_cons_succ]
      refine wpAnyH_done (by kernel_rfl) ?_ _
      obtain ⟨Z, hZ⟩ : ∃ Z, Unxab.setCell ⟨bc, k, none⟩ (.slice B2 (fs.length + 1) c2) = Z := ⟨_, rfl⟩
      rw [hZ] at HZ ⊢
      have HD := Lib.hid (HZ.out.done HF.out HX.out.2.2.2.2)
      go_wp2_with (first | (refine wpList_load_row rfl 81 (.tmp 3) rfl n0 rfl 81 _ (0, 0) _ HZ.out.st Try.underlying81 rfl info81s ?_) | (refine wpList_store_row rfl 81 (.tmp 6) (.tmp 40) rfl n1 _ rfl rfl 81 _ HZ.out.zr info81s rfl (stC_one _ _ _ _) ?_))
      refine bodyPost_ret (v := .agg (stC c bm bc (entA c A k es x))) (results_cell_row (ty := 81) (p := 6) rfl _ _ n1 81 _ (0, 0) _ rfl HD.out.1 Try.underlying81 rfl info81s) rfl ?_
      unfold StPost
      rw [HW.out.2.1]
      exact ⟨rfl, HD.out.2⟩
    refine AllReadyH.cons (o := _) rfl (fun K hK => ?_) AllReadyH.nil
    go_simp
    obtain ⟨Ux, hUx⟩ : ∃ W, U.alloc (.cells (newE x).cells 107) = W := ⟨_, rfl⟩
    simp only [newE_cells] at hUx
    rw [hUx]
    have HUx := Lib.hid (show Us _ _ _ _ _ _ Ux by rw [← hUx]; exact HU.out.lay)
    clear hUx
    refine hK.out _ _ ?_ (fun hHeldb18 => ?_)
    · (try dsimp only); exact HY.out _ (HUx.out.lo.mono HV.out)
    clear hK K hHeldb
    try simp only [Act.put, List.getElem_toArray, List.getElem_cons_zero, List.getElem_cons_succ, List.setIfInBounds_toArray, List.set_cons_zero, List.set_cons_succ]
    refine wpAnyH_ready (rs := [3]) (by kernel_rfl) (by simp) ?_
    refine AllReadyH.cons (o := _) rfl (fun K hK => ?_) AllReadyH.nil
    go_simp
    obtain ⟨Uxn, hUxn⟩ : ∃ W, Ux.alloc (.cells #[] 107) = W := ⟨_, rfl⟩
    rw [hUxn]
    have HUxn := Lib.hid (show Us _ _ _ _ _ _ Uxn by rw [← hUxn]; exact HUx.out.new)
    clear hUxn
    refine hK.out _ _ ?_ (fun hHeldb19 => ?_)
    · (try dsimp only); exact HY.out _ (HUxn.out.lo.mono HV.out)
    clear hK K hHeldb18
    try simp only [Act.put, List.getElem_toArray, List.getElem_cons_zero, List.getElem_cons_succ, List.setIfInBounds_toArray, List.set_cons_zero, List.set_cons_succ]
    refine wpAnyH_ready (rs := [5]) (by kernel_rfl) (by simp) ?_
    refine AllReadyH.cons (o := _) rfl (fun K hK => ?_) AllReadyH.nil
    refine wp_append_rowN lenN oneN Uxn (.tmp 32) (.tmp 33) 85 rfl nU 107 _ 48 Try.underlying85 info107 rfl (by decide) (by decide) _ _ 0 rfl rfl HUxn.out.own _ fs.length _ fs rfl rfl (HS2.out.2.below (HUxn.out.lo.mono HV.out)) HO.out.1 HUxn.out.size fs.length (Nat.zero_add _) fs rfl ?_
    intro B1 c1 Uxna ho hg hl
    have HUxna := Lib.hid (HUxn.out.app ho hg hl)
    clear ho hg hl
    refine hK.out _ _ ?_ (fun hHeldb20 => ?_)
    · (try dsimp only); exact HY.out _ (HUxna.out.lo.mono HV.out)
    clear hK K hHeldb19
    try simp only [Act.put, List.getElem_toArray, List.getElem_cons_zero, List.getElem_cons_succ, List.setIfInBounds_toArray, List.set_cons_zero, List.set_cons_succ]
    refine wpAnyH_ready (rs := [9]) (by kernel_rfl) (by simp) ?_
    refine AllReadyH.cons (o := _) rfl (fun K hK => ?_) AllReadyH.nil
    refine wp_append_rowN lenN oneN Uxna (.tmp 34) (.tmp 37) 85 rfl nU 107 _ 48 Try.underlying85 info107 rfl (by decide) (by decide) _ fs fs.length rfl rfl HUxna.out.own _ 1 _ [newE x] rfl rfl HUxna.out.rd1 HO.out.2 HUxna.out.size (fs.length + 1) rfl (fs ++ [newE x]) rfl ?_
    intro B2 c2 Uxnab ho hg hl
    have HUxnab := Lib.hid (HUxna.out.app ho hg hl)
    clear ho hg hl
    refine hK.out _ _ ?_ (fun hHeldb21 => ?_)
    · (try dsimp only); exact HY.out _ (HUxnab.out.lo.mono HV.out)
    clear hK K hHeldb20
    try simp only [Act.put, List.getElem_toArray, List.getElem_cons_zero, List.getElem_cons_succ, List.setIfInBounds_toArray, List.set_cons_zero, List.set_cons_succ]
    refine wpAnyH_take (i := 10) (oi := _) (v := ?vb22) rfl (by kernel_rfl) (by kernel_rfl) (by kernel_rfl) (fun _ _ _ h => h) (Or.inl ⟨by rfl, ?hyb22⟩) (by assumption) ?restb22
    case hyb22 => (intro w hSw; (try dsimp only at hSw); go_simp; all_goals with_reducible rfl)
    try simp only [Act.put, List.getElem_toArray, List.getElem_cons_zero, List.getElem_cons_succ, List.setIfInBounds_toArray, List.set_cons_zero, List.set_cons_succ]
    refine wpAnyH_ready (rs := [11]) (by kernel_rfl) (by simp) ?_
    refine AllReadyH.cons (o := _) rfl (fun K hK => ?_) AllReadyH.nil
    have hS9 := HS2.out.1.rest (HUxnab.out.lo.mono HV.out)
    obtain ⟨P9, c9, hc9, hf9, _⟩ := hS9.row HS.out.2.2.2.2.1
    have HZ := Lib.hid (show BxS c bm bc n0 n1 X1 (entA c A k es x) w (Uxnab.setCell ⟨bc, k, none⟩ (.slice B2 (fs.length + 1) c2)) from by rw [← HS.out.2.2.1]; exact hS9.setRow HF.out k (own_RowR HUxnab.out.own (by have := HF.out.o3; have := HN5.out; omega) (by have := HF.out.o4; have := HN5.out; omega) (fun j hj => by have := HF.out.xl j hj; have := HN5.out; omega)))
    clear hS9
    go_simp
    clear hc9 hf9
    refine hK.out _ _ ?_ (fun hHeldb23 => ?_)
    · (try dsimp only); have := HZ.out.cell.2.2.2.2.2.1; rwa [entA_cs] at this
    clear hK K hHeldb21
    try simp only [Act.put, List.getElem_toArray, List.getElem_cons_zero, List.getElem_cons_succ, List.setIfInBounds_toArray, List.set_cons_zero, List.set_cons_succ]
    refine wpAnyH_done (by kernel_rfl) ?_ _
    obtain ⟨Z, hZ⟩ : ∃ Z, Uxnab.setCell ⟨bc, k, none⟩ (.slice B2 (fs.length + 1) c2) = Z := ⟨_, rfl⟩
    rw [hZ] at HZ ⊢
    have HD := Lib.hid (HZ.out.done HF.out HX.out.2.2.2.2)
    go_wp2_with (first | (refine wpList_load_row rfl 81 (.tmp 3) rfl n0 rfl 81 _ (0, 0) _ HZ.out.st Try.underlying81 rfl info81s ?_) | (refine wpList_store_row rfl 81 (.tmp 6) (.tmp 40) rfl n1 _ rfl rfl 81 _ HZ.out.zr info81s rfl (stC_one _ _ _ _) ?_))
    refine bodyPost_ret (v := .agg (stC c bm bc (entA c A k es x))) (results_cell_row (ty := 81) (p := 6) rfl _ _ n1 81 _ (0, 0) _ rfl HD.out.1 Try.underlying81 rfl info81s) rfl ?_
    unfold StPost
    rw [HW.out.2.1]
    exact ⟨rfl, HD.out.2⟩
end Go.Proofs.Ytggidakiflnhhaa
