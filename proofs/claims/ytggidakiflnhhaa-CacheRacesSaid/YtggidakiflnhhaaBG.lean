import Derived.Test.YtggidakiflnhhaaBF
namespace Go.Proofs.Ytggidakiflnhhaa
open Go.RowKit Go.Shelf
attribute [local go_sem] Oper.semAt_some
set_option maxHeartbeats 8000000
set_option maxRecDepth 100000
set_option linter.unusedSimpArgs false
set_option linter.unusedVariables false

/-! ### Fence -/
def FencePost (c : Cf) (l : List Op) (w : World) (e : Ending) (w' : World) : Prop :=
  (chkF c l = 0 → ∃ v, e = .returned (.tuple #[v, .int .i64 0]) ∧ Own encP 4 38 w' w.heap.size v (fnF l).tr) ∧ (chkF c l ≠ 0 → e = .returned (.tuple #[.slice none 0 0, .int .i64 (chkF c l)])) ∧ Below w.heap.size w w'
abbrev wiC (f : Nat → Bool) : Array Value := #[.bool (f 0), .bool (f 1), .bool (f 2), .bool (f 3), .bool (f 4), .bool (f 5), .bool (f 6), .bool (f 7)]
theorem wiC_at (f : Nat → Bool) {n : Nat} (h : n < 8) : (wiC f)[n]? = some (.bool (f n)) := by
  have : n = 0 ∨ n = 1 ∨ n = 2 ∨ n = 3 ∨ n = 4 ∨ n = 5 ∨ n = 6 ∨ n = 7 := by omega
  rcases this with rfl | rfl | rfl | rfl | rfl | rfl | rfl | rfl <;> rfl
theorem wiC_set (f : Nat → Bool) {n : Nat} (h : n < 8) : (wiC f).setIfInBounds n (.bool true) = wiC (fun k => f k || decide ((n : Int) = (k : Int))) := by
  have : n = 0 ∨ n = 1 ∨ n = 2 ∨ n = 3 ∨ n = 4 ∨ n = 5 ∨ n = 6 ∨ n = 7 := by omega
  rcases this with rfl | rfl | rfl | rfl | rfl | rfl | rfl | rfl <;> simp [wiC]
theorem idx90 (f : Nat → Bool) (w : World) {n : Nat} (h : n < 8) : (Instr.index 90 (.agg (wiC f)) (.int .i64 (n : Int))).run Try.prog w = .ok (.bool (f n)) w := by
  have : n = 0 ∨ n = 1 ∨ n = 2 ∨ n = 3 ∨ n = 4 ∨ n = 5 ∨ n = 6 ∨ n = 7 := by omega
  rcases this with rfl | rfl | rfl | rfl | rfl | rfl | rfl | rfl <;> (simp [Instr.index, run_underlying Try.underlying90, asIntOf, go_sem]; try rfl)
def sK (s : Fo) (o : Op) (k : Nat) : Fo := ((List.range k).filter (wiB s o)).foldl (fun t k => addF t (relO k)) s
theorem sK_succ (s : Fo) (o : Op) (k : Nat) : sK s o (k + 1) = if wiB s o k = true then addF (sK s o k) (relO k) else sK s o k := by
  unfold sK
  rw [List.range_succ, List.filter_append, List.foldl_append]
  simp only [List.filter_cons, List.filter_nil]
  split <;> rfl
theorem sK_ok {s : Fo} (h : FoOk s) (o : Op) (k : Nat) : FoOk (sK s o k) := adds_ok _ _ h
theorem sK_len (s : Fo) (o : Op) (k : Nat) : (sK s o k).tr.length ≤ s.tr.length + k := by
  unfold sK
  rw [adds_tr]
  have := List.length_filter_le (wiB s o) (List.range k)
  simp at this ⊢
  exact this
theorem fn_at {l : List Op} (hl : ∀ o ∈ l, gdO o) (j : Nat) : FoOk (fnF (l.take j)) ∧ (∀ q ∈ (fnF (l.take j)).tr, gdO q) ∧ (fnF (l.take j)).tr.length ≤ 10 * j := by
  obtain ⟨h1, _, h3, h4⟩ := fnF_all (l := l.take j) (fun o ho => hl o (List.mem_of_mem_take ho))
  exact ⟨h1, h3, Nat.le_trans h4 (by simp; omega)⟩
theorem fn_take {l : List Op} {j : Nat} (hj : j < l.length) : fnF (l.take (j + 1)) = feS (fnF (l.take j)) l[j] := by
  unfold fnF
  rw [List.take_succ_eq_append_getElem hj, List.foldl_append]; rfl
/-- what the rounds of Fence keep -/
structure FeI (w : World) (n0 bf nF b7 : Nat) (s : Fo) (Ds : List Nat) (W : World) : Prop where
  lo : Below n0 w W
  mks : Mks n0 Ds W
  h7 : W.heap[b7]? = some (.cells #[.pointer (some ⟨bf, 0, none⟩)] 88 (0, 0))
  fo : ∃ P, Fol P bf nF s W ∧ (∀ k, k < nF → P k) ∧ (∀ D ∈ Ds, P D) ∧ P b7
structure FeJ (w : World) (n0 bf nF b7 : Nat) (s : Fo) (Ds : List Nat) (P : Nat → Prop) (b : Nat) (o : Op) (f : Nat → Bool) (g : Bool) (W : World) : Prop where
  lo : Below n0 w W
  mks : Mks n0 Ds W
  h7 : W.heap[b7]? = some (.cells #[.pointer (some ⟨bf, 0, none⟩)] 88 (0, 0))
  fo : Fol P bf nF s W
  bo : W.heap[b]? = some (.cells o.cells 38 (0, 0))
  wi : W.heap[b + 1]? = some (.cells (wiC f) 90 (0, 0))
  so : W.heap[b + 1 + 1]? = some (.cells #[.bool g] 4 (0, 0))
section
variable {w : World} {n0 bf nF n9 b7 b : Nat} {s : Fo} {Ds : List Nat} {P : Nat → Prop} {o : Op} {f : Nat → Bool} {g : Bool} {W W' : World} {row : Option Nat}
theorem FeJ.own (h : FeJ w n0 bf nF b7 s Ds P b o f g W) (hn : n0 ≤ n9) (hW : n0 ≤ W.heap.size) (hD : ∀ D ∈ Ds, D < n9) (hg : W.grownBy W' row) (hr : ∀ r, row = some r → n9 ≤ r ∧ ∃ o : Obj, W.heap[r]? = some o ∧ o.isCells = false) : FeJ w n0 bf nF b7 s Ds P b o f g W' :=
  ⟨h.lo.grown hg hW (fun k e => Nat.le_trans hn (hr k e).1), h.mks.keep (fun D hd => hg.block D (h.mks.lt hd) (fun e => by have := (hr D e.symm).1; have := hD D hd; omega)),
    blk_own h.h7 rfl hg (fun r e => (hr r e).2), h.fo.own hg (fun r e => Or.inr (hr r e).2), blk_own h.bo rfl hg (fun r e => (hr r e).2), blk_own h.wi rfl hg (fun r e => (hr r e).2), blk_own h.so rfl hg (fun r e => (hr r e).2)⟩
theorem FeJ.rest (h : FeJ w n0 bf nF b7 s Ds P b o f g W) (hn : n0 ≤ W.heap.size) (hb : Below W.heap.size W W') : FeJ w n0 bf nF b7 s Ds P b o f g W' :=
  ⟨h.lo.trans (hb.mono hn), h.mks.below hb, (hb.block _ (blk_lt h.h7)).trans h.h7, h.fo.rest hb, (hb.block _ (blk_lt h.bo)).trans h.bo, (hb.block _ (blk_lt h.wi)).trans h.wi, (hb.block _ (blk_lt h.so)).trans h.so⟩
theorem FeJ.eqf {f' : Nat → Bool} {g' : Bool} (h : FeJ w n0 bf nF b7 s Ds P b o f g W) (hf : f' = f) (hg : g' = g) : FeJ w n0 bf nF b7 s Ds P b o f' g' W := by rw [hf, hg]; exact h
/-- a racing locale is marked -/
theorem FeJ.mark (h : FeJ w n0 bf nF b7 s Ds P b o f g W) (hn : n0 ≤ b) (h7 : b7 < b) (h1 : P (b + 1)) (h2 : P (b + 1 + 1)) {n : Nat} (hn8 : n < 8) {Z : World} (hZ : (W.setCell ⟨b + 1, n, none⟩ (.bool true)).setCell ⟨b + 1 + 1, 0, none⟩ (.bool true) = Z) :
    FeJ w n0 bf nF b7 s Ds P b o (fun k => f k || decide ((n : Int) = (k : Int))) true Z ∧ KeepsOthers W Z ∧ ∀ Q : Nat → Prop, ¬ Q (b + 1) → ¬ Q (b + 1 + 1) → Ke Q W Z := by
  subst hZ
  have g1 := grownBy_set W (b + 1) n (.bool true)
  have g2 := grownBy_set (W.setCell ⟨b + 1, n, none⟩ (.bool true)) (b + 1 + 1) 0 (.bool true)
  have s1 : (W.setCell ⟨b + 1, n, none⟩ (.bool true)).heap.size = W.heap.size := by simp [World.setCell]
  have k1 : KeepsOthers W ((W.setCell ⟨b + 1, n, none⟩ (.bool true)).setCell ⟨b + 1 + 1, 0, none⟩ (.bool true)) := (KeepsOthers.setCell _ _ _).trans (KeepsOthers.setCell _ _ _)
  have o1 : ∀ (w : World) (a b n : Nat) (v : Value), a ≠ b → (w.setCell ⟨b, n, none⟩ v).heap[a]? = w.heap[a]? := fun w a b n v hab => heap_setCell_other _ _ _ _ (by simpa using hab)
  have hb := blk_lt h.so
  refine ⟨⟨?_, ?_, ?_, ?_, ?_, ?_, ?_⟩, k1, fun Q q1 q2 => ?_⟩
  · exact (h.lo.setCell (show n0 ≤ b + 1 by omega) _).setCell (show n0 ≤ b + 1 + 1 by omega) _
  · exact h.mks.others (k1.from n0) (Nat.le_refl _)
  · rw [o1 _ _ _ _ _ (by omega), o1 _ _ _ _ _ (by omega)]; exact h.h7
  · obtain ⟨va, vb, hF⟩ := h.fo
    exact ⟨va, vb, (hF.beside h1 g1).beside h2 g2⟩
  · rw [o1 _ _ _ _ _ (by omega), o1 _ _ _ _ _ (by omega)]; exact h.bo
  · rw [o1 _ _ _ _ _ (by omega), heap_setCell_same W (b + 1) n _ _ _ h.wi, wiC_set f hn8]
  · exact heap_setCell_same _ (b + 1 + 1) 0 _ _ (.bool true) ((o1 _ _ _ _ _ (by omega)).trans h.so)
  · exact (Ke.grown g1 (fun k e => by obtain rfl := Option.some.inj e; exact q1)).trans (Ke.grown g2 (fun k e => by obtain rfl := Option.some.inj e; exact q2))
end
theorem alloc3' (w : World) (o0 o1 o2 : Obj) {W : World} (h : ((w.alloc o0).alloc o1).alloc o2 = W) : Below w.heap.size w W ∧ W.heap.size = w.heap.size + 3 ∧ W.heap[w.heap.size]? = some o0 ∧ W.heap[w.heap.size + 1]? = some o1 ∧ W.heap[w.heap.size + 1 + 1]? = some o2 := by
  subst h
  refine ⟨(((Below.refl _ w).alloc (Nat.le_refl _) _).alloc (by simp) _).alloc (by simp <;> omega) _, by simp, ?_, ?_, ?_⟩
  · rw [Below.heap_alloc _ _ _ (by simp <;> omega), Below.heap_alloc _ _ _ (by simp)]; exact Go.heap_alloc_new w _
  · rw [Below.heap_alloc _ _ _ (by simp)]
    have := Go.heap_alloc_new (w.alloc o0) o1
    simpa using this
  · have := Go.heap_alloc_new ((w.alloc o0).alloc o1) o2
    simpa using this
theorem own_down {α : Type} {enc : α → List Value} {sz : Nat} {e : TypeId} {w : World} {base base' : Nat} {v : Value} {xs : List α} (h : Own enc sz e w base v xs) (hb : base' ≤ base) : Own enc sz e w base' v xs := by
  obtain ⟨h1, h2⟩ := h
  refine ⟨h1, ?_⟩
  rcases h2 with h2 | ⟨g, cap, cur, e1, hg, rest⟩
  · exact Or.inl h2
  · exact Or.inr ⟨g, cap, cur, e1, Nat.le_trans hb hg, rest⟩
theorem fence_results (tmps : Array Value) (X : World) (v k : Value) (h4 : tmps[4]?.getD undef = v) (h5 : tmps[5]?.getD undef = k) : (results Try.f21 tmps).run Try.prog X = .ok (.tuple #[v, k]) X := by
  simp [results, Try.results21, go_sem, h4, h5]
theorem fence_calls (c : Cf) (l : List Op) (hl2 : chkF c l = 0 → l.length ≤ 200) (A : Option Addr) (cp : Nat) (w : World) (hA : Rd encP 4 w A l) :
    Calls Try.prog 21 #[c.val, .slice A l.length cp] w (FencePost c l w) := by
  obtain ⟨W, hW⟩ : ∃ W, w.alloc (.cells c.cells 25) = W := ⟨_, rfl⟩
  have hb : Below w.heap.size w W := by rw [← hW]; exact (Below.refl _ _).alloc (Nat.le_refl _) _
  have hcf : W.heap[w.heap.size]? = some (.cells c.cells 25 (0, 0)) := by rw [← hW]; exact Go.heap_alloc_new w _
  obtain ⟨n0, hn0⟩ : ∃ n, w.heap.size = n := ⟨_, rfl⟩
  rw [hn0] at hb hcf
  have hsm := hA.small
  have hck := check_calls c l A cp W (hA.below (by rw [hn0]; exact hb))
  have x0 : W.cell? ⟨n0, 0, none⟩ = some (.int .i64 c.L) := by rw [cell_of_row _ _ _ _ _ _ hcf]; rfl
  have x1 : W.cell? ⟨n0, 1, none⟩ = some (.int .i64 c.W) := by rw [cell_of_row _ _ _ _ _ _ hcf]; rfl
  have x2 : W.cell? ⟨n0, 2, none⟩ = some (.int .i64 c.N) := by rw [cell_of_row _ _ _ _ _ _ hcf]; rfl
  have x3 : W.cell? ⟨n0, 3, none⟩ = some (.int .i64 c.H) := by rw [cell_of_row _ _ _ _ _ _ hcf]; rfl
  have hn0W : n0 < W.heap.size := blk_lt hcf
  have HC := Lib.hid hck
  have HW := Lib.hid (And.intro hW hn0)
  have HX := Lib.hid (And.intro hb (And.intro hn0W hA))
  clear hck hW hn0 hb hcf hA hn0W
  refine (callsIn_wide (n := 5)).1 ?_
  refine callsIn_of_wp_marks Try.func21 rfl trivial ?_ rfl
  refine wpIn_wide.2 ?_
  simp only [Try.ntmps21, List.size_toArray, List.length_cons, List.length_nil, Nat.reduceAdd, Nat.reduceSub, Array.replicate_succ, Array.replicate_zero, List.push_toArray, List.append_toArray, List.nil_append, List.cons_append]
  by_cases hk : chkF c l = 0
  · have hkc : (chkF c l != 0) = false := by rw [bne_eq_false_iff_eq]; exact hk
    obtain ⟨hcfk, hops⟩ := chk_parts hk
    have HG := Lib.hid (show ∀ o ∈ l, gdO o from fun o ho => op_gd hcfk (hops o ho))
    have HL := Lib.hid (hl2 hk)
    have HK := Lib.hid hk
    clear hk hcfk hops hl2
    go_upto_region 1 with fail
    rw [HW.out.1]
    try rw [HW.out.2]
    go_upto_region 4 with ((with_reducible refine (HC.out).mono ?_); rintro e w1 ⟨rfl, hb1⟩; have H1 := Lib.hid hb1; clear hb1)
    obtain ⟨nF, hnF⟩ : ∃ n, w1.heap.size = n := ⟨_, rfl⟩
    have hnf := newFollower_calls (fun k => k < w1.heap.size) w1 (fun k h => h)
    rw [hnF] at hnf
    have HNF := Lib.hid hnf
    have HnF := Lib.hid hnF
    clear x0 x1 x2 x3 hnf hnF
    go_upto_region 5 with ((with_reducible refine (HNF.out).mono ?_); rintro e w2 ⟨bf, rfl, hf2, hb2⟩; have H2 := Lib.hid (And.intro hf2 hb2); clear hf2 hb2)
    obtain ⟨w3, hw3⟩ : ∃ w3, w2.alloc (.cells #[.pointer (some ⟨bf, 0, none⟩)] 88) = w3 := ⟨_, rfl⟩
    obtain ⟨b7, hb7⟩ : ∃ b, w2.heap.size = b := ⟨_, rfl⟩
    try rw [hw3]
    try rw [hb7]
    go_upto_block 0 with fail
    have hb3 : Below w2.heap.size w2 w3 := by rw [← hw3]; exact (Below.refl _ _).alloc (Nat.le_refl _) _
    have hx7 : w3.heap[b7]? = some (.cells #[.pointer (some ⟨bf, 0, none⟩)] 88 (0, 0)) := by rw [← hw3, ← hb7]; exact Go.heap_alloc_new _ _
    have hnF0 : n0 < nF := by have := HX.out.2.1; have := H1.out.size; have := HnF.out; omega
    have hFI : FeI w n0 bf nF b7 initF [] w3 := by
      have h12 : Below nF w1 w2 := H2.out.2
      refine ⟨?_, Mks.nil _ _, hx7, fun k => k < nF ∨ w2.heap.size ≤ k, (H2.out.1.imp (fun k h => by rcases h with h | h; exact Or.inl (by have := HnF.out; omega); exact Or.inr h)).rest hb3, fun k h => Or.inl h, (fun D h => by cases h), Or.inr (by omega)⟩
      have h13 : Below nF w1 w3 := h12.trans (hb3.mono (by have := h12.size; have := HnF.out; omega))
      have hW3 : Below W.heap.size W w3 := H1.out.trans (h13.mono (by have := H1.out.size; have := HnF.out; omega))
      exact HX.out.1.trans (hW3.mono (by have := HX.out.2.1; omega))
    have HFI := Lib.hid (And.intro hFI hnF0)
    have HB7 := Lib.hid (show nF ≤ b7 by have := H2.out.2.size; have := HnF.out; omega)
    clear hb3 hx7 hFI hnF0 hw3 hb7
    refine wp_block ?_
    refine wp_loop_ghost_k (fun k a' W => ∃ (v9 v10 v11 v12 v13 v14 v24 v25 v26 v27 v28 v29 v30 v32 v33 v34 v35 v36 v37 v38 v39 v40 v41 v42 v43 v44 v45 v46 v47 v48 v49 v50 v51 v52 v53 v54 v55 v56 v57 v58 v59 v60 v61 v62 v63 v64 v65 v66 v67 : Value) (j : Nat) (Ds : List Nat), a' = { tmps := #[c.val, .slice A l.length cp, .pointer (some ⟨n0, 0, none⟩), undef, .slice none 0 0, .int .i64 0, .int .i64 (chkF c l), .pointer (some ⟨b7, 0, none⟩), undef, v9, v10, v11, v12, v13, v14, .agg c.cells, .slice A l.length cp, .int .i64 (chkF c l), .int .i64 (chkF c l), .bool false, undef, .pointer (some ⟨bf, 0, none⟩), .slice A l.length cp, .int .i64 (l.length : Int), v24, v25, v26, v27, v28, v29, v30, undef, v32, v33, v34, v35, v36, v37, v38, v39, v40, v41, v42, v43, v44, v45, v46, v47, v48, v49, v50, v51, v52, v53, v54, v55, v56, v57, v58, v59, v60, v61, v62, v63, v64, v65, v66, v67, undef, undef, undef, undef], defers := Ds.map mkD } ∧ j + k = l.length ∧ v24 = .int .i64 (j : Int) ∧ FeI w n0 bf nF b7 (fnF (l.take j)) Ds W) l.length ?start ?round
    case start =>
      exact ⟨_, _, _, _, _, _, _, _, _, _, _, _, _, _, _, _, _, _, _, _, _, _, _, _, _, _, _, _, _, _, _, _, _, _, _, _, _, _, _, _, _, _, _, _, _, _, _, _, _, 0, [], rfl, by omega, rfl, HFI.out.1⟩
    case round =>
      rintro gk a' wr ⟨v9, v10, v11, v12, v13, v14, v24, v25, v26, v27, v28, v29, v30, v32, v33, v34, v35, v36, v37, v38, v39, v40, v41, v42, v43, v44, v45, v46, v47, v48, v49, v50, v51, v52, v53, v54, v55, v56, v57, v58, v59, v60, v61, v62, v63, v64, v65, v66, v67, j, Ds, rfl, hi, rfl, hI⟩ J K hJ hK
      by_cases hlt : j < l.length
      · have hd : decide (j < l.length) = true := decide_eq_true hlt
        have hjI : (j : Int) < (l.length : Int) := by omega
        have hn0r : n0 ≤ wr.heap.size := by have := HX.out.2.1; have := blk_lt hI.h7; have := HFI.out.2; have := HB7.out; omega
        obtain ⟨a, rfl, hca⟩ := (HX.out.2.2.below (by rw [HW.out.2]; exact hI.lo)).cell j hlt
        obtain ⟨o, ho⟩ : ∃ o, l[j] = o := ⟨_, rfl⟩
        rw [ho] at hca
        obtain ⟨xa, xk, xp, xv⟩ := o
        have y0 := hca 0 _ rfl
        have y1 := hca 1 _ rfl
        have y2 := hca 2 _ rfl
        have y3 := hca 3 _ rfl
        rw [Nat.add_zero] at y0
        rw [add_field _ _ _ (by decide)] at y1 y2 y3
        obtain ⟨W8, hW8⟩ : ∃ W8, ((wr.alloc (.cells #[.int .i64 xa, .int .i64 xk, .int .i64 xp, .int .i64 xv] 38)).alloc (.cells (wiC (fun _ => false)) 90)).alloc (.cells #[.bool false] 4) = W8 := ⟨_, rfl⟩
        obtain ⟨hb8, hz8, hx9, hx10, hx11⟩ := alloc3' _ _ _ _ hW8
        obtain ⟨P, hP, hPn, hPD, hP7⟩ := hI.fo
        obtain ⟨b9, hb9⟩ : ∃ b, wr.heap.size = b := ⟨_, rfl⟩
        obtain ⟨P1, hP1⟩ : ∃ P1 : Nat → Prop, P1 = fun k => P k ∨ b9 ≤ k := ⟨_, rfl⟩
        rw [hb9] at hx9 hx10 hx11 hz8 hn0r
        have hJ8 : FeJ w n0 bf nF b7 (fnF (l.take j)) Ds P1 b9 ⟨xa, xk, xp, xv⟩ (fun _ => false) false W8 :=
          ⟨hI.lo.trans (hb8.mono (by omega)), hI.mks.below hb8, (hb8.block _ (blk_lt hI.h7)).trans hI.h7, (hP.imp (fun k h => by rw [hP1] at h; rw [hb9]; exact h)).rest hb8, hx9, hx10, hx11⟩
        have hDs : ∀ D ∈ Ds, D < b9 := fun D h => by rw [← hb9]; exact hI.mks.lt h
        have h7b : b7 < b9 := by rw [← hb9]; exact blk_lt hI.h7
        have hPP : (∀ k, k < nF → P1 k) ∧ (∀ D ∈ Ds, P1 D) ∧ (∀ D, b9 ≤ D → P1 D) ∧ P1 b7 := by rw [hP1]; exact ⟨fun k h => Or.inl (hPn k h), fun D h => Or.inl (hPD D h), fun D h => Or.inr h, Or.inl hP7⟩
        have z7 : W8.cell? ⟨b7, 0, none⟩ = some (.pointer (some ⟨bf, 0, none⟩)) := by rw [cell_of_row _ _ _ _ _ _ hJ8.h7]; rfl
        have z0 : W8.cell? ⟨b9, 0, none⟩ = some (.int .i64 xa) := by rw [cell_of_row _ _ _ _ _ _ hJ8.bo]; rfl
        have z1 : W8.cell? ⟨b9, 1, none⟩ = some (.int .i64 xk) := by rw [cell_of_row _ _ _ _ _ _ hJ8.bo]; rfl
        have z2 : W8.cell? ⟨b9, 2, none⟩ = some (.int .i64 xp) := by rw [cell_of_row _ _ _ _ _ _ hJ8.bo]; rfl
        have z3 : W8.cell? ⟨b9, 3, none⟩ = some (.int .i64 xv) := by rw [cell_of_row _ _ _ _ _ _ hJ8.bo]; rfl
        have HQ := Lib.hid (And.intro ho hi)
        have H8 := Lib.hid (And.intro hJ8 (And.intro hDs (And.intro hPP (And.intro hn0r (And.intro h7b (show W8.heap.size = b9 + 3 by omega))))))
        have HW8 := Lib.hid (And.intro hW8 hb9)
        have HJ := Lib.hid hJ
        clear hI ho hi hW8 hca hJ hb8 hz8 hx9 hx10 hx11 hP hPn hPD hP7 hb9 hP1 hJ8 hDs hPP hn0r h7b
        go_upto_region 10 with fail
        rw [HW8.out.1]
        try rw [HW8.out.2]
        clear y0 y1 y2 y3
        go_wp2_with ((with_reducible refine (races_calls bf ⟨xa, xk, xp, xv⟩ W8).mono ?_); rintro e w9 ⟨rfl, hw9⟩; have H9 := Lib.hid hw9; clear hw9)
        obtain ⟨n8, hn8⟩ : ∃ n, W8.heap.size = n := ⟨_, rfl⟩
        rw [hn8]
        obtain ⟨hb9', hz9, hq0, hq1⟩ := alloc2 _ _ _ H9.out.symm
        rw [hn8] at hb9' hz9 hq0 hq1
        have hn8' : n8 = b9 + 3 := by rw [← hn8]; exact H8.out.2.2.2.2.2
        have hJ9 := H8.out.1.rest (by have := H8.out.2.2.2.1; omega) (by rw [hn8]; exact hb9')
        have hgd : ∀ o ∈ l, gdO o := HG.out
        have hoj : gdO ⟨xa, xk, xp, xv⟩ := by rw [← HQ.out.1]; exact hgd _ (List.getElem_mem hlt)
        obtain ⟨hok, hgo, hlen⟩ := fn_at hgd j
        obtain ⟨n9, hn9⟩ : ∃ n, w9.heap.size = n := ⟨_, rfl⟩
        rw [hn9] at hz9
        obtain ⟨va, vb, hFw⟩ := hJ9.fo
        have hRa : RaIn (n8 + 1) n8 bf nF va vb (fnF (l.take j)) ⟨xa, xk, xp, xv⟩ w9 := ⟨hq1, hq0, hFw.imp (fun k h => h.elim)⟩
        have hne : ∀ k, ¬ P1 k → k ≠ b9 + 1 ∧ k ≠ b9 + 1 + 1 := fun k h => ⟨fun e => h (by rw [e]; exact H8.out.2.2.1.2.2.1 _ (by omega)), fun e => h (by rw [e]; exact H8.out.2.2.1.2.2.1 _ (by omega))⟩
        have hst := races_stopsF (fun k => k < n9 ∧ k ≠ b9 + 1 ∧ k ≠ b9 + 1 + 1) (n8 + 1) n8 bf nF va vb (fnF (l.take j)) ⟨xa, xk, xp, xv⟩ ⟨hoj.2.1, hoj.2.2⟩ hok.rl 4 (by omega) w9 hRa (show _ ∧ _ ∧ _ by omega) (show _ ∧ _ ∧ _ by omega) ⟨by rw [← hn9]; exact blk_lt hFw.top, hne _ hFw.pf⟩ (fun k h => ⟨by rw [← hn9]; exact (hFw.tr.blk k h).2.1, hne _ (hFw.pa k h)⟩) (fun k h => ⟨by rw [← hn9]; exact (hFw.re.blk k h).2.1, hne _ (hFw.pb k h)⟩)
        have hD9 : ∀ D ∈ Ds, D < n9 := fun D h => by have := H8.out.2.1 D h; omega
        have hn09 : n0 ≤ n9 := by have := H8.out.2.2.2.1; omega
        have HST := Lib.hid hst
        have H9 := Lib.hid (And.intro hJ9 (And.intro hD9 (And.intro hn09 (And.intro hn9 (And.intro (And.intro hok (And.intro hgo hlen)) (And.intro hoj (show b9 + 3 ≤ n9 by omega)))))))
        clear hJ9 hst hRa hFw hb9' hq0 hq1 hgd hD9 hok hgo hlen hoj hn8 hz9 hn8' hne
        refine (wpIn_wide (n := 5)).1 ?_
        refine wpIn_rangeFunc_ownH (F := Fence.wide) (n := 5) rfl (by omega) (gf := 55) (lb := #[.pointer (some ⟨n8 + 1, 0, none⟩), .pointer (some ⟨n8, 0, none⟩)]) rfl trivial (enters_of Try.func55 (by kernel_rfl) rfl) (encs := fun (x : Fin (fnF (l.take j)).tr.length) => encR x.val) (Kp := Ke (fun k => k < n9 ∧ k ≠ b9 + 1 ∧ k ≠ b9 + 1 + 1)) (w0 := w9)
          HST.out
          (fun h k => h.trans k) (fun W l o o' hl h ho hw => ke_book (n := n9) (fun k h => h.1) W l o' (by rw [← hn9]; exact hl)) (Below.refl _ _) (fun _ => rfl)
          (fun pre W => FeJ w n0 bf nF b7 (fnF (l.take j)) Ds P1 b9 ⟨xa, xk, xp, xv⟩ (fun k => pre.any (fun x => decide (((fnF (l.take j)).tr.getD x.val opZ).a = (k : Int)))) (!pre.isEmpty) W ∧ n9 ≤ W.heap.size)
          (fun c pre W => False)
          (fun s A B row hs hg hr => ⟨hs.1.own H9.out.2.2.1 (Nat.le_trans H9.out.2.2.1 hs.2) H9.out.2.1 hg (fun r e => by rw [← hn9]; exact hr r e), Nat.le_trans hs.2 hg.size⟩)
          (fun c s A B row hs hg hr => hs)
          ⟨H9.out.1, Nat.le_of_eq hn9.symm⟩
          (fun x a' W => a' = { tmps := #[c.val, .slice (some a) l.length cp, .pointer (some ⟨n0, 0, none⟩), undef, .slice none 0 0, .int .i64 0, .int .i64 (chkF c l), .pointer (some ⟨b7, 0, none⟩), undef, .pointer (some ⟨b9, 0, none⟩), .pointer (some ⟨b9 + 1, 0, none⟩), .pointer (some ⟨b9 + 1 + 1, 0, none⟩), .int .i64 (x.val : Int), v13, v14, .agg c.cells, .slice (some a) l.length cp, .int .i64 (chkF c l), .int .i64 (chkF c l), .bool false, undef, .pointer (some ⟨bf, 0, none⟩), .slice (some a) l.length cp, .int .i64 (l.length : Int), .int .i64 (j : Int), .bool true, .pointer (some (a.add (j * 4))), .agg #[.int .i64 xa, .int .i64 xk, .int .i64 xp, .int .i64 xv], .pointer (some ⟨bf, 0, none⟩), .agg #[.int .i64 xa, .int .i64 xk, .int .i64 xp, .int .i64 xv], .func (.func 55) #[] #[.pointer (some ⟨n8 + 1, 0, none⟩), .pointer (some ⟨n8, 0, none⟩)], .int .i64 (x.val : Int), v32, v33, v34, v35, v36, v37, v38, v39, v40, v41, v42, v43, v44, v45, v46, v47, v48, v49, v50, v51, v52, v53, v54, v55, v56, v57, v58, v59, v60, v61, v62, v63, v64, v65, v66, v67, undef, undef, undef, undef], defers := [] })
          (fun x a' s A B row hs hg hr => hs) ?assign ?body ?done ?stop
        case assign =>
          intro ll pre x U K hI hK
          have HI := Lib.hid hI
          clear hI
          gi_wp2
          exact hK _ _ (KeepsFrom.refl _ _) (Ke.refl _) HI.out rfl
        case body =>
          rintro ll pre ⟨x, hx⟩ a' U hl hr ⟨hI, hs⟩ rfl hlt2
          obtain ⟨va, vb, hF⟩ := hI.fo
          obtain ⟨T, cT, rfl, hcT, hrT, _⟩ := hF.tr.form lenP
          obtain ⟨e, rfl, hce⟩ := hrT.cell x hx
          obtain ⟨q, hq⟩ : ∃ q, (fnF (l.take j)).tr[x] = q := ⟨_, rfl⟩
          rw [hq] at hce
          have hgq : gdO q := by rw [← hq]; exact H9.out.2.2.2.2.1.2.1 _ (List.getElem_mem hx)
          obtain ⟨qa, qk, qp, qv⟩ := q
          obtain ⟨na, rfl⟩ : ∃ na : Nat, qa = (na : Int) := ⟨qa.toNat, by have := hgq.2.1; simp only at this; omega⟩
          have hna : na < 8 := by have := hgq.2.2; simp only at this; omega
          have hnaI : (na : Int) < 8 := by omega
          have hxI : (x : Int) < ((fnF (l.take j)).tr.length : Int) := by omega
          have hsm := hrT.small
          have y0 := hce 0 _ rfl
          rw [Nat.add_zero] at y0
          have y7 : U.cell? ⟨b7, 0, none⟩ = some (.pointer (some ⟨bf, 0, none⟩)) := by rw [cell_of_row _ _ _ _ _ _ hI.h7]; rfl
          obtain ⟨t0, -⟩ := hF.at 0 _ rfl
          obtain ⟨bv, z0⟩ : ∃ bv, U.cell? ⟨b9 + 1, na, none⟩ = some (.bool bv) := ⟨_, by rw [cell_of_row _ _ _ _ _ _ hI.wi]; exact wiC_at _ hna⟩
          have z1 := frozen_of_row U (b9 + 1) na _ _ hI.wi
          have z2 : U.cell? ⟨b9 + 1 + 1, 0, none⟩ = some (.bool (!pre.isEmpty)) := by rw [cell_of_row _ _ _ _ _ _ hI.so]; rfl
          have z3 := frozen_of_row U (b9 + 1 + 1) 0 _ _ hI.so
          have hqd : (fnF (l.take j)).tr.getD x opZ = ⟨(na : Int), qk, qp, qv⟩ := by rw [getD_at _ _ hx, hq]
          have HI := Lib.hid (And.intro hI (And.intro hs hqd))
          clear hI hF hl hr hlt2 hcT hrT hce hq hgq hqd
          gi_wp2
          obtain ⟨Z, hZ⟩ : ∃ Z, (U.setCell ⟨b9 + 1, na, none⟩ (.bool true)).setCell ⟨b9 + 1 + 1, 0, none⟩ (.bool true) = Z := ⟨_, rfl⟩
          obtain ⟨h1, h2, h3⟩ := HI.out.1.mark (by have := H8.out.2.2.2.1; omega) H8.out.2.2.2.2.1 (H8.out.2.2.1.2.2.1 _ (by omega)) (H8.out.2.2.1.2.2.1 _ (by omega)) hna hZ
          rw [hZ]
          refine ⟨h2.from _, h3 _ (fun h => h.2.1 rfl) (fun h => h.2.2 rfl), ?_, Nat.le_trans HI.out.2.1 h2.size⟩
          refine h1.eqf ?_ (by simp)
          funext k
          have hqd := HI.out.2.2
          rw [List.any_append]
          simp only [List.any_cons, List.any_nil, Bool.or_false]
          have hqe : (fnF (l.take j)).tr[x] = ⟨(na : Int), qk, qp, qv⟩ := by rw [← getD_at _ opZ hx]; exact hqd
          simp [hqe]
        case stop =>
          rintro D c' pre U hD hpre hf hdD
          exact hf.elim
        case done =>
          rintro D xs U hD hxs ⟨hI, hs⟩ hdD
          have ef : (fun (k : Nat) => xs.any (fun x => decide (((fnF (l.take j)).tr.getD x.val opZ).a = (k : Int)))) = wiB (fnF (l.take j)) ⟨xa, xk, xp, xv⟩ := by
            funext k
            show _ = (rcL (fnF (l.take j)) ⟨xa, xk, xp, xv⟩).any _
            rw [← hxs, List.any_map]; rfl
          have eg : (!xs.isEmpty) = decide (rcL (fnF (l.take j)) ⟨xa, xk, xp, xv⟩ ≠ []) := by
            rw [← hxs]
            cases xs <;> simp
          obtain ⟨gB, hgB⟩ : ∃ g, decide (rcL (fnF (l.take j)) ⟨xa, xk, xp, xv⟩ ≠ []) = g := ⟨_, rfl⟩
          rw [ef, eg, hgB] at hI
          obtain ⟨s, hs'⟩ : ∃ s, fnF (l.take j) = s := ⟨_, rfl⟩
          have hok := H9.out.2.2.2.2.1.1
          have hlen := H9.out.2.2.2.2.1.2.2
          have hoj := H9.out.2.2.2.2.2.1
          have h9m := H9.out.1.mks
          rw [hs'] at hI hok hlen hgB
          have HGB := Lib.hid hgB
          clear hgB
          obtain ⟨PX, hPX⟩ : ∃ PX : Nat → Prop, PX = fun k => P1 k ∧ k < U.heap.size := ⟨_, rfl⟩
          have hFX : Fol PX bf nF s U := hI.fo.imp (fun k h => by rw [hPX] at h; exact Or.inl h.1)
          have hPXl : ∀ k, PX k → k < U.heap.size := fun k h => by rw [hPX] at h; exact h.2
          have hkeep : ∀ W', Ke PX U W' → ∀ k, P1 k → k < U.heap.size → W'.heap[k]? = U.heap[k]? := fun W' hk k h1 h2 => hk.block k h2 (by rw [hPX]; exact ⟨h1, h2⟩)
          have hDU : D < U.heap.size := (Array.getElem?_eq_some_iff.1 hdD).1
          have hnFU : nF ≤ U.heap.size := by obtain ⟨va, vb, hF⟩ := hFX; exact hF.bw
          have hb9D : b9 ≤ D := by have := H9.out.2.2.2.2.2.2; rw [hn9] at hD; omega
          have h7 : ∀ W', Ke PX U W' → W'.cell? ⟨b7, 0, none⟩ = some (.pointer (some ⟨bf, 0, none⟩)) := fun W' hk => by
            rw [cell_of_row _ _ _ _ _ _ ((hkeep W' hk b7 H8.out.2.2.1.2.2.2 (blk_lt hI.h7)).trans hI.h7)]; rfl
          have h9c : ∀ W', Ke PX U W' → W'.cell? ⟨b9, 0, none⟩ = some (.int .i64 xa) ∧ W'.cell? ⟨b9, 1, none⟩ = some (.int .i64 xk) ∧ W'.cell? ⟨b9, 2, none⟩ = some (.int .i64 xp) ∧ W'.cell? ⟨b9, 3, none⟩ = some (.int .i64 xv) := fun W' hk => by
            have hx := (hkeep W' hk b9 (H8.out.2.2.1.2.2.1 _ (Nat.le_refl _)) (blk_lt hI.bo)).trans hI.bo
            refine ⟨?_, ?_, ?_, ?_⟩ <;> (rw [cell_of_row _ _ _ _ _ _ hx]; rfl)
          have h11 : ∀ W', Ke PX U W' → W'.cell? ⟨b9 + 1 + 1, 0, none⟩ = some (.bool gB) := fun W' hk => by
            rw [cell_of_row _ _ _ _ _ _ ((hkeep W' hk (b9 + 1 + 1) (H8.out.2.2.1.2.2.1 _ (by omega)) (blk_lt hI.so)).trans hI.so)]; rfl
          have hend : ∀ W', Ke PX U W' → Fol PX bf nF (fnF (l.take (j + 1))) W' → FeI w n0 bf nF b7 (fnF (l.take (j + 1))) (D :: Ds) W' := fun W' hk hf => by
            refine ⟨hI.lo.trans (hk.low (by have := HFI.out.2; omega) (fun k h => by rw [hPX]; exact ⟨H8.out.2.2.1.1 k (by have := HFI.out.2; omega), by have := HFI.out.2; omega⟩)), Mks.cons h9m (by have := H8.out.2.2.2.1; omega) hD (hI.mks.keep (fun E hE => hkeep W' hk E (H8.out.2.2.1.2.1 E hE) (hI.mks.lt hE))) ((hkeep W' hk D (H8.out.2.2.1.2.2.1 D hb9D) hDU).trans hdD), (hkeep W' hk b7 H8.out.2.2.1.2.2.2 (blk_lt hI.h7)).trans hI.h7, PX, hf, fun k h => by rw [hPX]; exact ⟨H8.out.2.2.1.1 k h, by omega⟩, fun E hE => ?_, by rw [hPX]; exact ⟨H8.out.2.2.1.2.2.2, blk_lt hI.h7⟩⟩
            rw [hPX]
            rcases List.mem_cons.1 hE with rfl | hE
            · exact ⟨H8.out.2.2.1.2.2.1 _ hb9D, hDU⟩
            · exact ⟨H8.out.2.2.1.2.1 E hE, hI.mks.lt hE⟩
          have hfe : fnF (l.take (j + 1)) = addF (fe2 s ⟨xa, xk, xp, xv⟩) ⟨xa, xk, xp, xv⟩ := by rw [fn_take hlt, hs', HQ.out.1]; rfl
          have hfl : (fnF (l.take (j + 1))).tr.length ≤ 2000 := by have := (fn_at HG.out (j + 1)).2.2; have := HL.out; omega
          have hlen2 : s.tr.length ≤ 2000 := by have := HL.out; omega
          have c0 := fun n (h : n < 8) => (show U.cell? ⟨b9 + 1, n, none⟩ = some (.bool (wiB s ⟨xa, xk, xp, xv⟩ n)) by rw [cell_of_row _ _ _ _ _ _ hI.wi]; exact wiC_at _ h)
          have k0 := c0 0 (by decide)
          have k1 := c0 1 (by decide)
          have k2 := c0 2 (by decide)
          have k3 := c0 3 (by decide)
          have k4 := c0 4 (by decide)
          have k5 := c0 5 (by decide)
          have k6 := c0 6 (by decide)
          have k7 := c0 7 (by decide)
          have HK7 := Lib.hid (And.intro h7 (And.intro h9c h11))
          have HEND := Lib.hid (And.intro hend (And.intro hfe hfl))
          have HFX := Lib.hid (And.intro hFX (And.intro hPXl (And.intro hok (And.intro hlen2 hoj))))
          have HSS := Lib.hid hs'
          clear hI hxs hs hdD hD ef eg hs' hok hlen hoj h9m hPX hFX hPXl hkeep hDU hnFU hb9D h7 h9c h11 hend hfe hfl hlen2 c0
          go_upto_block 4 with fail
          clear k0 k1 k2 k3 k4 k5 k6 k7
          go_cut [13, 14] from 42 to 51 (fun _ _ wx => Fol PX bf nF (fe1 s ⟨xa, xk, xp, xv⟩) wx ∧ Ke PX U wx)
          case first =>
            go_wp2_with fail
            go_loopg [13, 14, 42, 43, 44, 45, 46, 47, 48, 49, 50, 51] 8 (fun gk v13 v14 v42 v43 v44 v45 v46 v47 v48 v49 v50 v51 wr => ∃ k : Nat, k + gk = 8 ∧ v42 = .int .i64 (k : Int) ∧ Fol PX bf nF (sK s ⟨xa, xk, xp, xv⟩ k) wr ∧ Ke PX U wr)
            case atStart => exact ⟨0, by omega, rfl, HFX.out.1, Ke.refl _⟩
            case round =>
              obtain ⟨k, hk8, rfl, hf, hk⟩ := hrel
              by_cases hlt8 : k < 8
              · have hd8 : decide (k < 8) = true := decide_eq_true hlt8
                have hkI : (k : Int) < 8 := by omega
                have hix := fun (w : World) => idx90 (wiB s ⟨xa, xk, xp, xv⟩) w hlt8
                have z7 := HK7.out.1 wr hk
                have hsu := sK_succ s ⟨xa, xk, xp, xv⟩ k
                have HR := Lib.hid (And.intro hf (And.intro hk hsu))
                clear hf hk hsu
                cases hw : wiB s ⟨xa, xk, xp, xv⟩ k with
                | false =>
                  rw [hw] at hix
                  have he := HR.out.2.2.trans (if_neg (by rw [hw]; simp))
                  have HE := Lib.hid he
                  clear he hw
                  go_wp2_with fail
                  go_roundg (8 - (k + 1))
                  case measure => omega
                  case rel => exact ⟨k + 1, by omega, by go_num, by rw [HE.out]; exact HR.out.1, HR.out.2.1⟩
                | true =>
                  rw [hw] at hix
                  have he := HR.out.2.2.trans (if_pos hw)
                  have hadd := add_calls PX bf nF (sK s ⟨xa, xk, xp, xv⟩ k) ⟨(k : Int), 4, 0, 0⟩ wr (fun q h => Nat.lt_of_lt_of_le (HFX.out.2.1 q h) HR.out.2.1.size) HR.out.1 (sK_ok HFX.out.2.2.1 _ _).rl (by have := sK_len s ⟨xa, xk, xp, xv⟩ k; have := HFX.out.2.2.2.1; omega) ⟨by simp only; omega, by simp only; omega⟩
                  have HADD := Lib.hid hadd
                  have HE := Lib.hid he
                  clear he hw hadd
                  go_wp2_with ((with_reducible refine (HADD.out).mono ?_); rintro e w5 ⟨rfl, hf5, hk5⟩; have H5 := Lib.hid (And.intro hf5 hk5); clear hf5 hk5)
                  go_roundg (8 - (k + 1))
                  case measure => omega
                  case rel => exact ⟨k + 1, by omega, by go_num, by rw [HE.out]; exact H5.out.1, HR.out.2.1.trans H5.out.2⟩
              · have hd8 : decide (k < 8) = false := decide_eq_false hlt8
                obtain rfl : k = 8 := by omega
                have HR := Lib.hid (And.intro hf hk)
                clear hf hk
                go_wp2_with fail
                go_meet
                exact HR.out
          case rest =>
            obtain ⟨hf1, hk1⟩ := hcut
            have z7 := HK7.out.1 wc hk1
            obtain ⟨z0, z1, z2, z3⟩ := HK7.out.2.1 wc hk1
            have z11 := HK7.out.2.2 wc hk1
            have HR1 := Lib.hid (And.intro hf1 hk1)
            clear hf1 hk1
            go_upto_if 52 with fail
            go_cut [52] from 53 to 57 (fun _ wx => Fol PX bf nF (fe2 s ⟨xa, xk, xp, xv⟩) wx ∧ Ke PX U wx)
            case first =>
              cases gB with
              | false =>
                have he : fe2 s ⟨xa, xk, xp, xv⟩ = fe1 s ⟨xa, xk, xp, xv⟩ := by unfold fe2; exact if_neg (of_decide_eq_false HGB.out)
                have HE := Lib.hid he
                clear he
                go_wp2_with fail
                go_meet
                rw [HE.out]
                exact HR1.out
              | true =>
                have he : fe2 s ⟨xa, xk, xp, xv⟩ = addF (fe1 s ⟨xa, xk, xp, xv⟩) (acqO xa) := by unfold fe2; exact if_pos (of_decide_eq_true HGB.out)
                have hadd := add_calls PX bf nF (sK s ⟨xa, xk, xp, xv⟩ 8) ⟨xa, 3, 0, 0⟩ wc (fun q h => Nat.lt_of_lt_of_le (HFX.out.2.1 q h) HR1.out.2.size) HR1.out.1 (sK_ok HFX.out.2.2.1 _ _).rl (by have := sK_len s ⟨xa, xk, xp, xv⟩ 8; have := HFX.out.2.2.2.1; omega) ⟨HFX.out.2.2.2.2.2.1, HFX.out.2.2.2.2.2.2⟩
                have HADD := Lib.hid hadd
                have HE := Lib.hid he
                clear he hadd
                go_wp2_with ((with_reducible refine (HADD.out).mono ?_); rintro e w5 ⟨rfl, hf5, hk5⟩; have H5 := Lib.hid (And.intro hf5 hk5); clear hf5 hk5)
                go_meet
                rw [HE.out]
                exact ⟨H5.out.1, HR1.out.2.trans H5.out.2⟩
            case rest =>
              obtain ⟨hf2, hk2⟩ := hcut
              clear z7 z0 z1 z2 z3 z11
              obtain ⟨wd, hwd⟩ : ∃ wd, wc = wd := ⟨_, rfl⟩
              have z7 := HK7.out.1 _ hk2
              obtain ⟨z0, z1, z2, z3⟩ := HK7.out.2.1 _ hk2
              have hok2 : FoOk (fe2 s ⟨xa, xk, xp, xv⟩) := by
                unfold fe2
                split
                · exact addF_ok (sK_ok HFX.out.2.2.1 _ 8) HFX.out.2.2.2.2.2.1
                · exact sK_ok HFX.out.2.2.1 _ 8
              have hl2 : (fe2 s ⟨xa, xk, xp, xv⟩).tr.length ≤ 100000 := by
                have h1 := HEND.out.2.2
                rw [HEND.out.2.1] at h1
                simp only [addF, List.length_append, List.length_cons, List.length_nil] at h1
                omega
              have hadd := add_calls PX bf nF (fe2 s ⟨xa, xk, xp, xv⟩) ⟨xa, xk, xp, xv⟩ _ (fun q h => Nat.lt_of_lt_of_le (HFX.out.2.1 q h) hk2.size) hf2 hok2.rl hl2 HFX.out.2.2.2.2.2
              have HADD := Lib.hid hadd
              have HR2 := Lib.hid hk2
              clear hadd hf2 hk2 hok2 hl2 hwd
              go_upto_region 22 with ((with_reducible refine (HADD.out).mono ?_); rintro e w5 ⟨rfl, hf5, hk5⟩; have H5 := Lib.hid (And.intro hf5 hk5); clear hf5 hk5)
              have hk5 := HR2.out.trans H5.out.2
              have hf5 := H5.out.1
              rw [← HEND.out.2.1] at hf5
              have HI5 := Lib.hid (HEND.out.1 w5 hk5 hf5)
              have z7 := HK7.out.1 w5 hk5
              obtain ⟨va, vb, hF⟩ := hf5
              obtain ⟨T, cT, rfl, hcT, hrT, _⟩ := hF.tr.form lenP
              obtain ⟨t0, -⟩ := hF.at 0 _ rfl
              have hfl := HEND.out.2.2
              have hgt : decide (2000 < (fnF (l.take (j + 1))).tr.length) = false := decide_eq_false (by omega)
              have hgtI : ¬ ((2000 : Int) < ((fnF (l.take (j + 1))).tr.length : Int)) := by omega
              have hsmT := hrT.small
              clear hF hcT hrT hk5 hfl z0 z1 z2 z3
              go_wp2_with fail
              refine Handed.intro (l.length - (j + 1)) (by have := HQ.out.2; omega) (HJ.out _ _ _ ⟨_, _, _, _, _, _, _, _, _, _, _, _, _, _, _, _, _, _, _, _, _, _, _, _, _, _, _, _, _, _, _, _, _, _, _, _, _, _, _, _, _, _, _, _, _, _, _, _, _, j + 1, D :: Ds, rfl, by omega, by go_num, HI5.out⟩)
      · have hd : decide (j < l.length) = false := decide_eq_false hlt
        obtain rfl : j = l.length := by omega
        have z7 : wr.cell? ⟨b7, 0, none⟩ = some (.pointer (some ⟨bf, 0, none⟩)) := by rw [cell_of_row _ _ _ _ _ _ hI.h7]; rfl
        obtain ⟨P, ⟨va, vb, hF⟩, hPn, hPD, hP7⟩ := hI.fo
        obtain ⟨t0, -⟩ := hF.at 0 _ rfl
        have hn0r : n0 ≤ wr.heap.size := by have := HX.out.2.1; have := blk_lt hI.h7; have := HFI.out.2; have := HB7.out; omega
        have HE := Lib.hid (And.intro hI (And.intro hF hn0r))
        clear hI hF hPn hPD hP7 hi hn0r
        go_wp2_with fail
        refine leaves_marks Ds n0 wr HE.out.1.mks (fun W' g1 g2 g3 g4 g5 => ?_)
        obtain ⟨q1, q2⟩ := HE.out.1.mks.taken HE.out.2.2 g1 g2 g3 g4 g5
        refine ⟨_, fence_results _ _ _ _ rfl rfl, fun _ => ⟨_, rfl, ?_⟩, fun h => absurd HK.out h, by rw [HW.out.2]; exact HE.out.1.lo.trans q1⟩
        have ho := own_at HE.out.2.1.tr (fun g hg => by
          obtain ⟨_, _, cur, hc⟩ := HE.out.2.1.tr.blk g hg
          exact (q2 g _ hc rfl).trans hc.symm)
        rw [List.take_length] at ho
        exact own_down ho (by rw [HW.out.2]; have := HFI.out.2; omega)
  · have hkc : (chkF c l != 0) = true := by rw [bne_iff_ne]; exact hk
    have HK := Lib.hid hk
    clear hk hl2
    go_upto_region 1 with fail
    rw [HW.out.1]
    try rw [HW.out.2]
    go_upto_region 3 with ((with_reducible refine (HC.out).mono ?_); rintro e w1 ⟨rfl, hb1⟩; have H1 := Lib.hid hb1; clear hb1)
    clear x0 x1 x2 x3
    go_wp2_with fail
    refine leaves_marks [] n0 w1 (Mks.nil _ _) (fun W' g1 g2 g3 g4 g5 => ?_)
    have hb := (Mks.nil n0 w1).taken (by have := HX.out.2.1; have := H1.out.size; omega) g1 g2 g3 g4 g5
    refine ⟨_, fence_results _ _ _ _ rfl rfl, fun h => absurd h HK.out, fun _ => rfl, ?_⟩
    rw [HW.out.2]
    exact (HX.out.1.trans (H1.out.mono (by have := HX.out.2.1; omega))).trans hb.1
end Go.Proofs.Ytggidakiflnhhaa
