import Derived.Test.YthccnaemocdcbaaX
import Derived.Great.Walk
namespace Go.Proofs.Ythccnaemocdcbaa
open Go.RowKit
set_option maxHeartbeats 2000000
set_option maxRecDepth 100000
set_option linter.unusedSimpArgs false
set_option linter.unusedVariables false

theorem zeros_rep (n : Nat) : Builtin.zeroCells (Value.int .i64 0).cells n = Array.replicate n (.int .i64 0) := by
  apply Array.ext
  · simp [Builtin.zeroCells, Value.cells]
  · intro i h1 h2
    simp [Builtin.zeroCells, Value.cells, Nat.mod_one]
theorem zeros_cells (n : Nat) : (Builtin.zeroCells (Value.int .i64 0).cells n).toList = (List.replicate n (0 : Int)).flatMap encI := by
  rw [zeros_rep, Array.toList_replicate]
  induction n with
  | zero => rfl
  | succ n ih => simp [List.replicate_succ, ih]
theorem flat_app {α : Type} (enc : α → List Value) (xs ys : List α) : (xs ++ ys).flatMap enc = xs.flatMap enc ++ ys.flatMap enc := List.flatMap_append

/-- append(s, make([]int, m)...) -/
theorem run_append_zeros (w : World) (base n m N : Nat) (ty : TypeId) (v : Value) (xs : List Int) (hn : xs.length = n) (hown : Own encI 1 3 w base v xs) (hN : n + m = N) (hN0 : 0 < N) (hN1 : N ≤ 1024) (hbase : base ≤ w.heap.size) :
    ∃ g cap w', (Builtin.append_ #[44, 3] ty #[v, .int .i64 (m : Int)]).run Try.prog w = .ok (.slice (some ⟨g, 0, none⟩) N cap) w' ∧
      Own encI 1 3 w' base (.slice (some ⟨g, 0, none⟩) N cap) (xs ++ List.replicate m 0) ∧ w.grownBy w' v.ownBlock := by
  obtain ⟨i0, hi, hz0, hz1, hz2⟩ := info_parts info3
  have hw : IntKind.i64.wrap (m : Int) = (m : Int) := by rw [IntKind.wrap_i64]; omega
  have hm0 : ¬ ((m : Int) < 0) := by omega
  have hm1 : ¬ (281474976710656 < (m : Int) * 8) := by omega
  have hu3 : Try.prog.underlying 3 = some (.int .i64) := Try.underlying3
  have hlen : ((xs ++ List.replicate m (0 : Int)).flatMap encI).length = N * 1 := by rw [flat_length lenI]; simp; omega
  have hl1 : (xs ++ List.replicate m (0 : Int)).length = N := by simp; omega
  unfold Own at hown ⊢
  rw [hl1]
  have hxl : (xs.flatMap encI).length = n := by rw [flat_length lenI, hn]; omega
  have grown : ∀ (old : Nat), old < N → ∀ (row : Option Nat),
      (w.drew.alloc (.cells ((xs.flatMap encI).toArray ++ Builtin.zeroCells (Value.int .i64 0).cells m ++ Builtin.zeroCells (Value.int .i64 0).cells (grownCap w N old 3 - N)) 3)).ownsRow base 3 1
        (.slice (some ⟨w.heap.size, 0, none⟩) N (grownCap w N old 3)) N ((xs ++ List.replicate m (0 : Int)).flatMap encI) ∧
      w.grownBy (w.drew.alloc (.cells ((xs.flatMap encI).toArray ++ Builtin.zeroCells (Value.int .i64 0).cells m ++ Builtin.zeroCells (Value.int .i64 0).cells (grownCap w N old 3 - N)) 3)) row := by
    intro old ho row
    have hge := grownCap_ge w N old 3
    have hcm : grownCap w N old 3 ≤ maxLen := grownCap_le_maxLen w N old 3 (by simp only [maxLen]; omega)
    refine ⟨⟨hlen, .inr ⟨w.heap.size, _, _, rfl, hbase, heap_alloc_new w.drew _, hge, hcm, ?_, ?_⟩⟩, ⟨rfl, rfl, rfl, by simp, fun k hk _ => heap_alloc_old w.drew _ hk⟩⟩
    · simp only [Array.size_append, List.size_toArray, size_zeroCells, hxl]
      have : (Value.int IntKind.i64 0).cells.size = 1 := rfl
      rw [this]
      omega
    · simp only [Array.toList_append, List.append_assoc, zeros_cells]
      rw [flat_app, ← List.append_assoc]
      rw [show N * 1 = (xs.flatMap encI ++ (List.replicate m (0 : Int)).flatMap encI).length by rw [← flat_app, hlen]]
      exact List.take_left
  have hm1' : m ≠ 0 ∨ m = 0 := by omega
  rcases hown.2 with ⟨rfl, h0⟩ | ⟨g, cap, cur, rfl, hbg, hg, hnc, hcm, hcs, htake⟩
  · have hx : xs = [] := List.eq_nil_of_length_eq_zero h0
    subst hx
    obtain rfl : n = 0 := by simpa using hn.symm
    obtain rfl : m = N := by omega
    have hgr := grown 0 (by omega) (Value.ownBlock (.slice none 0 0))
    refine ⟨_, _, _, ?_, hgr.1, hgr.2⟩
    have hn0 : m ≠ 0 := by omega
    have hc : Builtin.nextslicecap m 0 = m := nextslicecap_zero hN0
    have hc2 : ¬ (281474976710656 < m * 8) := by omega
    have h63' : ¬ (9223372036854775807 < (m : Int)) := by omega
    simp [Builtin.append_, run_underlying Try.underlying44, run_underlying hu3, sizeOf, typeInfo, zeroValue, hi, hz0, hz1, hz2, asInt, asIntOf, hw, hm0, hm1, hn0, hc, hc2, h63', Question.forced, run_firstCells_none, newRow, grownCap]
  · have hu44 := fun w => run_underlying (P := Try.prog) Try.underlying44 w
    subst hn
    by_cases hroom : N ≤ cap
    · by_cases hm : m = 0
      · subst hm
        obtain rfl : N = xs.length := by omega
        refine ⟨g, cap, w, ?_, ⟨hlen, .inr ⟨g, cap, cur, rfl, hbg, hg, hnc, hcm, hcs, by simpa using htake⟩⟩, ⟨rfl, rfl, rfl, Nat.le_refl _, fun _ _ _ => rfl⟩⟩
        have hw0 : IntKind.i64.wrap 0 = 0 := by rw [IntKind.wrap_i64]; omega
        simp [Builtin.append_, run_underlying Try.underlying44, run_underlying hu3, sizeOf, typeInfo, zeroValue, hi, hz0, hz1, hz2, asInt, asIntOf, hw0, hroom, storeCells]
      · have hst := run_storeCells_at Try.prog g (xs.length * 1) 3 ((List.replicate m (0 : Int)).flatMap encI) 0 cur w hg (by rw [flat_length lenI, List.length_replicate, hcs]; omega) (fun u hu => by obtain ⟨y, _, hy⟩ := List.mem_flatMap.1 hu; exact oneI y u hy)
        simp only [Nat.add_zero] at hst
        refine ⟨g, cap, w.setRow g (cur.toList.take (xs.length * 1) ++ (List.replicate m (0 : Int)).flatMap encI ++ cur.toList.drop (xs.length * 1 + ((List.replicate m (0 : Int)).flatMap encI).length)).toArray, ?_, ⟨hlen, .inr ⟨g, cap, _, rfl, hbg, setRow_heap w g cur _ 3 _ hg, by omega, hcm, ?_, ?_⟩⟩, ⟨rfl, rfl, rfl, by simp, fun k _ hk => setRow_other w g k _ (fun e => hk (by simp [Value.ownBlock, e]))⟩⟩
        · rw [← zeros_cells] at hst ⊢
          rw [Nat.mul_one] at hst
          generalize hZ : Builtin.zeroCells (Value.int IntKind.i64 0).cells m = Z at hst
          simp [Builtin.append_, run_underlying Try.underlying44, run_underlying hu3, sizeOf, typeInfo, zeroValue, hi, hz0, hz1, hz2, asInt, asIntOf, hw, hm0, hm1, hm, hN, hroom, Question.forced, run_firstCells_none, newRow, grownCap, Addr.add_lit, hZ]
          rw [hst]
          simp
        · simp only [List.size_toArray, List.length_append, List.length_take, List.length_drop, Array.length_toList, flat_length lenI, List.length_replicate]
          omega
        · rw [htake, ← hlen, flat_app]
          exact List.take_left
    · have holds : ∀ j u, (xs.flatMap encI)[j]? = some u → w.cell? ((⟨g, 0, none⟩ : Addr).add j) = some u := World.ownsRow.cells hown (g := g) rfl
      have hfo := run_firstCells_some (P := Try.prog) w.drew 1 xs.length ⟨g, 0, none⟩ xs.length cap (xs.flatMap encI) (by rw [hxl]; omega) (by simpa using holds)
      have hgr := grown cap (by omega) (Value.ownBlock (.slice (some ⟨g, 0, none⟩) xs.length cap))
      refine ⟨_, _, _, ?_, hgr.1, hgr.2⟩
      have hm : m ≠ 0 := by omega
      have hc : ¬ (281474976710656 < Builtin.nextslicecap N cap * 8) := by
        have := growslice_fits (need := N) (old := cap) (bytes := 8) (by omega) (by omega)
        omega
      have h63' : ¬ (9223372036854775807 < (xs.length : Int) + (m : Int)) := by omega
      have h63'' : ¬ (9223372036854775807 < (N : Int)) := by omega
      simp [Builtin.append_, run_underlying Try.underlying44, run_underlying hu3, sizeOf, typeInfo, zeroValue, hi, hz0, hz1, hz2, asInt, asIntOf, hw, hm0, hm1, hm, hN, hroom, hc, h63', h63'', Question.forced, hfo, newRow, grownCap]

theorem info84 : (Try.prog.info? 84).map (fun i => (i.zero, i.size, i.bytes)) = some (some (.agg (Array.replicate 1024 (.int .i64 0))), 1024, 8192) := by kernel_rfl
/-- block b is an array of 1024 numbers -/
def Tree (w : World) (b : Nat) (f : Nat → Int) : Prop := ∃ cs, w.heap[b]? = some (.cells cs 84 (0, 0)) ∧ cs.size = 1024 ∧ ∀ i, i < 1024 → cs[i]? = some (.int .i64 (f i))
theorem Tree.cell {w : World} {b : Nat} {f : Nat → Int} (h : Tree w b f) (i : Nat) (hi : i < 1024) : w.cell? ⟨b, i, none⟩ = some (.int .i64 (f i)) ∧ w.frozen? ⟨b, i, none⟩ = false := by
  obtain ⟨cs, h1, h2, h3⟩ := h
  exact ⟨(cell_of_row w b i cs _ _ h1).trans (h3 i hi), frozen_of_row w b i cs _ h1⟩
theorem Tree.set {w : World} {b : Nat} {f : Nat → Int} (h : Tree w b f) (i : Nat) (hi : i < 1024) (x : Int) : Tree (w.setCell ⟨b, i, none⟩ (.int .i64 x)) b (fun j => if j = i then x else f j) := by
  obtain ⟨cs, h1, h2, h3⟩ := h
  refine ⟨cs.setIfInBounds i (.int .i64 x), heap_setCell_same w b i cs _ _ h1, by simpa using h2, fun j hj => ?_⟩
  by_cases e : j = i
  · subst e; simp [Array.getElem?_setIfInBounds, show j < cs.size by omega]
  · simp only [if_neg e]
    rw [Array.getElem?_setIfInBounds, if_neg (fun h => e h.symm)]
    exact h3 j hj
theorem Tree.congr {w : World} {b : Nat} {f g : Nat → Int} (h : Tree w b f) (e : ∀ i, i < 1024 → f i = g i) : Tree w b g := by
  obtain ⟨cs, h1, h2, h3⟩ := h
  exact ⟨cs, h1, h2, fun i hi => by rw [← e i hi]; exact h3 i hi⟩
theorem Tree.lt {w : World} {b : Nat} {f : Nat → Int} (h : Tree w b f) : b < w.heap.size := by
  obtain ⟨cs, h1, h2, h3⟩ := h
  by_cases hb : b < w.heap.size
  · exact hb
  · rw [Array.getElem?_eq_none (by omega)] at h1; cases h1
theorem Tree.rest {w w' : World} {b : Nat} {f : Nat → Int} (h : Tree w b f) (hb : Below w.heap.size w w') : Tree w' b f := by
  have hl := h.lt
  obtain ⟨cs, h1, h2, h3⟩ := h
  exact ⟨cs, (hb.block b hl).trans h1, h2, h3⟩
theorem Tree.grown {w w' : World} {b : Nat} {f : Nat → Int} {row : Option Nat} (h : Tree w b f) (hg : w.grownBy w' row) (hne : some b ≠ row) : Tree w' b f := by
  have hl := h.lt
  obtain ⟨cs, h1, h2, h3⟩ := h
  exact ⟨cs, (hg.block b hl hne).trans h1, h2, h3⟩
theorem flat_map (xs : List Int) : xs.flatMap encI = xs.map (Value.int .i64) := by
  induction xs with
  | nil => rfl
  | cons x xs ih => rw [List.flatMap_cons, ih]; rfl
/-- a slice of 1024 numbers or more is taken for an array, and laid into a new variable -/
theorem tree_made (w : World) (base g cap : Nat) (xs : List Int) (hl : xs.length = 1024) (h : Own encI 1 3 w base (.slice (some ⟨g, 0, none⟩) 1024 cap) xs) :
    ∃ A : Array Value, (Instr.arrayAt 84 (.slice (some ⟨g, 0, none⟩) 1024 cap)).run Try.prog w = .ok (.pointer (some ⟨g, 0, none⟩)) w ∧
      (Instr.loadAt 84 (.pointer (some ⟨g, 0, none⟩))).run Try.prog w = .ok (.agg A) w ∧ A.size = 1024 ∧ A.all (·.oneCell') = true ∧
      Tree ((w.alloc (.cells (Array.replicate 1024 (.int .i64 0)) 84)).setRow w.heap.size A) w.heap.size (fun i => xs.getD i 0) := by
  obtain ⟨i0, hi, hz0, hz1, hz2⟩ := info_parts info84
  have hu : Try.prog.underlying 84 = some (.array 1024 3) := by kernel_rfl
  have hc : ∀ j v, (xs.map (Value.int .i64))[j]? = some v → w.cell? ((⟨g, 0, none⟩ : Addr).add j) = some v := by
    intro j v hj
    have := World.ownsRow.cells h (g := g) rfl j v
    rw [flat_map] at this
    exact this hj
  have hrl := run_loadCells_list (P := Try.prog) w ⟨g, 0, none⟩ (xs.map (Value.int .i64)) hc
  rw [List.length_map, hl] at hrl
  have hal : (xs.map (Value.int .i64)).toArray.all (·.oneCell') = true := by
    rw [Array.all_eq_true_iff_forall_mem]
    intro x hx
    rw [List.mem_toArray] at hx
    obtain ⟨y, _, rfl⟩ := List.mem_map.1 hx
    rfl
  have hsz : (xs.map (Value.int .i64)).toArray.size = 1024 := by rw [List.size_toArray, List.length_map]; exact hl
  refine ⟨(xs.map (Value.int .i64)).toArray, ?_, ?_, hsz, hal, ?_⟩
  · simp [Instr.arrayAt, run_underlying hu]
  · have hagg : (isAgg 84).run Try.prog w = .ok true w := by
      unfold isAgg
      rw [Sem.run_bind, run_underlying hu w]
      rfl
    simp [Instr.loadAt, Instr.sureAddr, loadVar, Sem.run_bind, hagg, sizeOf, typeInfo, hi, hz1, hrl]
  · refine ⟨(xs.map (Value.int .i64)).toArray, setRow_heap _ _ _ _ 84 _ (heap_alloc_new w _), hsz, fun i hi => ?_⟩
    simp [List.getD_eq_getElem?_getD, List.getElem?_eq_getElem (show i < xs.length by omega)]
end Go.Proofs.Ythccnaemocdcbaa
