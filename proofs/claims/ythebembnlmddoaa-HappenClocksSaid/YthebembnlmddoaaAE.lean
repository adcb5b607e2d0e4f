import Derived.Test.YthebembnlmddoaaAD
import Derived.Test.YthebembnlmddoaaX
namespace Go.Proofs.Ythebembnlmddoaa
open Go.RowKit
set_option maxHeartbeats 16000000
set_option maxRecDepth 100000
set_option linter.unusedSimpArgs false
set_option linter.unusedVariables false

/-- block b is the map of how many events tasks have -/
def CnM (w : World) (b n : Nat) (F : Int → Nat) : Prop := ∃ f cnt, MapV 3 kI okI w b n f cnt ∧ ∀ t, okI t → (f t).getD (.int .i64 0) = .int .i64 (F t : Int)
theorem CnM.look {w : World} {b n : Nat} {F : Int → Nat} (h : CnM w b n F) (t : Int) (ht : okI t) : (Instr.lookup 68 (.map (some b)) (.int .i64 t) false).run Try.prog w = .ok (.int .i64 (F t : Int)) w := by
  obtain ⟨f, cnt, h1, h2⟩ := h
  rw [h1.look keyedI Try.underlying68 zero3 t ht (keyI t ht), h2 t ht]
theorem CnM.put {w : World} {b n : Nat} {F : Int → Nat} (h : CnM w b n F) (hn : n < 1000000) (t : Int) (ht : okI t) (s : Nat) :
    ∃ w', (Instr.mapUpdate 68 (.map (some b)) (.int .i64 t) (.int .i64 (s : Int))).run Try.prog w = .ok () w' ∧ CnM w' b (n + 1) (fun u => if u = t then s else F u) ∧ w.grownBy w' (some b) := by
  obtain ⟨f, cnt, h1, h2⟩ := h
  obtain ⟨w', r1, r2, r3⟩ := h1.put kI_inj keyedI Try.underlying68 (by unfold maxLen; omega) t ht (keyI t ht) (.int .i64 (s : Int))
  refine ⟨w', r1, ⟨_, _, r2, fun u hu => ?_⟩, r3⟩
  by_cases e : u = t
  · simp [e]
  · simp only [if_neg e]
    exact h2 u hu
theorem CnM.kept {w w' : World} {b n : Nat} {F : Int → Nat} {row : Option Nat} (h : CnM w b n F) (hg : w.grownBy w' row) (hne : some b ≠ row) : CnM w' b n F := by
  obtain ⟨f, cnt, h1, h2⟩ := h
  exact ⟨f, cnt, h1.kept hg hne, h2⟩
theorem CnM.rest {w w' : World} {b n : Nat} {F : Int → Nat} (h : CnM w b n F) (hb : Below w.heap.size w w') : CnM w' b n F := by
  obtain ⟨f, cnt, h1, h2⟩ := h
  exact ⟨f, cnt, h1.rest hb, h2⟩
theorem CnM.congr {w : World} {b n : Nat} {F G : Int → Nat} (h : CnM w b n F) (e : ∀ t, F t = G t) : CnM w b n G := by
  have : F = G := funext e
  exact this ▸ h
theorem CnM.lt {w : World} {b n : Nat} {F : Int → Nat} (h : CnM w b n F) : b < w.heap.size := by
  obtain ⟨f, cnt, h1, h2⟩ := h
  exact h1.lt
theorem CnM.not {w : World} {b n : Nat} {F : Int → Nat} (h : CnM w b n F) {α : Type} {enc : α → List Value} {sz : Nat} {e : TypeId} {base : Nat} {v : Value} {xs : List α} (ho : Own enc sz e w base v xs) : some b ≠ v.ownBlock := by
  intro hb
  obtain ⟨f, cnt, h1, _⟩ := h
  obtain ⟨es, ck, h2⟩ := h1.obj
  obtain ⟨_, _, cur, h3⟩ := ho.blk b hb.symm
  rw [h2] at h3
  cases h3
theorem CnM.made (w : World) : CnM (w.alloc (.map #[] 0)) w.heap.size 0 (fun _ => 0) := ⟨_, _, MapV.made _ _ _ w, fun t _ => rfl⟩
/-- a row beside another one that grows -/
theorem Own.beside {α : Type} {enc : α → List Value} {sz : Nat} {e : TypeId} {w w' : World} {base : Nat} {x v : Value} {xs : List α} (hX : Own enc sz e w base x xs) (hA : Apt v x) (hg : w.grownBy w' v.ownBlock) {g n c : Nat} (hl : v.ownBlock = some g ∨ g = w.heap.size) :
    Own enc sz e w' base x xs ∧ Apt (.slice (some ⟨g, 0, none⟩) n c) x := by
  refine ⟨hX.grown hg ?_, fun k hk hx => ?_⟩
  · cases h : x.ownBlock with
    | none => exact .inl rfl
    | some b =>
      right
      intro e
      exact hA b e.symm h
  · have : g = k := by simpa [Value.ownBlock] using hk
    subst this
    rcases hl with hl | hl
    · exact hA g hl hx
    · have := (hX.blk g hx).2.1
      omega
def numF (l : List Ev) (n k : Nat) : List Int := (List.range n).map (fun i => if i < k then (cnt l (i + 1) (evA l i).t : Int) else 0)
theorem numF_len (l : List Ev) (n k : Nat) : (numF l n k).length = n := by simp [numF]
theorem numF_zero (l : List Ev) (n : Nat) : numF l n 0 = List.replicate n 0 := by
  apply List.ext_getElem
  · simp [numF]
  · intro i h1 h2
    simp [numF]
theorem numF_get (l : List Ev) (n k i : Nat) (h : i < (numF l n k).length) (hk : i < k) : (numF l n k)[i] = (cnt l (i + 1) (evA l i).t : Int) := by simp [numF, hk]
theorem numF_at (l : List Ev) (n k i : Nat) (h : i < (numF l n k).length) : (numF l n k)[i] = if i < k then (cnt l (i + 1) (evA l i).t : Int) else 0 := by simp [numF]
theorem numF_set (l : List Ev) (n k : Nat) : (numF l n k).set k (cnt l (k + 1) (evA l k).t : Int) = numF l n (k + 1) := by
  apply List.ext_getElem
  · simp [numF]
  · intro i h1 h2
    rw [List.getElem_set, numF_at, numF_at]
    by_cases e : k = i
    · subst e; rw [if_pos rfl, if_pos (by omega)]
    · rw [if_neg e]
      by_cases e2 : i < k
      · rw [if_pos e2, if_pos (by omega)]
      · rw [if_neg e2, if_neg (by omega)]
theorem any_mem (ts : List Int) (t : Int) : ts.any (fun x => decide (t = x)) = decide (t ∈ ts) := by
  rw [Bool.eq_iff_iff]
  simp
theorem cnt_fun (l : List Ev) (k : Nat) (h : k < l.length) (t : Int) : (if t = (evA l k).t then cnt l k (evA l k).t + 1 else cnt l k t) = cnt l (k + 1) t := by
  rw [cnt_succ l k h]
  by_cases e : t = (evA l k).t
  · subst e; simp
  · rw [if_neg e, if_neg (fun h => e h.symm)]; rfl
theorem tkF_take (l : List Ev) (k : Nat) (h : k < l.length) : tkF (l.take (k + 1)) = tkS (tkF (l.take k)) (evA l k) := by rw [take_snoc l k h, tkF_snoc, evA_eq l k h]
/-- a block of another type is not a row's -/
theorem own_apart {α : Type} {enc : α → List Value} {sz : Nat} {e t : TypeId} {w : World} {base b : Nat} {v : Value} {xs : List α} {cs : Array Value} (ho : Own enc sz e w base v xs) (h : w.heap[b]? = some (.cells cs t (0, 0))) (hne : t ≠ e) : some b ≠ v.ownBlock := by
  intro hb
  obtain ⟨_, _, cur, h3⟩ := ho.blk b hb.symm
  rw [h] at h3
  injection h3 with h3
  injection h3 with _ h4
  exact hne h4
theorem oneB (x : Bool) : ∀ u ∈ encB x, u.oneCell' = true := fun u hu => by simp at hu; subst hu; rfl
abbrev encV (v : Value) : List Value := [v]
theorem lenV (v : Value) : (encV v).length = 1 := rfl
theorem info71 : (Try.prog.info? 71).map (fun i => (i.zero, i.size, i.bytes)) = some (some (.slice none 0 0), 1, 24) := by kernel_rfl
theorem made_slices (n : Nat) : (madeCells (Value.slice none 0 0).cells (n * 1)).toList = (List.replicate n (Value.slice none 0 0)).flatMap encV := by
  have := madeCells_mul #[.slice none 0 0] n (by simp)
  rw [flat_rep]
  simpa [Value.cells, encV] using this
/-- a row of the call's own that holds something -/
theorem Own.row {α : Type} {enc : α → List Value} {sz : Nat} {e : TypeId} {w : World} {base : Nat} {v : Value} {xs : List α} (hs : ∀ x, (enc x).length = sz) (h : Own enc sz e w base v xs) (h0 : 0 < xs.length) : ∃ g c, v = .slice (some ⟨g, 0, none⟩) xs.length c ∧ base ≤ g ∧ g < w.heap.size ∧ Rd enc sz w (some ⟨g, 0, none⟩) xs := by
  have h1 := h
  rcases h.2 with ⟨rfl, hn⟩ | ⟨g, cap, cur, rfl, hb, hg, _⟩
  · omega
  · obtain ⟨A, c, hv, hr⟩ := h1.rd hs
    obtain ⟨rfl, _, rfl⟩ := Value.slice.inj hv
    exact ⟨g, _, rfl, hb, (Array.getElem?_eq_some_iff.1 hg).1, hr⟩
/-- row q of the table of happening before -/
def DoneR (w : World) (B bb : Nat) (l : List Ev) (q : Nat) (v : Value) : Prop := ∃ g c, v = .slice (some ⟨g, 0, none⟩) l.length c ∧ g ≠ bb ∧ g < B ∧ ∀ x, x < l.length → w.cell? ⟨g, x, none⟩ = some (.bool (bfB l q x))
theorem DoneR.below {w w' : World} {B bb : Nat} {l : List Ev} {q : Nat} {v : Value} (h : DoneR w B bb l q v) (hb : Below B w w') : DoneR w' B bb l q v := by
  obtain ⟨g, c, h1, h2, h3, h4⟩ := h
  exact ⟨g, c, h1, h2, h3, fun x hx => (hb.cell (p := ⟨g, x, none⟩) h3).trans (h4 x hx)⟩
theorem DoneR.set {w : World} {B bb : Nat} {l : List Ev} {q : Nat} {v : Value} (h : DoneR w B bb l q v) (i : Nat) (u : Value) : DoneR (w.setCell ⟨bb, i, none⟩ u) B bb l q v := by
  obtain ⟨g, c, h1, h2, h3, h4⟩ := h
  exact ⟨g, c, h1, h2, h3, fun x hx => by rw [World.cell?_setCell_far _ _ _ _ (by exact fun e => h2 e.symm)]; exact h4 x hx⟩
theorem DoneR.mono {w : World} {B B' bb : Nat} {l : List Ev} {q : Nat} {v : Value} (h : DoneR w B bb l q v) (hB : B ≤ B') : DoneR w B' bb l q v := by
  obtain ⟨g, c, h1, h2, h3, h4⟩ := h
  exact ⟨g, c, h1, h2, by omega, h4⟩
theorem idxF_idxOf (ts : List Int) (t : Int) (h : t ∈ ts) : idxF (fun x => decide (t = x)) ts = (ts.idxOf t : Int) := by
  have hl := List.idxOf_lt_length_of_mem h
  refine idxF_at _ ts _ hl (by simp) (fun j hj => ?_)
  have := List.not_of_lt_findIdx (p := (· == t)) (xs := ts) (i := j) hj
  simp at this
  simpa using fun e => this e.symm
/-- what the first loop of HappenOrder keeps -/
structure O1 (n : Nat) (w2 : World) (nb mb m : Nat) (vt : Value) (ts ns : List Int) (F : Int → Nat) (vo : Value) (os : List Nat) (wr : World) : Prop where
  own : Own encI 1 3 wr nb vt ts
  num : Own encI 1 3 wr nb (.slice (some ⟨nb, 0, none⟩) n n) ns
  map : CnM wr mb m F
  ord : Own encN 1 3 wr nb vo os
  low : Below nb w2 wr
  a1 : Apt vt vo
  a2 : Apt vt (.slice (some ⟨nb, 0, none⟩) n n)
  a3 : Apt vo (.slice (some ⟨nb, 0, none⟩) n n)
section
variable {n : Nat} {w2 : World} {nb mb m : Nat} {vt : Value} {ts ns : List Int} {F : Int → Nat} {vo : Value} {os : List Nat} {wr w' : World}
theorem O1.rest (h : O1 n w2 nb mb m vt ts ns F vo os wr) (hn : nb ≤ wr.heap.size) (hb : Below wr.heap.size wr w') : O1 n w2 nb mb m vt ts ns F vo os w' :=
  ⟨h.own.rest hb, h.num.rest hb, h.map.rest hb, h.ord.rest hb, h.low.trans (hb.mono hn), h.a1, h.a2, h.a3⟩
theorem O1.tasks (h : O1 n w2 nb mb m vt ts ns F vo os wr) {g k c : Nat} {ts' : List Int} (hn : nb ≤ wr.heap.size) (ho : Own encI 1 3 w' nb (.slice (some ⟨g, 0, none⟩) k c) ts') (hg : wr.grownBy w' vt.ownBlock) (hl : vt.ownBlock = some g ∨ g = wr.heap.size) : O1 n w2 nb mb m (.slice (some ⟨g, 0, none⟩) k c) ts' ns F vo os w' := by
  have h1 := h.num.beside (n := k) (c := c) h.a2 hg hl
  have h2 := h.ord.beside (n := k) (c := c) h.a1 hg hl
  exact ⟨ho, h1.1, h.map.kept hg (h.map.not h.own), h2.1, h.low.grown hg hn (fun b hb => (h.own.blk b hb).1), h2.2, h1.2, h.a3⟩
theorem O1.order (h : O1 n w2 nb mb m vt ts ns F vo os wr) {g k c : Nat} {os' : List Nat} (hn : nb ≤ wr.heap.size) (ho : Own encN 1 3 w' nb (.slice (some ⟨g, 0, none⟩) k c) os') (hg : wr.grownBy w' vo.ownBlock) (hl : vo.ownBlock = some g ∨ g = wr.heap.size) : O1 n w2 nb mb m vt ts ns F (.slice (some ⟨g, 0, none⟩) k c) os' w' := by
  have h1 := h.num.beside (n := k) (c := c) h.a3 hg hl
  have h2 := h.own.beside (n := k) (c := c) h.a1.symm hg hl
  exact ⟨h2.1, h1.1, h.map.kept hg (h.map.not h.ord), ho, h.low.grown hg hn (fun b hb => (h.ord.blk b hb).1), h2.2.symm, h.a2, h1.2⟩
theorem O1.count (h : O1 n w2 nb mb m vt ts ns F vo os wr) {m' : Nat} {F' : Int → Nat} (hn : nb ≤ wr.heap.size) (hm : nb ≤ mb) (ho : CnM w' mb m' F') (hg : wr.grownBy w' (some mb)) : O1 n w2 nb mb m' vt ts ns F' vo os w' := by
  have hne : ∀ {α : Type} {enc : α → List Value} {sz : Nat} {e : TypeId} {base : Nat} {v : Value} {xs : List α}, Own enc sz e wr base v xs → v.ownBlock = none ∨ v.ownBlock ≠ some mb := fun ho => .inr (fun e => h.map.not ho e.symm)
  exact ⟨h.own.grown hg (hne h.own), h.num.grown hg (hne h.num), ho, h.ord.grown hg (hne h.ord), h.low.grown hg hn (fun b hb => by cases hb; exact hm), h.a1, h.a2, h.a3⟩
theorem O1.number (h : O1 n w2 nb mb m vt ts ns F vo os wr) (hn : nb ≤ wr.heap.size) (hl : ns.length = n) (k : Nat) (hk : k < n) (v : Int) : O1 n w2 nb mb m vt ts (ns.set k v) F vo os (wr.setCell ⟨nb, k, none⟩ (.int .i64 v)) := by
  have hs := h.num.set lenI hl k (by rw [hl]; exact hk) 0 (by decide) (.int .i64 v) v rfl
  simp only [Nat.mul_one, Nat.add_zero] at hs
  refine ⟨h.own.grown hs.2 ?_, hs.1, h.map.kept hs.2 (by have := h.map.not h.num; exact this), h.ord.grown hs.2 ?_, h.low.grown hs.2 hn (fun b hb => by cases hb; exact Nat.le_refl _), h.a1, h.a2, h.a3⟩
  · cases e : vt.ownBlock with
    | none => exact .inl rfl
    | some b => exact .inr (fun hb => h.a2 b e (by rw [Value.ownBlock]; exact hb.symm))
  · cases e : vo.ownBlock with
    | none => exact .inl rfl
    | some b => exact .inr (fun hb => h.a3 b e (by rw [Value.ownBlock]; exact hb.symm))
end
end Go.Proofs.Ythebembnlmddoaa
