import Derived.Test.YtggidakiflnhhaaProg
import Derived.WalkKit
import Derived.WalkSpells
import Derived.WalkLawsBesides
import Derived.BigQuiet
import Derived.Lib.Hide
import Derived.Deep.AppendLies
import Derived.Deep.DeepCutAuto
import Derived.Deep.RegionLaw
import Derived.Lib.LazyBuf
import Derived.Maps.AppendAt
import Derived.Maps.OwnSet
import Derived.WideKeyPair
import Derived.Carry
import Derived.BigRegion
namespace Go.Proofs.Ytggidakiflnhhaa
open Go.RowKit
set_option maxHeartbeats 400000
set_option maxRecDepth 100000
set_option linter.unusedSimpArgs false
set_option linter.unusedVariables false

theorem ret_int {k : IntKind} {a b : Int} (h : a = b) : Ending.returned (.int k a) = .returned (.int k b) := by rw [h]
theorem ret_bool {a b : Bool} (h : a = b) : Ending.returned (.bool a) = .returned (.bool b) := by rw [h]

/-! reading of rows -/
/-- the slice at A reads as the elements xs, each of so many cells -/
structure Rd {α : Type} (enc : α → List Value) (sz : Nat) (w : World) (A : Option Addr) (xs : List α) : Prop where
  small : xs.length ≤ 9223372036854775807
  cell : ∀ k (h : k < xs.length), ∃ a, A = some a ∧ ∀ j v, (enc xs[k])[j]? = some v → w.cell? (a.add (k * sz + j)) = some v

theorem Rd.below {α : Type} {enc : α → List Value} {sz : Nat} {w w' : World} {A : Option Addr} {xs : List α} (h : Rd enc sz w A xs) (hb : Below w.heap.size w w') : Rd enc sz w' A xs :=
  ⟨h.small, fun k hk => by
    obtain ⟨a, ha, hc⟩ := h.cell k hk
    exact ⟨a, ha, fun j v hv => (hb.cell (World.block_lt_of_cell? w _ (hc j v hv))).trans (hc j v hv)⟩⟩

theorem Rd.nil {α : Type} (enc : α → List Value) (sz : Nat) (w : World) (A : Option Addr) : Rd enc sz w A [] := ⟨by simp, fun k h => by simp at h⟩


/-- the place of the first element that a test holds of; -1 without one -/
def idxF {α : Type} (p : α → Bool) (xs : List α) : Int := match xs.findIdx? p with | some i => (i : Int) | none => -1
theorem idxF_at {α : Type} (p : α → Bool) (xs : List α) (k : Nat) (hk : k < xs.length) (ht : p xs[k] = true) (hf : ∀ j (h : j < k), p (xs[j]'(by omega)) = false) : idxF p xs = k := by
  unfold idxF
  have : xs.findIdx? p = some k := by
    rw [List.findIdx?_eq_some_iff_getElem]
    exact ⟨hk, ht, fun j hj => by simp [hf j hj]⟩
  rw [this]
theorem idxF_none {α : Type} (p : α → Bool) (xs : List α) (hf : ∀ j (h : j < xs.length), p xs[j] = false) : idxF p xs = -1 := by
  unfold idxF
  have : xs.findIdx? p = none := by
    rw [List.findIdx?_eq_none_iff]
    intro x hx
    obtain ⟨j, hj, rfl⟩ := List.mem_iff_getElem.1 hx
    exact hf j hj
  rw [this]
theorem idxF_any {α : Type} (p : α → Bool) (xs : List α) : decide (0 ≤ idxF p xs) = xs.any p := by
  unfold idxF
  cases h : xs.findIdx? p with
  | none =>
    rw [List.findIdx?_eq_none_iff] at h
    simp
    intro x hx; exact h x hx
  | some i =>
    rw [List.findIdx?_eq_some_iff_getElem] at h
    obtain ⟨h1, h2, _⟩ := h
    simp
    exact ⟨_, List.getElem_mem h1, h2⟩


/-! rows of the call's own -/
/-- the slice value v is a row of the call's own (in blocks from base on) with the elements xs -/
def Own {α : Type} (enc : α → List Value) (sz : Nat) (e : TypeId) (w : World) (base : Nat) (v : Value) (xs : List α) : Prop := w.ownsRow base e sz v xs.length (xs.flatMap enc)

theorem flat_length {α : Type} {enc : α → List Value} {sz : Nat} (h : ∀ x, (enc x).length = sz) (xs : List α) : (xs.flatMap enc).length = xs.length * sz := by
  induction xs with
  | nil => simp
  | cons x xs ih => rw [List.flatMap_cons, List.length_append, ih, h, List.length_cons, Nat.succ_mul, Nat.add_comm]
theorem flat_get {α : Type} {enc : α → List Value} {sz : Nat} (h : ∀ x, (enc x).length = sz) (xs : List α) (k : Nat) (hk : k < xs.length) (j : Nat) (v : Value) (hj : (enc xs[k])[j]? = some v) : (xs.flatMap enc)[k * sz + j]? = some v := by
  induction xs generalizing k with
  | nil => simp at hk
  | cons x xs ih =>
    rw [List.flatMap_cons]
    cases k with
    | zero => rw [Nat.zero_mul, Nat.zero_add]; rw [List.getElem?_append_left (by have := (List.getElem?_eq_some_iff.1 hj).1; simpa using this)]; exact hj
    | succ k =>
      rw [List.getElem?_append_right (by rw [h, Nat.succ_mul]; omega), h]
      have : (k + 1) * sz + j - sz = k * sz + j := by rw [Nat.succ_mul]; omega
      rw [this]
      exact ih k (by simpa using hk) (by simpa using hj)
theorem flat_at {α : Type} {enc : α → List Value} {sz : Nat} (h : ∀ x, (enc x).length = sz) (xs : List α) (i : Nat) (v : Value) (hi : (xs.flatMap enc)[i]? = some v) : ∃ k j, ∃ hk : k < xs.length, i = k * sz + j ∧ (enc xs[k])[j]? = some v := by
  induction xs generalizing i with
  | nil => simp at hi
  | cons x xs ih =>
    rw [List.flatMap_cons] at hi
    by_cases hlt : i < sz
    · rw [List.getElem?_append_left (by rw [h]; exact hlt)] at hi
      exact ⟨0, i, by simp, by simp, by simpa using hi⟩
    · rw [List.getElem?_append_right (by rw [h]; omega), h] at hi
      obtain ⟨k, j, hk, he, hv⟩ := ih _ hi
      exact ⟨k + 1, j, by simpa using hk, by rw [Nat.succ_mul]; omega, by simpa using hv⟩

theorem Own.rd {α : Type} {enc : α → List Value} {sz : Nat} {e : TypeId} {w : World} {base : Nat} {v : Value} {xs : List α} (hs : ∀ x, (enc x).length = sz) (h : Own enc sz e w base v xs) :
    ∃ A c, v = .slice A xs.length c ∧ Rd enc sz w A xs := by
  have h0 := h
  obtain ⟨hl, h2⟩ := h
  rcases h2 with ⟨rfl, hn⟩ | ⟨g, cap, cur, rfl, hb, hg, hnc, hcm, hcs, ht⟩
  · have : xs = [] := List.eq_nil_of_length_eq_zero hn
    subst this
    exact ⟨none, 0, rfl, Rd.nil _ _ _ _⟩
  · refine ⟨_, _, rfl, ⟨by simp only [maxLen] at hcm; omega, fun k hk => ⟨_, rfl, fun j u hu => ?_⟩⟩⟩
    have hf := flat_get hs xs k hk j u hu
    have := (List.getElem?_eq_some_iff.1 hf).1
    rw [show (⟨g, 0, none⟩ : Addr).add (k * sz + j) = ⟨g, k * sz + j, none⟩ by unfold Addr.add; split <;> simp_all]
    rw [World.ownsRow.cellAt h0 _ (by rw [← hl]; exact this)]
    exact hf

/-- the cells of a row that is read, as append asks for them -/
theorem Rd.news {α : Type} {enc : α → List Value} {sz : Nat} {w : World} {a : Addr} {xs : List α} (hs : ∀ x, (enc x).length = sz) (h : Rd enc sz w (some a) xs) : ∀ j u, (xs.flatMap enc)[j]? = some u → w.cell? (a.add j) = some u := by
  intro j u hu
  obtain ⟨k, i, hk, rfl, hv⟩ := flat_at hs xs j u hu
  obtain ⟨a', ha, hc⟩ := h.cell k hk
  injection ha with ha
  subst ha
  exact hc i u hv


theorem Rd.none {α : Type} {enc : α → List Value} {sz : Nat} {w : World} {xs : List α} (h : Rd enc sz w none xs) : xs = [] := by
  cases xs with
  | nil => rfl
  | cons x xs => obtain ⟨a, ha, _⟩ := h.cell 0 (by simp); cases ha


/-- append of a row that is read to a row of the call's own, told of elements -/
theorem wpList_append_typed {α : Type} {P : Program} {enc : α → List Value} {sz : Nat} (hs : ∀ x, (enc x).length = sz) (h1 : ∀ x, ∀ u ∈ enc x, u.oneCell' = true)
    (w : World) {ops : Array Oper} {rest : List Oper} {o : Oper} {a : Act} {Q : Exit → Act → World → Prop} (hgd : o.guard = none) (s x : Operand) (t : TypeId)
    (ho : o.op = .call { callee := .builtin .append, args := #[s, x], argTypes := #[t, t] })
    (base : Nat) (e : TypeId) (z : Value) (bytes : Nat) (ht : P.underlying t = some (.slice e)) (hinfo : (P.info? e).map (fun i => (i.zero, i.size, i.bytes)) = some (some z, sz, bytes))
    (hzs : z.cells.size = sz) (hsz : 0 < sz) (hb0 : 0 < bytes)
    (v : Value) (xs : List α) (hv : a.eval s = v) (hown : Own enc sz e w base v xs)
    (ad : Addr) (m c : Nat) (ys : List α) (hx : a.eval x = .slice (some ad) m c) (hm : ys.length = m) (hr : Rd enc sz w (some ad) ys)
    (hbytes : (xs.length + m) * bytes ≤ 140737488355328) (hbase : base ≤ w.heap.size)
    (h : ∀ v' w', Own enc sz e w' base v' (xs ++ ys) → w.grownBy w' v.ownBlock → wpList P ops Q rest (a.put o.dst v') w') : wpList P ops Q (o :: rest) a w := by
  subst hm
  obtain ⟨i0, hi, hz0, hz1, hz2⟩ := info_parts hinfo
  refine wpList_append_own w hgd s x t ho base e i0 z sz bytes ht hi hz0 hz1 hz2 hzs hsz v xs.length (xs.flatMap enc) hv hown ad ys.length c (ys.flatMap enc) hx (flat_length hs ys) (hr.news hs)
    (fun u hu => by obtain ⟨y, _, hy⟩ := List.mem_flatMap.1 hu; exact h1 y u hy) ?_ hbytes hbase ?_
  · have : xs.length + ys.length ≤ (xs.length + ys.length) * bytes := Nat.le_mul_of_pos_right _ hb0
    simp only [maxLen]
    omega
  · intro v' w' hown' hg _
    refine h v' w' ?_ hg
    unfold Own
    rw [List.length_append, List.flatMap_append]
    exact hown'

theorem Own.empty {α : Type} (enc : α → List Value) (sz : Nat) (e : TypeId) (w : World) (base : Nat) (hb : base ≤ w.heap.size) : Own enc sz e (w.alloc (.cells #[] e)) base (.slice (some ⟨w.heap.size, 0, none⟩) 0 0) [] :=
  World.ownsRow_lit w #[] 0 hb (Nat.zero_le _) (by simp)

/-- slices.Clone -/
def ClonePost {α : Type} (enc : α → List Value) (sz : Nat) (t : TypeId) (xs : List α) (w : World) (e : Ending) (w' : World) : Prop := ∃ v, e = .returned v ∧ Own enc sz t w' w.heap.size v xs ∧ Below w.heap.size w w'


theorem flat_set {α : Type} {enc : α → List Value} {sz : Nat} (hs : ∀ x, (enc x).length = sz) (xs : List α) (i : Nat) (hi : i < xs.length) (j : Nat) (hj : j < sz) (v : Value) (y : α) (hy : (enc xs[i]).set j v = enc y) :
    (xs.flatMap enc).set (i * sz + j) v = (xs.set i y).flatMap enc := by
  induction xs generalizing i with
  | nil => simp at hi
  | cons x xs ih =>
    cases i with
    | zero =>
      simp only [Nat.zero_mul, Nat.zero_add, List.set_cons_zero, List.flatMap_cons]
      rw [List.set_append_left _ _ (by rw [hs]; exact hj)]
      simp at hy
      rw [hy]
    | succ i =>
      simp only [List.set_cons_succ, List.flatMap_cons]
      rw [List.set_append_right _ _ (by rw [hs, Nat.succ_mul]; omega), hs, show (i + 1) * sz + j - sz = i * sz + j by rw [Nat.succ_mul]; omega]
      rw [ih i (by simpa using hi) (by simpa using hy)]

theorem Own.set {α : Type} {enc : α → List Value} {sz : Nat} {e : TypeId} {w : World} {base g n c : Nat} {xs : List α} (hs : ∀ x, (enc x).length = sz) (h : Own enc sz e w base (.slice (some ⟨g, 0, none⟩) n c) xs) (hn : xs.length = n)
    (i : Nat) (hi : i < xs.length) (j : Nat) (hj : j < sz) (v : Value) (y : α) (hy : (enc xs[i]).set j v = enc y) :
    Own enc sz e (w.setCell ⟨g, i * sz + j, none⟩ v) base (.slice (some ⟨g, 0, none⟩) n c) (xs.set i y) ∧ w.grownBy (w.setCell ⟨g, i * sz + j, none⟩ v) (some g) := by
  subst hn
  have := World.ownsRow.stored h (i * sz + j) v
  refine ⟨?_, this.2⟩
  unfold Own
  rw [List.length_set, ← flat_set hs xs i hi j hj v y hy]
  exact this.1
theorem Own.cell {α : Type} {enc : α → List Value} {sz : Nat} {e : TypeId} {w : World} {base g n c : Nat} {xs : List α} (hs : ∀ x, (enc x).length = sz) (h : Own enc sz e w base (.slice (some ⟨g, 0, none⟩) n c) xs) (hn : xs.length = n)
    (i : Nat) (hi : i < xs.length) (j : Nat) (v : Value) (hv : (enc xs[i])[j]? = some v) : w.cell? ⟨g, i * sz + j, none⟩ = some v ∧ w.frozen? ⟨g, i * sz + j, none⟩ = false := by
  subst hn
  have hf := flat_get hs xs i hi j v hv
  have hlt := (List.getElem?_eq_some_iff.1 hf).1
  exact ⟨by rw [World.ownsRow.cellAt h _ (by rw [← h.1]; exact hlt)]; exact hf, World.ownsRow.frozenAt h _⟩
theorem Own.grown {α : Type} {enc : α → List Value} {sz : Nat} {e : TypeId} {w w' : World} {base : Nat} {v : Value} {xs : List α} (h : Own enc sz e w base v xs) {row : Option Nat} (hg : w.grownBy w' row) (hne : v.ownBlock = none ∨ v.ownBlock ≠ row) : Own enc sz e w' base v xs := World.ownsRow.kept h hg hne
theorem Own.blk {α : Type} {enc : α → List Value} {sz : Nat} {e : TypeId} {w : World} {base : Nat} {v : Value} {xs : List α} (h : Own enc sz e w base v xs) (k : Nat) (hk : v.ownBlock = some k) : base ≤ k ∧ k < w.heap.size ∧ ∃ cur, w.heap[k]? = some (.cells cur e (0, 0)) := by
  have h1 := World.ownsRow.lt h k hk
  refine ⟨h1.1, h1.2, ?_⟩
  rcases h.2 with ⟨rfl, _⟩ | ⟨g, cap, cur, rfl, hb, hg, _⟩
  · simp [Value.ownBlock] at hk
  · have : g = k := by simpa [Value.ownBlock] using hk
    subst this
    exact ⟨cur, hg⟩

theorem Own.rest {α : Type} {enc : α → List Value} {sz : Nat} {e : TypeId} {w w' : World} {base : Nat} {v : Value} {xs : List α} (h : Own enc sz e w base v xs) (hb : Below w.heap.size w w') : Own enc sz e w' base v xs :=
  h.grown (row := none) ⟨hb.os, hb.tape, hb.output, hb.size, fun k hk _ => hb.block k hk⟩ (by cases v.ownBlock <;> simp)


theorem Own.form {α : Type} {enc : α → List Value} {sz : Nat} {e : TypeId} {w : World} {base : Nat} {v : Value} {xs : List α} (hs : ∀ x, (enc x).length = sz) (h : Own enc sz e w base v xs) :
    ∃ A c, v = .slice A xs.length c ∧ xs.length ≤ c ∧ Rd enc sz w A xs ∧ ∀ a, A = some a → base ≤ a.block ∧ a.block < w.heap.size := by
  have h0 := h
  obtain ⟨A, c, rfl, hr⟩ := h.rd hs
  refine ⟨A, c, rfl, ?_, hr, fun a ha => ?_⟩
  · rcases h.2 with ⟨h1, hn⟩ | ⟨g, cap, cur, h1, hb, hg, hnc, _⟩
    · obtain ⟨_, e2, e3⟩ := Value.slice.inj h1; omega
    · obtain ⟨_, e2, e3⟩ := Value.slice.inj h1; omega
  · subst ha
    have := h.blk a.block rfl
    exact ⟨this.1, this.2.1⟩
/-- append of some elements, told of elements and of the block -/
theorem wpList_append_told {α : Type} {P : Program} {enc : α → List Value} {sz : Nat} (hs : ∀ x, (enc x).length = sz) (h1 : ∀ x, ∀ u ∈ enc x, u.oneCell' = true)
    (w : World) {ops : Array Oper} {rest : List Oper} {o : Oper} {a : Act} {Q : Exit → Act → World → Prop} (hgd : o.guard = none) (s x : Operand) (t : TypeId)
    (ho : o.op = .call { callee := .builtin .append, args := #[s, x], argTypes := #[t, t] })
    (base : Nat) (e : TypeId) (z : Value) (bytes : Nat) (ht : P.underlying t = some (.slice e)) (hinfo : (P.info? e).map (fun i => (i.zero, i.size, i.bytes)) = some (some z, sz, bytes))
    (hzs : z.cells.size = sz) (hsz : 0 < sz) (hb0 : 0 < bytes)
    (v : Value) (xs : List α) (n : Nat) (hn : xs.length = n) (hv : a.eval s = v) (hown : Own enc sz e w base v xs)
    (ad : Addr) (m c : Nat) (ys : List α) (hx : a.eval x = .slice (some ad) m c) (hm : ys.length = m) (hm0 : 0 < m) (hr : Rd enc sz w (some ad) ys)
    (hbytes : (n + m) * bytes ≤ 140737488355328) (hbase : base ≤ w.heap.size)
    (h : ∀ g cap w', Own enc sz e w' base (.slice (some ⟨g, 0, none⟩) (n + m) cap) (xs ++ ys) → w.grownBy w' v.ownBlock → (v.ownBlock = some g ∨ g = w.heap.size) → wpList P ops Q rest (a.put o.dst (.slice (some ⟨g, 0, none⟩) (n + m) cap)) w') : wpList P ops Q (o :: rest) a w := by
  subst hm
  subst hn
  obtain ⟨i0, hi, hz0, hz1, hz2⟩ := info_parts hinfo
  have h63 : xs.length + ys.length ≤ maxLen := by
    have : xs.length + ys.length ≤ (xs.length + ys.length) * bytes := Nat.le_mul_of_pos_right _ hb0
    simp only [maxLen]
    omega
  obtain ⟨g, cap, w', hr1, ho1, hg1, hg2, hg3⟩ := run_append_lies (P := P) w t o.type base e i0 z sz bytes ht hi hz0 hz1 hz2 hzs hsz v xs.length (xs.flatMap enc) hown ad ys.length c (ys.flatMap enc) (flat_length hs ys) (hr.news hs)
    (fun u hu => by obtain ⟨y, _, hy⟩ := List.mem_flatMap.1 hu; exact h1 y u hy) hm0 h63 hbytes hbase _ rfl
  refine wpList_plain hgd fun K hK => ?_
  unfold Oper.wp execOp
  simp only [ho, resolve, invoke, builtin, Sem.run_bind, Sem.run_pure, Result.andThen_ok, List.map_toArray, List.map_cons, List.map_nil, hv, hx, hr1]
  refine hK _ _ (h g cap w' ?_ hg1 hg2)
  unfold Own
  rw [List.length_append, List.flatMap_append]
  exact ho1

def Apt (A B : Value) : Prop := ∀ k, A.ownBlock = some k → B.ownBlock ≠ some k
theorem Apt.symm {A B : Value} (h : Apt A B) : Apt B A := fun k h1 h2 => h k h2 h1
theorem Apt.none (A : Value) : Apt A (.slice Option.none 0 0) := fun k _ h => by simp [Value.ownBlock] at h

theorem add_field (a : Addr) (n j : Nat) (hj : j ≠ 0) : a.add (n + j) = ⟨(a.add n).block, (a.add n).off + j, Option.none⟩ := by
  unfold Addr.add
  rw [if_neg (by omega)]
  split
  · rename_i h; subst h; simp
  · simp; omega
theorem add_at (b j : Nat) : (⟨b, 0, none⟩ : Addr).add j = ⟨b, j, none⟩ := by unfold Addr.add; split <;> simp_all
theorem drewN_below {B : Nat} {w W : World} (h : Below B w W) (n : Nat) : Below B w (W.drewN n) := ⟨h.os, h.tape, h.output, h.size, h.block⟩
theorem wrap64_fit (n : Int) (h : -9223372036854775808 ≤ n ∧ n ≤ 9223372036854775807) : wrap64 n = n := by unfold wrap64; omega
theorem Rd.drew {α : Type} {enc : α → List Value} {sz : Nat} {w : World} {A : Option Addr} {xs : List α} (h : Rd enc sz w A xs) : Rd enc sz w.drew A xs := ⟨h.small, h.cell⟩
/-- one element in a new block -/
theorem rd_one {α : Type} (enc : α → List Value) (sz : Nat) (w : World) (x : α) (t : TypeId) (cs : Array Value) (hc : cs = (enc x).toArray) (g : Nat) (hg : g = w.heap.size) : Rd enc sz (w.alloc (.cells cs t)) (some ⟨g, 0, none⟩) [x] := by
  subst hg
  subst hc
  refine ⟨by simp, fun k hk => ⟨_, rfl, fun j v hv => ?_⟩⟩
  obtain rfl : k = 0 := by simp at hk; omega
  simp only [List.getElem_cons_zero] at hv
  rw [show 0 * sz + j = j by omega, add_at, cell_of_row _ _ _ _ _ _ (Go.heap_alloc_new w _)]
  simpa using hv
abbrev encI (x : Int) : List Value := [.int .i64 x]
theorem Rd.int {w : World} {A : Option Addr} {xs : List Int} (h : Rd encI 1 w A xs) (k : Nat) (hk : k < xs.length) : ∃ a, A = some a ∧ w.cell? (a.add k) = some (.int .i64 xs[k]) := by
  obtain ⟨a, ha, hc⟩ := h.cell k hk
  exact ⟨a, ha, by simpa using hc 0 _ rfl⟩
theorem lenI (x : Int) : (encI x).length = 1 := rfl
theorem oneI (x : Int) : ∀ u ∈ encI x, u.oneCell' = true := fun u hu => by simp at hu; subst hu; rfl
theorem getD_in (v : List Int) (i : Nat) (h : i < v.length) : v.getD i 0 = v[i] := by
  rw [List.getD_eq_getElem?_getD, List.getElem?_eq_getElem h]; rfl
theorem take_snoc {α : Type} (m : List α) (i : Nat) (h : i < m.length) : m.take (i + 1) = m.take i ++ [m[i]] := List.take_succ_eq_append_getElem h
theorem info3 : (Try.prog.info? 3).map (fun i => (i.zero, i.size, i.bytes)) = some (some (.int .i64 0), 1, 8) := by kernel_rfl
theorem flat_rep {α : Type} (enc : α → List Value) (x : α) (n : Nat) : (List.replicate n x).flatMap enc = (List.replicate n (enc x)).flatten := by
  induction n with
  | zero => rfl
  | succ k ih => simp [List.replicate_succ, ih]

theorem madeCells_mul (z : Array Value) (n : Nat) (hz : 0 < z.size) : (madeCells z (n * z.size)).toList = (List.replicate n z.toList).flatten := by
  induction n with
  | zero => simp [madeCells]
  | succ k ih =>
    have h1 : (List.replicate (k + 1) z.toList).flatten = (List.replicate k z.toList).flatten ++ z.toList := by
      rw [List.replicate_succ', List.flatten_append]; simp
    rw [h1, ← ih]
    simp only [madeCells, Array.toList_map, Array.toList_range]
    rw [Nat.succ_mul, List.range_add, List.map_append, List.map_map]
    congr 1
    apply List.ext_getElem
    · simp
    · intro i hi1 hi2
      have hi : i < z.size := by simpa using hi1
      simp only [List.getElem_map, List.getElem_range, Function.comp]
      rw [show (k * z.size + i) % z.size = i by rw [Nat.add_comm, Nat.mul_comm, Nat.add_mul_mod_self_left]; exact Nat.mod_eq_of_lt hi]
      simp [hi]


theorem made_int (n : Nat) : (madeCells (Value.int .i64 0).cells (n * 1)).toList = (List.replicate n (0 : Int)).flatMap encI := by
  have := madeCells_mul #[.int .i64 0] n (by simp)
  rw [flat_rep]
  simpa [Value.cells, encI] using this


/-! ### maps whose elements are told as values -/
open Go.Maps Go.WideMaps in
/-- block b is a map of at most n entries, cnt of them, that holds f -/
def MapV {κ : Type} (K : TypeId) (kl : κ → Lit) (ok : κ → Prop) (w : World) (b n : Nat) (f : κ → Option Value) (cnt : Nat) : Prop :=
  ∃ D : DataW Value, w.ownsMap Try.prog K (fun v => some (.held v, [])) b n D ∧ Maps.size D = cnt ∧ ∀ x, ok x → (Maps.has D (kl x) = (f x).isSome ∧ ∀ v, f x = some v → ∀ z, D.atKey (kl x) z = .held v)
theorem MapV.made {κ : Type} (K : TypeId) (kl : κ → Lit) (ok : κ → Prop) (w : World) : MapV K kl ok (w.alloc (.map #[] 0)) w.heap.size 0 (fun _ => none) 0 :=
  ⟨_, World.ownsMap_made _ _ _ _, rfl, fun x _ => ⟨rfl, fun v h => by cases h⟩⟩
theorem MapV.kept {κ : Type} {K : TypeId} {kl : κ → Lit} {ok : κ → Prop} {w w' : World} {b n : Nat} {f : κ → Option Value} {cnt : Nat} {row : Option Nat} (h : MapV K kl ok w b n f cnt) (hg : w.grownBy w' row) (hne : some b ≠ row) : MapV K kl ok w' b n f cnt := by
  obtain ⟨D, h1, h2⟩ := h
  exact ⟨D, h1.kept hg hne, h2⟩
theorem MapV.lt {κ : Type} {K : TypeId} {kl : κ → Lit} {ok : κ → Prop} {w : World} {b n : Nat} {f : κ → Option Value} {cnt : Nat} (h : MapV K kl ok w b n f cnt) : b < w.heap.size := by
  obtain ⟨D, h1, h2⟩ := h
  exact h1.lt
theorem MapV.rest {κ : Type} {K : TypeId} {kl : κ → Lit} {ok : κ → Prop} {w w' : World} {b n : Nat} {f : κ → Option Value} {cnt : Nat} (h : MapV K kl ok w b n f cnt) (hb : Below w.heap.size w w') : MapV K kl ok w' b n f cnt :=
  h.kept (row := none) ⟨hb.os, hb.tape, hb.output, hb.size, fun k hk _ => hb.block k hk⟩ (by simp)
theorem MapV.mono {κ : Type} {K : TypeId} {kl : κ → Lit} {ok : κ → Prop} {w : World} {b n n' : Nat} {f : κ → Option Value} {cnt : Nat} (h : MapV K kl ok w b n f cnt) (hn : n ≤ n') : MapV K kl ok w b n' f cnt := by
  obtain ⟨D, h1, h2⟩ := h
  exact ⟨D, h1.mono hn, h2⟩
theorem MapV.obj {κ : Type} {K : TypeId} {kl : κ → Lit} {ok : κ → Prop} {w : World} {b n : Nat} {f : κ → Option Value} {cnt : Nat} (h : MapV K kl ok w b n f cnt) : ∃ es clock, w.heap[b]? = some (.map es clock) := by
  obtain ⟨D, ⟨es, clock, h1, _⟩, h2⟩ := h
  exact ⟨es, clock, h1⟩
theorem MapV.look {κ : Type} {K : TypeId} {kl : κ → Lit} {ok : κ → Prop} {w : World} {b n : Nat} {f : κ → Option Value} {cnt : Nat} (h : MapV K kl ok w b n f cnt) {T E : TypeId} (KK : Maps.Keyed Try.prog K) (ht : Try.prog.underlying T = some (.map K E)) {z : Value} (hz : ∀ w, (zeroValue E).run Try.prog w = .ok z w)
    (x : κ) (hx : ok x) {key : Value} (hkey : keyOf Try.prog K key = some (kl x)) :
    (Instr.lookup T (.map (some b)) key false).run Try.prog w = .ok ((f x).getD z) w := by
  obtain ⟨D, h1, h2, h3⟩ := h
  obtain ⟨v, ps, hrun, hv⟩ := h1.lookup KK ht (hz w) (zd := .held z) (zp := []) rfl hkey
  rw [hrun]
  obtain ⟨g1, g2⟩ := h3 x hx
  simp only [Option.some.injEq, Prod.mk.injEq] at hv
  cases hf : f x with
  | none =>
    rw [hf] at g1
    rw [Maps.atKey_of_not_has (by simpa using g1)] at hv
    have := hv.1
    injection this with e
    rw [e]; rfl
  | some u =>
    rw [g2 u hf] at hv
    have := hv.1
    injection this with e
    rw [e]; rfl
theorem MapV.lookOk {κ : Type} {K : TypeId} {kl : κ → Lit} {ok : κ → Prop} {w : World} {b n : Nat} {f : κ → Option Value} {cnt : Nat} (h : MapV K kl ok w b n f cnt) {T E : TypeId} (KK : Maps.Keyed Try.prog K) (ht : Try.prog.underlying T = some (.map K E)) {z : Value} (hz : ∀ w, (zeroValue E).run Try.prog w = .ok z w)
    (x : κ) (hx : ok x) {key : Value} (hkey : keyOf Try.prog K key = some (kl x)) :
    (Instr.lookup T (.map (some b)) key true).run Try.prog w = .ok (.tuple #[(f x).getD z, .bool (f x).isSome]) w := by
  obtain ⟨D, h1, h2, h3⟩ := h
  obtain ⟨v, ps, hrun, hv⟩ := h1.look_ok KK ht (hz w) (zd := .held z) (zp := []) rfl hkey
  rw [hrun]
  obtain ⟨g1, g2⟩ := h3 x hx
  simp only [Option.some.injEq, Prod.mk.injEq] at hv
  rw [g1]
  cases hf : f x with
  | none =>
    rw [hf] at g1
    rw [Maps.atKey_of_not_has (by simpa using g1)] at hv
    have := hv.1
    injection this with e
    rw [e]; rfl
  | some u =>
    rw [g2 u hf] at hv
    have := hv.1
    injection this with e
    rw [e]; rfl
theorem MapV.len {κ : Type} {K : TypeId} {kl : κ → Lit} {ok : κ → Prop} {w : World} {b n : Nat} {f : κ → Option Value} {cnt : Nat} (h : MapV K kl ok w b n f cnt) {T E : TypeId} (ht : Try.prog.underlying T = some (.map K E)) (ty : TypeId) :
    (Builtin.len_ #[T] ty #[.map (some b)]).run Try.prog w = .ok (.int .i64 (cnt : Int)) w := by
  obtain ⟨D, h1, h2, h3⟩ := h
  rw [h1.len ht ty, h2]
/-- a store: the map holds the value under its key -/
theorem MapV.put {κ : Type} [DecidableEq κ] {K : TypeId} {kl : κ → Lit} {ok : κ → Prop} (inj : ∀ x y, ok x → ok y → kl x = kl y → x = y) {w : World} {b n : Nat} {f : κ → Option Value} {cnt : Nat} (h : MapV K kl ok w b n f cnt) {T E : TypeId} (KK : Maps.Keyed Try.prog K) (ht : Try.prog.underlying T = some (.map K E)) (hn : n < maxLen)
    (x : κ) (hx : ok x) {key : Value} (hkey : keyOf Try.prog K key = some (kl x)) (v : Value) :
    ∃ w', (Instr.mapUpdate T (.map (some b)) key v).run Try.prog w = .ok () w' ∧ MapV K kl ok w' b (n + 1) (fun y => if y = x then some v else f y) (if (f x).isSome then cnt else cnt + 1) ∧ w.grownBy w' (some b) := by
  obtain ⟨D, h1, h2, h3⟩ := h
  obtain ⟨w', hrun, r1, r2⟩ := h1.update KK ht hn hkey (d := .held v) (ps := []) rfl
  have hisk := KK.key hkey
  refine ⟨w', hrun, ⟨_, r1, ?_, fun y hy => ?_⟩, r2⟩
  · rw [Maps.size_put (h1.tidy KK), (h3 x hx).1, h2]
  · by_cases e : y = x
    · subst e
      simp only [if_true]
      rw [Maps.has_put_same h1.isMap hisk]
      refine ⟨rfl, fun u hu z => ?_⟩
      cases hu
      exact Maps.atKey_put_same h1.isMap hisk _ _
    · have hne : kl y ≠ kl x := fun e' => e (inj y x hy hx e')
      simp only [if_neg e]
      rw [Maps.has_put_other hne]
      refine ⟨(h3 y hy).1, fun u hu z => ?_⟩
      rw [Maps.atKey_put_other hne]
      exact (h3 y hy).2 u hu z
/-- keys that are ints -/
def kI (x : Int) : Lit := .int .i64 x
def okI (x : Int) : Prop := -9223372036854775808 ≤ x ∧ x ≤ 9223372036854775807
theorem kI_inj (x y : Int) (_ : okI x) (_ : okI y) (h : kI x = kI y) : x = y := by injection h
theorem keyI (x : Int) (h : okI x) : keyOf Try.prog 3 (.int .i64 x) = some (kI x) := Maps.keyOf_int_mk Try.underlying3 (WalkArith.wf_i64 h)
theorem keyedI : Maps.Keyed Try.prog 3 := Maps.int_keyed Try.underlying3
end Go.Proofs.Ytggidakiflnhhaa
