import Derived.Test.YthpcipfloofbcaaC
import Derived.Deep.AppendLies
import Derived.Lib.LazyBuf
namespace Go.Proofs.Ythpcipfloofbcaa
open Go.RowKit
set_option maxHeartbeats 400000
set_option maxRecDepth 100000
set_option linter.unusedSimpArgs false
set_option linter.unusedVariables false

/-! rows of the call's own -/
/-- the slice value v is a row of the call's own (in blocks from base on) with the elements xs -/
def Own {α : Type} (enc : α → List Value) (sz : Nat) (e : TypeId) (w : World) (base : Nat) (v : Value) (xs : List α) : Prop := w.ownsRow base e sz v xs.length (xs.flatMap enc)

theorem flat_length {α : Type} {enc : α → List Value} {sz : Nat} (h : ∀ x, (enc x).length = sz) (xs : List α) : (xs.flatMap enc).length = xs.length * sz := by
  induction xs with
  | nil => simp
  | cons x xs ih => rw [List.flatMap_cons, List.length_append, ih, h, List.length_cons, Nat.succ_mul, Nat.add_comm]
theorem flat_get {α : Type} {enc : α → List Value} {sz : Nat} (h : ∀ x, (enc x).length = sz) (xs : List α) (k : Nat) (hk : k < xs.length) (j : Nat) (v : Value) (hj : (enc xs[k])[j]? = some v) : (xs.flatMap enc)[k * sz + j]? = some v := by
  induction xs generalizing k with
  | nil => simp at hk
  | cons x xs ih =>
    rw [List.flatMap_cons]
    cases k with
    | zero => rw [Nat.zero_mul, Nat.zero_add]; rw [List.getElem?_append_left (by have := (List.getElem?_eq_some_iff.1 hj).1; simpa using this)]; exact hj
    | succ k =>
      rw [List.getElem?_append_right (by rw [h, Nat.succ_mul]; omega), h]
      have : (k + 1) * sz + j - sz = k * sz + j := by rw [Nat.succ_mul]; omega
      rw [this]
      exact ih k (by simpa using hk) (by simpa using hj)
theorem flat_at {α : Type} {enc : α → List Value} {sz : Nat} (h : ∀ x, (enc x).length = sz) (xs : List α) (i : Nat) (v : Value) (hi : (xs.flatMap enc)[i]? = some v) : ∃ k j, ∃ hk : k < xs.length, i = k * sz + j ∧ (enc xs[k])[j]? = some v := by
  induction xs generalizing i with
  | nil => simp at hi
  | cons x xs ih =>
    rw [List.flatMap_cons] at hi
    by_cases hlt : i < sz
    · rw [List.getElem?_append_left (by rw [h]; exact hlt)] at hi
      exact ⟨0, i, by simp, by simp, by simpa using hi⟩
    · rw [List.getElem?_append_right (by rw [h]; omega), h] at hi
      obtain ⟨k, j, hk, he, hv⟩ := ih _ hi
      exact ⟨k + 1, j, by simpa using hk, by rw [Nat.succ_mul]; omega, by simpa using hv⟩

theorem Own.rd {α : Type} {enc : α → List Value} {sz : Nat} {e : TypeId} {w : World} {base : Nat} {v : Value} {xs : List α} (hs : ∀ x, (enc x).length = sz) (h : Own enc sz e w base v xs) :
    ∃ A c, v = .slice A xs.length c ∧ Rd enc sz w A xs := by
  have h0 := h
  obtain ⟨hl, h2⟩ := h
  rcases h2 with ⟨rfl, hn⟩ | ⟨g, cap, cur, rfl, hb, hg, hnc, hcm, hcs, ht⟩
  · have : xs = [] := List.eq_nil_of_length_eq_zero hn
    subst this
    exact ⟨none, 0, rfl, Rd.nil _ _ _ _⟩
  · refine ⟨_, _, rfl, ⟨by simp only [maxLen] at hcm; omega, fun k hk => ⟨_, rfl, fun j u hu => ?_⟩⟩⟩
    have hf := flat_get hs xs k hk j u hu
    have := (List.getElem?_eq_some_iff.1 hf).1
    rw [show (⟨g, 0, none⟩ : Addr).add (k * sz + j) = ⟨g, k * sz + j, none⟩ by unfold Addr.add; split <;> simp_all]
    rw [World.ownsRow.cellAt h0 _ (by rw [← hl]; exact this)]
    exact hf

/-- the cells of a row that is read, as append asks for them -/
theorem Rd.news {α : Type} {enc : α → List Value} {sz : Nat} {w : World} {a : Addr} {xs : List α} (hs : ∀ x, (enc x).length = sz) (h : Rd enc sz w (some a) xs) : ∀ j u, (xs.flatMap enc)[j]? = some u → w.cell? (a.add j) = some u := by
  intro j u hu
  obtain ⟨k, i, hk, rfl, hv⟩ := flat_at hs xs j u hu
  obtain ⟨a', ha, hc⟩ := h.cell k hk
  injection ha with ha
  subst ha
  exact hc i u hv

theorem lenI (x : Int) : (encI x).length = 1 := rfl
theorem lenM (m : Mem) : (encM m).length = 3 := rfl
theorem info3 : (Try.prog.info? 3).map (fun i => (i.zero, i.size, i.bytes)) = some (some (.int .i64 0), 1, 8) := by kernel_rfl
theorem info63 : (Try.prog.info? 63).map (fun i => (i.zero, i.size, i.bytes)) = some (some (.agg #[.bool false, .int .i64 0, .int .i64 0]), 3, 24) := by kernel_rfl

theorem Rd.none {α : Type} {enc : α → List Value} {sz : Nat} {w : World} {xs : List α} (h : Rd enc sz w none xs) : xs = [] := by
  cases xs with
  | nil => rfl
  | cons x xs => obtain ⟨a, ha, _⟩ := h.cell 0 (by simp); cases ha

theorem oneI (x : Int) : ∀ u ∈ encI x, u.oneCell' = true := fun u hu => by simp at hu; subst hu; rfl
theorem oneM (x : Mem) : ∀ u ∈ encM x, u.oneCell' = true := fun u hu => by
  simp at hu
  rcases hu with h | h | h <;> (subst h; rfl)

/-- append of a row that is read to a row of the call's own, told of elements -/
theorem wpList_append_typed {α : Type} {P : Program} {enc : α → List Value} {sz : Nat} (hs : ∀ x, (enc x).length = sz) (h1 : ∀ x, ∀ u ∈ enc x, u.oneCell' = true)
    (w : World) {ops : Array Oper} {rest : List Oper} {o : Oper} {a : Act} {Q : Exit → Act → World → Prop} (hgd : o.guard = none) (s x : Operand) (t : TypeId)
    (ho : o.op = .call { callee := .builtin .append, args := #[s, x], argTypes := #[t, t] })
    (base : Nat) (e : TypeId) (z : Value) (bytes : Nat) (ht : P.underlying t = some (.slice e)) (hinfo : (P.info? e).map (fun i => (i.zero, i.size, i.bytes)) = some (some z, sz, bytes))
    (hzs : z.cells.size = sz) (hsz : 0 < sz) (hb0 : 0 < bytes)
    (v : Value) (xs : List α) (hv : a.eval s = v) (hown : Own enc sz e w base v xs)
    (ad : Addr) (m c : Nat) (ys : List α) (hx : a.eval x = .slice (some ad) m c) (hm : ys.length = m) (hr : Rd enc sz w (some ad) ys)
    (hbytes : (xs.length + m) * bytes ≤ 140737488355328) (hbase : base ≤ w.heap.size)
    (h : ∀ v' w', Own enc sz e w' base v' (xs ++ ys) → w.grownBy w' v.ownBlock → wpList P ops Q rest (a.put o.dst v') w') : wpList P ops Q (o :: rest) a w := by
  subst hm
  obtain ⟨i0, hi, hz0, hz1, hz2⟩ := info_parts hinfo
  refine wpList_append_own w hgd s x t ho base e i0 z sz bytes ht hi hz0 hz1 hz2 hzs hsz v xs.length (xs.flatMap enc) hv hown ad ys.length c (ys.flatMap enc) hx (flat_length hs ys) (hr.news hs)
    (fun u hu => by obtain ⟨y, _, hy⟩ := List.mem_flatMap.1 hu; exact h1 y u hy) ?_ hbytes hbase ?_
  · have : xs.length + ys.length ≤ (xs.length + ys.length) * bytes := Nat.le_mul_of_pos_right _ hb0
    simp only [maxLen]
    omega
  · intro v' w' hown' hg _
    refine h v' w' ?_ hg
    unfold Own
    rw [List.length_append, List.flatMap_append]
    exact hown'

theorem Own.empty {α : Type} (enc : α → List Value) (sz : Nat) (e : TypeId) (w : World) (base : Nat) (hb : base ≤ w.heap.size) : Own enc sz e (w.alloc (.cells #[] e)) base (.slice (some ⟨w.heap.size, 0, none⟩) 0 0) [] :=
  World.ownsRow_lit w #[] 0 hb (Nat.zero_le _) (by simp)

/-- slices.Clone -/
def ClonePost {α : Type} (enc : α → List Value) (sz : Nat) (t : TypeId) (xs : List α) (w : World) (e : Ending) (w' : World) : Prop := ∃ v, e = .returned v ∧ Own enc sz t w' w.heap.size v xs ∧ Below w.heap.size w w'

theorem cloneI_calls (A : Option Addr) (xs : List Int) (c : Nat) (w : World) (hx : Rd encI 1 w A xs) (hb : xs.length ≤ 1000000) :
    Calls Try.prog 27 #[.slice A xs.length c] w (ClonePost encI 1 3 xs w) := by
  cases A with
  | none =>
    obtain rfl := hx.none
    have heq := fun (w : World) => Lib.run_eql_slice_nil (P := Try.prog) w 23 3 none 0 c 0 0 Try.underlying23
    clear hx
    go_enter Try.func27, Try.ntmps27
    go_wp2
    go_ret
    exact ⟨_, rfl, World.ownsRow_nil _ _ _ _, Below.refl _ _⟩
  | some a =>
    have heq := fun (w : World) => Lib.run_eql_slice_nil (P := Try.prog) w 23 3 (some a) xs.length c 0 0 Try.underlying23
    have hb0 : Below w.heap.size w (w.alloc (.cells #[] 3)) := (Below.refl _ _).alloc (Nat.le_refl _) _
    have HX := Lib.hid (And.intro hx hb0)
    have HB := Lib.hid hb
    clear hx hb0 hb
    go_enter Try.func27, Try.ntmps27
    go_wp2_with (at_builtin; refine wpList_append_typed lenI oneI _ rfl (.tmp 5) (.tmp 6) 23 rfl w.heap.size 3 (.int .i64 0) 8 Try.underlying23 info3 rfl (by decide) (by decide) _ [] rfl (Own.empty _ _ _ _ _ (Nat.le_refl _)) a xs.length c xs rfl rfl (HX.out.1.below HX.out.2) (by have := HB.out; simp; omega) (by simp) ?_; intro v' w1 hown hgrow)
    rw [List.nil_append] at hown
    have HO := Lib.hid (And.intro hown hgrow)
    clear hown hgrow
    go_wp2
    go_ret
    exact ⟨_, rfl, HO.out.1, HX.out.2.grown HO.out.2 (by simp) (fun k hk => Nat.le_of_eq (Option.some.inj hk))⟩
theorem cloneM_calls (A : Option Addr) (xs : List Mem) (c : Nat) (w : World) (hx : Rd encM 3 w A xs) (hb : xs.length ≤ 1000000) :
    Calls Try.prog 26 #[.slice A xs.length c] w (ClonePost encM 3 63 xs w) := by
  cases A with
  | none =>
    obtain rfl := hx.none
    have heq := fun (w : World) => Lib.run_eql_slice_nil (P := Try.prog) w 22 63 none 0 c 0 0 Try.underlying22
    clear hx
    go_enter Try.func26, Try.ntmps26
    go_wp2
    go_ret
    exact ⟨_, rfl, World.ownsRow_nil _ _ _ _, Below.refl _ _⟩
  | some a =>
    have heq := fun (w : World) => Lib.run_eql_slice_nil (P := Try.prog) w 22 63 (some a) xs.length c 0 0 Try.underlying22
    have hb0 : Below w.heap.size w (w.alloc (.cells #[] 63)) := (Below.refl _ _).alloc (Nat.le_refl _) _
    have HX := Lib.hid (And.intro hx hb0)
    have HB := Lib.hid hb
    clear hx hb0 hb
    go_enter Try.func26, Try.ntmps26
    go_wp2_with (at_builtin; refine wpList_append_typed lenM oneM _ rfl (.tmp 5) (.tmp 6) 22 rfl w.heap.size 63 (.agg #[.bool false, .int .i64 0, .int .i64 0]) 24 Try.underlying22 info63 rfl (by decide) (by decide) _ [] rfl (Own.empty _ _ _ _ _ (Nat.le_refl _)) a xs.length c xs rfl rfl (HX.out.1.below HX.out.2) (by have := HB.out; simp; omega) (by simp) ?_; intro v' w1 hown hgrow)
    rw [List.nil_append] at hown
    have HO := Lib.hid (And.intro hown hgrow)
    clear hown hgrow
    go_wp2
    go_ret
    exact ⟨_, rfl, HO.out.1, HX.out.2.grown HO.out.2 (by simp) (fun k hk => Nat.le_of_eq (Option.some.inj hk))⟩
end Go.Proofs.Ythpcipfloofbcaa
