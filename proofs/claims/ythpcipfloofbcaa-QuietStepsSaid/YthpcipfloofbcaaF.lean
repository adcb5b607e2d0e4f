import Derived.Test.YthpcipfloofbcaaE
namespace Go.Proofs.Ythpcipfloofbcaa
open Go.RowKit
set_option maxHeartbeats 1000000
set_option maxRecDepth 100000
set_option linter.unusedSimpArgs false
set_option linter.unusedVariables false

/-- how a move is left -/
def leftBy (c : Int) : List PanicEntry := [{ v := .iface 71 (.agg #[.int .i64 c]), recovered := false }]

theorem need_ok (c : Int) (w : World) : Calls Try.prog 45 #[.bool true, .int .i64 c] w fun e w' => e = .returned (.tuple #[]) ∧ w = w' := by
  go_enter Try.func45, Try.ntmps45
  go_wp2
  go_end0
  exact ⟨rfl, rfl⟩
theorem need_no (c : Int) (w : World) : Calls Try.prog 45 #[.bool false, .int .i64 c] w fun e w' => e = .panicked (leftBy c) ∧ w = w' := by
  go_enter Try.func45, Try.ntmps45
  go_wp2
  exact ⟨rfl, rfl, rfl⟩

theorem member_ok (bo : Nat) (a : Int) (g n c : Nat) (w : World) (hc : w.cell? ⟨bo, 0, none⟩ = some (.slice (some ⟨g, 0, none⟩) n c)) (h0 : 0 ≤ a) (h1 : a < n) :
    Calls Try.prog 44 #[.pointer (some ⟨bo, 0, none⟩), .int .i64 a] w fun e w' => e = .returned (.pointer (some ⟨g, a.toNat * 3, none⟩)) ∧ w = w' := by
  have hn := need_ok 4
  have HN := Lib.hid hn
  clear hn
  go_enter Try.func44, Try.ntmps44
  go_wp2_with (go_at_call 45; (with_reducible refine (HN.out _).mono ?_); rintro e w' ⟨rfl, rfl⟩)
  go_ret
  exact ⟨by simp [Addr.add], rfl⟩
theorem member_no (bo : Nat) (a : Int) (A : Option Addr) (n c : Nat) (w : World) (hc : w.cell? ⟨bo, 0, none⟩ = some (.slice A n c)) (h : ¬ (0 ≤ a ∧ a < n)) :
    Calls Try.prog 44 #[.pointer (some ⟨bo, 0, none⟩), .int .i64 a] w fun e w' => e = .panicked (leftBy 4) ∧ w = w' := by
  have hn := need_no 4
  have HN := Lib.hid hn
  clear hn
  by_cases h0 : 0 ≤ a
  · have h1 : ¬ a < (n : Int) := fun h1 => h ⟨h0, h1⟩
    clear h
    go_enter Try.func44, Try.ntmps44
    go_wp2_with (go_at_call 45; (with_reducible refine (HN.out _).mono ?_); rintro e w' ⟨rfl, rfl⟩)
    exact ⟨rfl, rfl, rfl⟩
  · clear h
    go_enter Try.func44, Try.ntmps44
    go_wp2_with (go_at_call 45; (with_reducible refine (HN.out _).mono ?_); rintro e w' ⟨rfl, rfl⟩)
    exact ⟨rfl, rfl, rfl⟩

/-! a state that is changed in place -/
theorem flat_set {α : Type} {enc : α → List Value} {sz : Nat} (hs : ∀ x, (enc x).length = sz) (xs : List α) (i : Nat) (hi : i < xs.length) (j : Nat) (hj : j < sz) (v : Value) (y : α) (hy : (enc xs[i]).set j v = enc y) :
    (xs.flatMap enc).set (i * sz + j) v = (xs.set i y).flatMap enc := by
  induction xs generalizing i with
  | nil => simp at hi
  | cons x xs ih =>
    cases i with
    | zero =>
      simp only [Nat.zero_mul, Nat.zero_add, List.set_cons_zero, List.flatMap_cons]
      rw [List.set_append_left _ _ (by rw [hs]; exact hj)]
      simp at hy
      rw [hy]
    | succ i =>
      simp only [List.set_cons_succ, List.flatMap_cons]
      rw [List.set_append_right _ _ (by rw [hs, Nat.succ_mul]; omega), hs, show (i + 1) * sz + j - sz = i * sz + j by rw [Nat.succ_mul]; omega]
      rw [ih i (by simpa using hi) (by simpa using hy)]

theorem Own.set {α : Type} {enc : α → List Value} {sz : Nat} {e : TypeId} {w : World} {base g n c : Nat} {xs : List α} (hs : ∀ x, (enc x).length = sz) (h : Own enc sz e w base (.slice (some ⟨g, 0, none⟩) n c) xs) (hn : xs.length = n)
    (i : Nat) (hi : i < xs.length) (j : Nat) (hj : j < sz) (v : Value) (y : α) (hy : (enc xs[i]).set j v = enc y) :
    Own enc sz e (w.setCell ⟨g, i * sz + j, none⟩ v) base (.slice (some ⟨g, 0, none⟩) n c) (xs.set i y) ∧ w.grownBy (w.setCell ⟨g, i * sz + j, none⟩ v) (some g) := by
  subst hn
  have := World.ownsRow.stored h (i * sz + j) v
  refine ⟨?_, this.2⟩
  unfold Own
  rw [List.length_set, ← flat_set hs xs i hi j hj v y hy]
  exact this.1
theorem Own.cell {α : Type} {enc : α → List Value} {sz : Nat} {e : TypeId} {w : World} {base g n c : Nat} {xs : List α} (hs : ∀ x, (enc x).length = sz) (h : Own enc sz e w base (.slice (some ⟨g, 0, none⟩) n c) xs) (hn : xs.length = n)
    (i : Nat) (hi : i < xs.length) (j : Nat) (v : Value) (hv : (enc xs[i])[j]? = some v) : w.cell? ⟨g, i * sz + j, none⟩ = some v ∧ w.frozen? ⟨g, i * sz + j, none⟩ = false := by
  subst hn
  have hf := flat_get hs xs i hi j v hv
  have hlt := (List.getElem?_eq_some_iff.1 hf).1
  exact ⟨by rw [World.ownsRow.cellAt h _ (by rw [← h.1]; exact hlt)]; exact hf, World.ownsRow.frozenAt h _⟩
theorem Own.grown {α : Type} {enc : α → List Value} {sz : Nat} {e : TypeId} {w w' : World} {base : Nat} {v : Value} {xs : List α} (h : Own enc sz e w base v xs) {row : Option Nat} (hg : w.grownBy w' row) (hne : v.ownBlock = none ∨ v.ownBlock ≠ row) : Own enc sz e w' base v xs := World.ownsRow.kept h hg hne
theorem Own.blk {α : Type} {enc : α → List Value} {sz : Nat} {e : TypeId} {w : World} {base : Nat} {v : Value} {xs : List α} (h : Own enc sz e w base v xs) (k : Nat) (hk : v.ownBlock = some k) : base ≤ k ∧ k < w.heap.size ∧ ∃ cur, w.heap[k]? = some (.cells cur e (0, 0)) := by
  have h1 := World.ownsRow.lt h k hk
  refine ⟨h1.1, h1.2, ?_⟩
  rcases h.2 with ⟨rfl, _⟩ | ⟨g, cap, cur, rfl, hb, hg, _⟩
  · simp [Value.ownBlock] at hk
  · have : g = k := by simpa [Value.ownBlock] using hk
    subst this
    exact ⟨cur, hg⟩

/-- nothing turns below base but block bo -/
structure Kp (base bo : Nat) (w w' : World) : Prop where
  os : w'.os = w.os
  tape : w'.tape = w.tape
  output : w'.output = w.output
  size : w.heap.size ≤ w'.heap.size
  block : ∀ k, k < base → k ≠ bo → w'.heap[k]? = w.heap[k]?
theorem Kp.refl (base bo : Nat) (w : World) : Kp base bo w w := ⟨rfl, rfl, rfl, Nat.le_refl _, fun _ _ _ => rfl⟩
theorem Kp.trans {base bo : Nat} {a b c : World} (h : Kp base bo a b) (k : Kp base bo b c) : Kp base bo a c :=
  ⟨k.os.trans h.os, k.tape.trans h.tape, k.output.trans h.output, Nat.le_trans h.size k.size, fun i hi hn => (k.block i hi hn).trans (h.block i hi hn)⟩
theorem Kp.of {base bo : Nat} {a b : World} (h : Below base a b) : Kp base bo a b := ⟨h.os, h.tape, h.output, h.size, fun k hk _ => h.block k hk⟩
theorem Kp.drew {base bo : Nat} {a w : World} (h : Kp base bo a w) : Kp base bo a w.drew := ⟨h.os, h.tape, h.output, h.size, h.block⟩
theorem Kp.alloc {base bo : Nat} {a w : World} (h : Kp base bo a w) (hB : base ≤ w.heap.size) (o : Obj) : Kp base bo a (w.alloc o) := h.trans (Kp.of ((Below.refl base w).alloc hB o))
theorem Kp.setCell {base bo : Nat} {a w : World} (h : Kp base bo a w) {p : Addr} (hp : base ≤ p.block ∨ p.block = bo) (u : Value) : Kp base bo a (w.setCell p u) :=
  h.trans ⟨rfl, rfl, rfl, by simp [World.setCell], fun k hk hn => Below.heap_setCell _ _ _ _ (by omega)⟩
theorem Kp.grown {base bo : Nat} {a b c : World} (h : Kp base bo a b) {row : Option Nat} (hg : b.grownBy c row) (hsz : base ≤ b.heap.size) (hr : ∀ k, row = some k → base ≤ k ∨ k = bo) : Kp base bo a c :=
  h.trans ⟨hg.os, hg.tape, hg.output, hg.size, fun k hk hn => hg.block k (by omega) (fun e => by have := hr k e.symm; omega)⟩

/-- the cells of a state whose rows are Mv and Fv -/
abbrev cellsS (s : St) (Mv Fv : Value) : Array Value := #[Mv, Fv, .int .i64 s.wn, .int .i64 s.ws, .int .i64 s.wr, .int .i64 s.ls, .int .i64 s.lr, .int .i64 s.wv, .bool s.told]
structure MS (w : World) (base bo : Nat) (s : St) (g c : Nat) (Fv : Value) : Prop where
  blk : w.heap[bo]? = some (.cells (cellsS s (.slice (some ⟨g, 0, none⟩) s.ms.length c) Fv) 27 (0, 0))
  hb : base ≤ bo ∨ bo = bo
  hsz : base ≤ w.heap.size
  om : Own encM 3 63 w base (.slice (some ⟨g, 0, none⟩) s.ms.length c) s.ms
  of : Own encI 1 3 w base Fv s.fl

theorem MS.neg {w : World} {base bo : Nat} {s : St} {g c : Nat} {Fv : Value} (h : MS w base bo s g c Fv) : g ≠ bo ∧ Fv.ownBlock ≠ some bo ∧ Fv.ownBlock ≠ some g := by
  obtain ⟨_, _, cur, hg⟩ := h.om.blk g rfl
  refine ⟨?_, ?_, ?_⟩
  · rintro rfl
    have := h.blk; rw [hg] at this; simp at this
  · intro hk
    obtain ⟨_, _, cur2, hg2⟩ := h.of.blk bo hk
    have := h.blk; rw [hg2] at this; simp at this
  · intro hk
    obtain ⟨_, _, cur2, hg2⟩ := h.of.blk g hk
    rw [hg] at hg2; simp at hg2
/-- what was not there is new, or another block was written -/
theorem MS.grown {w w' : World} {base bo : Nat} {s : St} {g c : Nat} {Fv : Value} (h : MS w base bo s g c Fv) {row : Option Nat} (hg : w.grownBy w' row) (h1 : row ≠ some bo) (h2 : row ≠ some g) (h3 : Fv.ownBlock = none ∨ Fv.ownBlock ≠ row) : MS w' base bo s g c Fv :=
  ⟨(hg.block bo (Array.getElem?_eq_some_iff.1 h.blk).1 (fun e => h1 e.symm)).trans h.blk, h.hb, Nat.le_trans h.hsz hg.size, h.om.grown hg (.inr (by simp [Value.ownBlock]; exact fun e => h2 e.symm)), h.of.grown hg h3⟩
theorem MS.alloc {w : World} {base bo : Nat} {s : St} {g c : Nat} {Fv : Value} (h : MS w base bo s g c Fv) (o : Obj) : MS (w.alloc o) base bo s g c Fv :=
  h.grown (World.grownBy_alloc w o none) (by simp) (by simp) (by cases Fv.ownBlock <;> simp)

theorem MS.setM {w : World} {base bo : Nat} {s : St} {g c : Nat} {Fv : Value} (h : MS w base bo s g c Fv) (i : Nat) (hi : i < s.ms.length) (j : Nat) (hj : j < 3) (v : Value) (y : Mem) (hy : (encM s.ms[i]).set j v = encM y) :
    MS (w.setCell ⟨g, i * 3 + j, none⟩ v) base bo { s with ms := s.ms.set i y } g c Fv ∧ Kp base bo w (w.setCell ⟨g, i * 3 + j, none⟩ v) := by
  obtain ⟨h1, h2⟩ := h.om.set lenM rfl i hi j hj v y hy
  obtain ⟨n1, n2, n3⟩ := h.neg
  refine ⟨⟨?_, h.hb, Nat.le_trans h.hsz h2.size, ?_, h.of.grown h2 (.inr n3)⟩, (Kp.refl _ _ _).setCell (p := ⟨g, i * 3 + j, none⟩) (.inl (h.om.blk g rfl).1) _⟩
  · rw [(h2.block bo (Array.getElem?_eq_some_iff.1 h.blk).1 (by simp; exact fun e => n1 e.symm)), h.blk]
    simp [cellsS]
  · simp only [List.length_set]; exact h1
/-- the member with a number -/
def St.at (s : St) (a : Int) : Option Mem := if 0 ≤ a then s.ms[a.toNat]? else none
def St.put (s : St) (a : Int) (m : Mem) : St := { s with ms := s.ms.set a.toNat m }
theorem St.at_some {s : St} {a : Int} {m : Mem} (h : s.at a = some m) : 0 ≤ a ∧ a < s.ms.length ∧ ∃ hi : a.toNat < s.ms.length, s.ms[a.toNat] = m := by
  unfold St.at at h
  split at h
  · obtain ⟨hi, hm⟩ := List.getElem?_eq_some_iff.1 h
    exact ⟨by assumption, by omega, hi, hm⟩
  · simp at h
theorem St.at_none {s : St} {a : Int} (h : s.at a = none) : ¬ (0 ≤ a ∧ a < s.ms.length) := by
  unfold St.at at h
  split at h
  · rw [List.getElem?_eq_none_iff] at h
    omega
  · omega

structure Mov where
  k : Int
  a : Int
  b : Int

def idleF (s : St) (m : Mov) : Except Int St := match s.at m.a with
  | none => .error 4
  | some x => if x.act then .ok (s.put m.a { x with act := false }) else .error 11

/-- what a move leaves -/
def MPost (base bo : Nat) (w : World) (r : Except Int St) (e : Ending) (w' : World) : Prop := Kp base bo w w' ∧ match r with
  | .ok s' => e = .returned (.tuple #[]) ∧ ∃ g c Fv, MS w' base bo s' g c Fv
  | .error k => e = .panicked (leftBy k) ∧ ∃ s' g c Fv, MS w' base bo s' g c Fv

theorem idle_calls (base bo : Nat) (s : St) (g c : Nat) (Fv : Value) (m : Mov) (w : World) (h : MS w base bo s g c Fv) :
    Calls Try.prog 31 #[.pointer (some ⟨bo, 0, none⟩), .agg #[.int .i64 m.k, .int .i64 m.a, .int .i64 m.b]] w (MPost base bo w (idleF s m)) := by
  have h1 := h.alloc (.cells #[.int .i64 m.k, .int .i64 m.a, .int .i64 m.b] 34)
  have hb1 : Kp base bo w (w.alloc (.cells #[.int .i64 m.k, .int .i64 m.a, .int .i64 m.b] 34)) := (Kp.refl _ _ _).alloc h.hsz _
  have hc := cell_of_row _ bo 0 _ _ _ h1.blk
  simp at hc
  have H1 := Lib.hid (And.intro h1 hb1)
  clear h h1 hb1
  cases ha : s.at m.a with
  | none =>
    have hi : idleF s m = .error 4 := by simp [idleF, ha]
    rw [hi]
    have hm := member_no bo m.a _ _ _ _ hc (St.at_none ha)
    have HM := Lib.hid hm
    clear hm hi ha hc
    go_enter Try.func31, Try.ntmps31
    go_wp2_with (go_at_call 44; (with_reducible refine (HM.out).mono ?_); rintro e w' ⟨rfl, rfl⟩)
    exact ⟨rfl, H1.out.2, rfl, _, _, _, _, H1.out.1⟩
  | some x =>
    obtain ⟨h0, hlt, hi, hx⟩ := St.at_some ha
    have hm := member_ok bo m.a g _ _ _ hc h0 hlt
    have HM := Lib.hid hm
    obtain ⟨hca, hfa⟩ := H1.out.1.om.cell lenM rfl m.a.toNat hi 0 (.bool x.act) (by rw [hx]; rfl)
    have hset := H1.out.1.om.set lenM rfl m.a.toNat hi 0 (by omega) (.bool false) { x with act := false } (by rw [hx]; rfl)
    simp only [Nat.add_zero] at hca hfa hset
    have HS := Lib.hid hset
    clear hm hc hset
    cases hact : x.act with
    | false =>
      have hi : idleF s m = .error 11 := by simp [idleF, ha, hact]
      rw [hi]
      rw [hact] at hca
      have hn := need_no 11
      have HN := Lib.hid hn
      clear hn hi ha hact
      go_enter Try.func31, Try.ntmps31
      go_wp2_with (first | (go_at_call 44; (with_reducible refine (HM.out).mono ?_); rintro e w' ⟨rfl, rfl⟩) | (go_at_call 45; (with_reducible refine (HN.out _).mono ?_); rintro e w' ⟨rfl, rfl⟩))
      exact ⟨rfl, H1.out.2, rfl, _, _, _, _, H1.out.1⟩
    | true =>
      have hi : idleF s m = .ok (s.put m.a { x with act := false }) := by simp [idleF, ha, hact]
      rw [hi]
      rw [hact] at hca
      have hn := need_ok 11
      have HN := Lib.hid hn
      clear hn hi ha hact
      go_enter Try.func31, Try.ntmps31
      go_wp2_with (first | (go_at_call 44; (with_reducible refine (HM.out).mono ?_); rintro e w' ⟨rfl, rfl⟩) | (go_at_call 45; (with_reducible refine (HN.out _).mono ?_); rintro e w' ⟨rfl, rfl⟩))
      go_end0
      obtain ⟨q1, q2⟩ := H1.out.1.setM m.a.toNat hi 0 (by omega) (.bool false) { x with act := false } (by rw [hx]; rfl)
      exact ⟨H1.out.2.trans q2, rfl, _, _, _, q1⟩
end Go.Proofs.Ythpcipfloofbcaa
