import Derived.Test.YtggidakiflnhhaaC
import Derived.Deep.RegionLaw
import Derived.Lib.SliceRun
namespace Go.Proofs.Ytggidakiflnhhaa
open Go.RowKit
set_option maxHeartbeats 4000000
set_option maxRecDepth 100000
set_option linter.unusedSimpArgs false
set_option linter.unusedVariables false

/-! ### rows of pointers -/
abbrev ptr (b : Nat) : Value := .pointer (some ⟨b, 0, none⟩)
abbrev encQ (b : Nat) : List Value := [ptr b]
theorem lenQ (x : Nat) : (encQ x).length = 1 := rfl
theorem oneQ (x : Nat) : ∀ u ∈ encQ x, u.oneCell' = true := fun u hu => by simp at hu; subst hu; rfl
theorem info100 : (Try.prog.info? 100).map (fun i => (i.zero, i.size, i.bytes)) = some (some (.pointer none), 1, 8) := by kernel_rfl
theorem grownBy_of_drew {a b : World} {row : Option Nat} (h : a.drew.grownBy b row) : a.grownBy b row := ⟨h.os, h.tape, h.output, h.size, h.block⟩
theorem grownBy_trans {a b c : World} {k : Nat} (h : a.grownBy b (some k)) (h' : b.grownBy c (some k)) : a.grownBy c (some k) :=
  ⟨h'.os.trans h.os, h'.tape.trans h.tape, h'.output.trans h.output, Nat.le_trans h.size h'.size, fun i hi hne => (h'.block i (Nat.lt_of_lt_of_le hi h.size) hne).trans (h.block i hi hne)⟩
theorem grownBy_below {a b c : World} {k : Option Nat} (h : a.grownBy b k) (h' : Below b.heap.size b c) : a.grownBy c k :=
  ⟨h'.os.trans h.os, h'.tape.trans h.tape, h'.output.trans h.output, Nat.le_trans h.size h'.size, fun i hi hne => (h'.block i (Nat.lt_of_lt_of_le hi h.size)).trans (h.block i hi hne)⟩
theorem grownBy_refl (a : World) (k : Option Nat) : a.grownBy a k := ⟨rfl, rfl, rfl, Nat.le_refl _, fun _ _ _ => rfl⟩
theorem below_grownBy {a b : World} (h : Below a.heap.size a b) (k : Option Nat) : a.grownBy b k := ⟨h.os, h.tape, h.output, h.size, fun i hi _ => h.block i hi⟩
theorem grownBy_set (w : World) (g j : Nat) (v : Value) : w.grownBy (w.setCell ⟨g, j, none⟩ v) (some g) :=
  ⟨rfl, rfl, rfl, by simp [World.setCell], fun k _ hk => heap_setCell_other _ _ _ _ (fun e => hk (by rw [e]))⟩
/-- a shorter row at the head of a row -/
theorem ownsRow_take {w : World} {base : Nat} {e : TypeId} {size : Nat} {g n cap : Nat} {xs : List Value} (h : w.ownsRow base e size (.slice (some ⟨g, 0, none⟩) n cap) n xs) (i : Nat) (hi : i ≤ n) :
    w.ownsRow base e size (.slice (some ⟨g, 0, none⟩) i cap) i (xs.take (i * size)) := by
  have hle : i * size ≤ n * size := Nat.mul_le_mul_right _ hi
  refine ⟨by rw [List.length_take, h.1]; exact Nat.min_eq_left hle, .inr ?_⟩
  rcases h.2 with ⟨h', _⟩ | ⟨g', cap', cur, h', hb, hg, hnc, hcm, hcs, ht⟩
  · simp at h'
  · simp only [Value.slice.injEq, Option.some.injEq, Addr.mk.injEq, and_true, true_and] at h'
    obtain ⟨rfl, rfl⟩ := h'
    refine ⟨g, cap, cur, rfl, hb, hg, by omega, hcm, hcs, ?_⟩
    rw [← ht, List.take_take, Nat.min_eq_left hle]
theorem take_flat {α : Type} {enc : α → List Value} {sz : Nat} (hs : ∀ x, (enc x).length = sz) (xs : List α) (i : Nat) : (xs.flatMap enc).take (i * sz) = (xs.take i).flatMap enc := by
  induction xs generalizing i with
  | nil => simp
  | cons x xs ih =>
    cases i with
    | zero => simp
    | succ i =>
      rw [List.take_succ_cons, List.flatMap_cons, List.flatMap_cons, ← ih, List.take_append, List.take_of_length_le (by rw [hs, Nat.succ_mul]; omega), hs, Nat.succ_mul, Nat.add_sub_cancel]
theorem Own.take {α : Type} {enc : α → List Value} {sz : Nat} {e : TypeId} {w : World} {base g n c : Nat} {xs : List α} (hs : ∀ x, (enc x).length = sz) (h : Own enc sz e w base (.slice (some ⟨g, 0, none⟩) n c) xs) (hn : xs.length = n) (i : Nat) (hi : i ≤ n) :
    Own enc sz e w base (.slice (some ⟨g, 0, none⟩) i c) (xs.take i) := by
  subst hn
  have := ownsRow_take h i hi
  rw [take_flat hs] at this
  unfold Own
  rw [List.length_take, Nat.min_eq_left hi]
  exact this
/-- a store behind the last element -/
theorem ownsRow_beyond {w : World} {base : Nat} {e : TypeId} {size : Nat} {g n cap : Nat} {xs : List Value} (h : w.ownsRow base e size (.slice (some ⟨g, 0, none⟩) n cap) n xs) (j : Nat) (hj : n * size ≤ j) (u : Value) :
    (w.setCell ⟨g, j, none⟩ u).ownsRow base e size (.slice (some ⟨g, 0, none⟩) n cap) n xs ∧ w.grownBy (w.setCell ⟨g, j, none⟩ u) (some g) := by
  rcases h.2 with ⟨h', _⟩ | ⟨g', cap', cur, h', hb, hg, hnc, hcm, hcs, htake⟩
  · simp at h'
  · simp only [Value.slice.injEq, Option.some.injEq, Addr.mk.injEq, and_true, true_and] at h'
    obtain ⟨rfl, rfl⟩ := h'
    refine ⟨⟨h.1, .inr ⟨g, cap, cur.setIfInBounds j u, rfl, hb, heap_setCell_same w g j cur e u hg, hnc, hcm, by simpa using hcs, ?_⟩⟩,
      ⟨rfl, rfl, rfl, by simp, fun k _ hk => heap_setCell_other w ⟨g, j, none⟩ k u (fun e => hk (by simp [e]))⟩⟩
    rw [Array.toList_setIfInBounds, ← htake, List.take_set_of_le hj]
theorem ownsRow_beyonds {w : World} {base : Nat} {e : TypeId} {size : Nat} {g n cap : Nat} {xs : List Value} (us : List Value) (j : Nat) (hj : n * size ≤ j) (h : w.ownsRow base e size (.slice (some ⟨g, 0, none⟩) n cap) n xs) :
    (w.setCells g j us).ownsRow base e size (.slice (some ⟨g, 0, none⟩) n cap) n xs ∧ w.grownBy (w.setCells g j us) (some g) := by
  induction us generalizing w j with
  | nil => exact ⟨h, grownBy_refl _ _⟩
  | cons u us ih =>
    have h1 := ownsRow_beyond h j hj u
    have h2 := ih (w := w.setCell ⟨g, j, none⟩ u) (j + 1) (by omega) h1.1
    exact ⟨h2.1, grownBy_trans h1.2 h2.2⟩
theorem ownsRow_spare {w : World} {base : Nat} {e : TypeId} {g n cap : Nat} {xs : List Value} (h : w.ownsRow base e 1 (.slice (some ⟨g, 0, none⟩) n cap) n xs) (j : Nat) (hj : j < cap) : (w.cell? ⟨g, j, none⟩).isSome = true ∧ w.frozen? ⟨g, j, none⟩ = false := by
  refine ⟨?_, h.frozenAt j⟩
  rcases h.2 with ⟨h', _⟩ | ⟨g', cap', cur, h', hb, hg, hnc, hcm, hcs, htake⟩
  · simp at h'
  · simp only [Value.slice.injEq, Option.some.injEq, Addr.mk.injEq, and_true, true_and] at h'
    obtain ⟨rfl, rfl⟩ := h'
    rw [cell_of_row w g j cur e (0, 0) hg]
    simp
    omega
theorem Own.cap {α : Type} {enc : α → List Value} {sz : Nat} {e : TypeId} {w : World} {base g n c : Nat} {xs : List α} (h : Own enc sz e w base (.slice (some ⟨g, 0, none⟩) n c) xs) (hn : xs.length = n) : n ≤ c := by
  subst hn
  rcases h.2 with ⟨h', _⟩ | ⟨g', cap', cur, h', hb, hg, hnc, hcm, hcs, ht⟩
  · simp at h'
  · simp only [Value.slice.injEq, Option.some.injEq, Addr.mk.injEq, and_true, true_and] at h'; omega
theorem flatQ (xs : List Nat) : xs.flatMap encQ = xs.map ptr := by
  induction xs with
  | nil => rfl
  | cons x xs ih => rw [List.flatMap_cons, ih]; rfl
theorem Own.qcell {w : World} {base g n c : Nat} {xs : List Nat} (h : Own encQ 1 100 w base (.slice (some ⟨g, 0, none⟩) n c) xs) (hn : xs.length = n) (i : Nat) (hi : i < xs.length) : w.cell? ⟨g, i, none⟩ = some (ptr xs[i]) ∧ w.frozen? ⟨g, i, none⟩ = false := by
  have := h.cell lenQ hn i hi 0 _ rfl
  simpa using this
theorem Own.qset {w : World} {base g n c : Nat} {xs : List Nat} (h : Own encQ 1 100 w base (.slice (some ⟨g, 0, none⟩) n c) xs) (hn : xs.length = n) (i : Nat) (hi : i < xs.length) (y : Nat) : Own encQ 1 100 (w.setCell ⟨g, i, none⟩ (ptr y)) base (.slice (some ⟨g, 0, none⟩) n c) (xs.set i y) := by
  have := h.set lenQ hn i hi 0 (by decide) (ptr y) y rfl
  simpa using this.1

/-- IndexFunc by a closure -/
theorem indexQ_calls (p : Nat → Bool) (fid : Nat) (cap : Array Value) (xs : List Nat) (A : Option Addr) (c : Nat) (w : World) (hx : Rd encQ 1 w A xs)
    (hf : ∀ (args : Array Value) (w : World), (callFunc fid args).run Try.prog w = .ok (.enter fid args) w)
    (hp : ∀ k (h : k < xs.length) w1, Below w.heap.size w w1 → Calls Try.prog fid (#[ptr xs[k]] ++ cap) w1 fun e w' => e = .returned (.bool (p xs[k])) ∧ Below w1.heap.size w1 w') :
    Calls Try.prog 63 #[.slice A xs.length c, .func (.func fid) #[] cap] w fun e w' => e = .returned (.int .i64 (idxF p xs)) ∧ Below w.heap.size w w' := by
  have hl := hx.small
  have HX := Lib.hid hx
  have HP := Lib.hid hp
  clear hx hp
  go_enter Try.func63, Try.ntmps63
  go_wp2_with fail
  go_loopg [4, 5, 8, 9, 10, 11, 12, 13, 14, 15, 16, 17, 18] xs.length (fun gk v4 v5 v8 v9 v10 v11 v12 v13 v14 v15 v16 v17 v18 wr => ∃ k : Nat, k + gk = xs.length ∧ v8 = .int .i64 (k : Int) ∧ v4 = .int .i64 0 ∧ (∀ j (h : j < k) (h' : j < xs.length), p xs[j] = false) ∧ Below w.heap.size w wr)
  case atStart => exact ⟨0, by omega, rfl, rfl, fun j hj => by omega, Below.refl _ _⟩
  case round =>
    obtain ⟨k, hk, rfl, rfl, hall, hb⟩ := hrel
    by_cases hlt : k < xs.length
    · have hd : decide (k < xs.length) = true := decide_eq_true hlt
      obtain ⟨a, rfl, hca⟩ := (HX.out.below hb).cell k hlt
      have x0 := hca 0 _ rfl
      rw [Nat.mul_one, Nat.add_zero] at x0
      have hp1 := HP.out k hlt wr hb
      have HP1 := Lib.hid hp1
      have HL := Lib.hid (And.intro hall hb)
      clear hp1 hall hb hca
      obtain ⟨pb, hpb⟩ : ∃ pb, p xs[k] = pb := ⟨_, rfl⟩
      rw [hpb] at HP1
      have HT := Lib.hid hpb
      clear hpb
      generalize hxk : xs[k] = x at *
      have HXK := Lib.hid hxk
      clear hxk
      cases pb with
      | true =>
        go_wp2_with ((with_reducible refine (HP1.out).mono ?_); rintro e w' ⟨rfl, hb1⟩)
        go_ret
        exact ⟨ret_int (idxF_at p xs k hlt (by rw [HXK.out]; exact HT.out) (fun j h => HL.out.1 j h (by omega))).symm, HL.out.2.trans (hb1.mono HL.out.2.size)⟩
      | false =>
        go_wp2_with ((with_reducible refine (HP1.out).mono ?_); rintro e w' ⟨rfl, hb1⟩)
        go_roundg (gk - 1)
        case measure => omega
        case rel => exact ⟨k + 1, by omega, by go_num, rfl, fun j hj hj' => by
          by_cases e : j = k
          · subst e; rw [HXK.out]; exact HT.out
          · exact HL.out.1 j (by omega) hj', HL.out.2.trans (hb1.mono HL.out.2.size)⟩
    · have hd : decide (k < xs.length) = false := decide_eq_false hlt
      have HL := Lib.hid (And.intro hall hb)
      clear hall hb
      go_wp2_with fail
      go_ret
      exact ⟨ret_int (idxF_none _ xs (fun j h => HL.out.1 j (by omega) h)).symm, HL.out.2⟩
/-- the row while DeleteFunc goes through it -/
def dfL (p : Nat → Bool) (xs : List Nat) (j : Nat) : List Nat := (xs.take j).filter (fun x => !p x) ++ xs.drop ((xs.take j).filter (fun x => !p x)).length
theorem df_le (p : Nat → Bool) (xs : List Nat) (j : Nat) : ((xs.take j).filter (fun x => !p x)).length ≤ j := Nat.le_trans (List.length_filter_le _ _) (by simp; omega)
theorem df_len (p : Nat → Bool) (xs : List Nat) (j : Nat) (hj : j ≤ xs.length) : (dfL p xs j).length = xs.length := by
  have := df_le p xs j
  unfold dfL
  rw [List.length_append, List.length_drop]
  omega
theorem df_get (p : Nat → Bool) (xs : List Nat) (j : Nat) (hj : j < xs.length) : (dfL p xs j)[j]'(by rw [df_len _ _ _ (by omega)]; exact hj) = xs[j] := by
  have := df_le p xs j
  unfold dfL
  rw [List.getElem_append_right this, List.getElem_drop]
  congr 1
  omega
theorem df_keep (p : Nat → Bool) (xs : List Nat) (j : Nat) (hj : j < xs.length) (hp : p xs[j] = false) : (dfL p xs j).set ((xs.take j).filter (fun x => !p x)).length xs[j] = dfL p xs (j + 1) := by
  have := df_le p xs j
  unfold dfL
  rw [List.take_succ_eq_append_getElem hj, List.filter_append, List.set_append_right _ _ (Nat.le_refl _)]
  simp only [List.filter_cons, hp, Bool.not_false, if_true, List.filter_nil, List.length_append, List.length_cons, List.length_nil, Nat.sub_self, Nat.zero_add, List.append_assoc]
  congr 1
  rw [List.drop_eq_getElem_cons (by omega)]
  rfl
theorem df_drop (p : Nat → Bool) (xs : List Nat) (j : Nat) (hj : j < xs.length) (hp : p xs[j] = true) : dfL p xs j = dfL p xs (j + 1) ∧ (xs.take (j + 1)).filter (fun x => !p x) = (xs.take j).filter (fun x => !p x) := by
  have e : (xs.take (j + 1)).filter (fun x => !p x) = (xs.take j).filter (fun x => !p x) := by
    rw [List.take_succ_eq_append_getElem hj, List.filter_append]
    simp [hp]
  exact ⟨by unfold dfL; rw [e], e⟩
theorem df_start (p : Nat → Bool) (xs : List Nat) (i : Nat) (hi : i < xs.length) (h0 : ∀ j (h : j < i), p (xs[j]'(by omega)) = false) (h1 : p xs[i] = true) : dfL p xs (i + 1) = xs ∧ ((xs.take (i + 1)).filter (fun x => !p x)).length = i := by
  have e : (xs.take i).filter (fun x => !p x) = xs.take i := by
    rw [List.filter_eq_self]
    intro a ha
    obtain ⟨j, hj, rfl⟩ := List.mem_iff_getElem.1 ha
    simp at hj
    simp only [List.getElem_take]
    rw [h0 j (by omega)]; rfl
  have e2 := (df_drop p xs i hi h1)
  rw [e] at e2
  constructor
  · rw [← e2.1]
    unfold dfL
    rw [e, List.length_take, Nat.min_eq_left (by omega), List.take_append_drop]
  · rw [e2.2, List.length_take, Nat.min_eq_left (by omega)]
def DfPost (p : Nat → Bool) (base g cp : Nat) (xs : List Nat) (w : World) (e : Ending) (w' : World) : Prop := e = .returned (.slice (some ⟨g, 0, none⟩) (xs.filter (fun x => !p x)).length cp) ∧ Own encQ 1 100 w' base (.slice (some ⟨g, 0, none⟩) (xs.filter (fun x => !p x)).length cp) (xs.filter (fun x => !p x)) ∧ w.grownBy w' (some g)
theorem deleteFunc_calls (p : Nat → Bool) (fid : Nat) (cap : Array Value) (base g cp : Nat) (xs : List Nat) (w : World) (hown : Own encQ 1 100 w base (.slice (some ⟨g, 0, none⟩) xs.length cp) xs)
    (hsm : xs.length ≤ 1000000)
    (hf : ∀ (args : Array Value) (w : World), (callFunc fid args).run Try.prog w = .ok (.enter fid args) w)
    (hp : ∀ k (h : k < xs.length) w1, w.grownBy w1 (some g) → Calls Try.prog fid (#[ptr xs[k]] ++ cap) w1 fun e w' => e = .returned (.bool (p xs[k])) ∧ Below w1.heap.size w1 w') :
    Calls Try.prog 61 #[.slice (some ⟨g, 0, none⟩) xs.length cp, .func (.func fid) #[] cap] w (DfPost p base g cp xs w) := by
  obtain ⟨A, c, hv, hle, hrd, _⟩ := hown.form lenQ
  obtain ⟨rfl, _, rfl⟩ := Value.slice.inj hv
  have hix := indexQ_calls p fid cap xs (some ⟨g, 0, none⟩) cp w hrd hf (fun k hk w1 hb => hp k hk w1 (below_grownBy hb _))
  have HI := Lib.hid hix
  have HO := Lib.hid hown
  have HP := Lib.hid hp
  have HF := Lib.hid hf
  clear hix hown hp hrd hv
  cases hfi : xs.findIdx? p with
  | none =>
    have hix : idxF p xs = -1 := by unfold idxF; rw [hfi]
    have hfe : xs.filter (fun x => !p x) = xs := by
      rw [List.findIdx?_eq_none_iff] at hfi
      rw [List.filter_eq_self]
      intro a ha
      rw [hfi a ha]; rfl
    rw [hix] at HI
    have HE := Lib.hid hfe
    clear hfe hix hfi
    go_enter Try.func61, Try.ntmps61
    go_wp2_with fail
    (with_reducible refine (HI.out).mono ?_); rintro e w5 ⟨rfl, hb5⟩
    have HB5 := Lib.hid hb5
    clear hb5
    go_wp2_with fail
    go_ret
    unfold DfPost
    rw [HE.out]
    exact ⟨rfl, HO.out.rest HB5.out, below_grownBy HB5.out _⟩
  | some i =>
    have hix : idxF p xs = (i : Int) := by unfold idxF; rw [hfi]
    rw [List.findIdx?_eq_some_iff_getElem] at hfi
    obtain ⟨hil, h1, h0⟩ := hfi
    have hst := df_start p xs i hil (fun j hj => by simpa using h0 j hj) h1
    rw [hix] at HI
    have HS := Lib.hid hst
    have hne : ((i : Int) == -1) = false := by simp
    have hi6 : (i : Int) < 1000000 := by omega
    clear hst hix h0 h1
    go_enter Try.func61, Try.ntmps61
    go_wp2_with fail
    (with_reducible refine (HI.out).mono ?_); rintro e w5 ⟨rfl, hb5⟩
    have HB5 := Lib.hid hb5
    clear hb5
    go_wp2_with fail
    go_loopg [5, 6, 7, 16, 17, 18, 19, 20, 21, 22, 23, 24, 25, 26, 27, 28, 29, 30, 31, 32, 33, 34, 35] xs.length (fun gk v5 v6 v7 v16 v17 v18 v19 v20 v21 v22 v23 v24 v25 v26 v27 v28 v29 v30 v31 v32 v33 v34 v35 wr => ∃ (j : Nat) (n : Nat), j + gk = xs.length + (i + 1) ∧ j ≤ xs.length ∧ n = ((xs.take j).filter (fun x => !p x)).length ∧ n < j ∧ v6 = .int .i64 (j : Int) ∧ v5 = .int .i64 (n : Int) ∧ Own encQ 1 100 wr base (.slice (some ⟨g, 0, none⟩) xs.length cp) (dfL p xs j) ∧ w.grownBy wr (some g))
    case atStart => exact ⟨i + 1, i, by omega, by omega, HS.out.2.symm, by omega, by first | rfl | go_num, rfl, by rw [HS.out.1]; exact HO.out.rest HB5.out, below_grownBy HB5.out _⟩
    case round =>
      obtain ⟨j, n, hj, hjl, hn, hnj, rfl, rfl, hown, hgr⟩ := hrel
      by_cases hlt : j < xs.length
      · have hd : decide (j < xs.length) = true := decide_eq_true hlt
        have hdl := df_len p xs j (by omega)
        have hcj := (hown.qcell hdl j (by rw [hdl]; exact hlt)).1
        rw [df_get p xs j hlt] at hcj
        have hcn := hown.qcell hdl n (by rw [hdl]; omega)
        obtain ⟨y, hnx⟩ : ∃ y, wr.cell? ⟨g, n, none⟩ = some y := ⟨_, hcn.1⟩
        have hnf := hcn.2
        clear hcn
        have hp1 := HP.out j hlt wr hgr
        have HP1 := Lib.hid hp1
        have HL := Lib.hid (And.intro hown (And.intro hgr hn))
        have hni : n < xs.length := by omega
        clear hp1 hown hgr hn
        obtain ⟨pb, hpb⟩ : ∃ pb, p xs[j] = pb := ⟨_, rfl⟩
        rw [hpb] at HP1
        have HT := Lib.hid hpb
        clear hpb
        generalize hxk : xs[j] = x at *
        have HXK := Lib.hid hxk
        clear hxk
        cases pb with
        | true =>
          go_wp2_with ((with_reducible refine (HP1.out).mono ?_); rintro e w' ⟨rfl, hb1⟩; have HB1 := Lib.hid hb1; clear hb1)
          go_roundg (gk - 1)
          case measure => omega
          case rel =>
            have e := df_drop p xs j hlt (by rw [HXK.out]; exact HT.out)
            exact ⟨j + 1, n, by omega, by omega, by rw [e.2]; exact HL.out.2.2, by omega, by go_num, rfl, by rw [← e.1]; exact HL.out.1.rest HB1.out, grownBy_below HL.out.2.1 HB1.out⟩
        | false =>
          go_wp2_with ((with_reducible refine (HP1.out).mono ?_); rintro e w' ⟨rfl, hb1⟩; have y1 := (hb1.cell (World.block_lt_of_cell? _ _ hnx)).trans hnx; have y2 := ((HL.out.1.rest hb1).qcell hdl n (by rw [hdl]; omega)).2; have HB1 := Lib.hid hb1; clear hb1)
          go_roundg (gk - 1)
          case measure => omega
          case rel =>
            have hp0 : p xs[j] = false := by rw [HXK.out]; exact HT.out
            have e := df_keep p xs j hlt hp0
            refine ⟨j + 1, n + 1, by omega, by omega, ?_, by omega, by go_num, by go_num, ?_, ?_⟩
            · rw [List.take_succ_eq_append_getElem hlt, List.filter_append]
              simp [hp0, HL.out.2.2]
            · have h3 := (HL.out.1.rest HB1.out).qset hdl n (by rw [hdl]; omega) xs[j]
              rw [HL.out.2.2, e, ← HL.out.2.2, HXK.out] at h3
              exact h3
            · exact grownBy_trans (grownBy_below HL.out.2.1 HB1.out) (grownBy_set _ _ _ _)
      · have hd : decide (j < xs.length) = false := decide_eq_false hlt
        obtain rfl : j = xs.length := by omega
        have hdl := df_len p xs xs.length (Nat.le_refl _)
        rw [List.take_length] at hn
        have hni : n < xs.length := by omega
        have hnc : n < cp := by have := hown.cap hdl; omega
        have hni2 : n ≤ xs.length := by omega
        have hcl := Lib.run_clear_slice (P := Try.prog) wr 99 100 0 (.pointer none) Try.underlying99 (fun w => by kernel_rfl) rfl rfl g n (xs.length - n) (cp - n) (by omega) (fun k hk => by
          have := (hown.qcell hdl (n + k) (by rw [hdl]; omega)).1
          rw [this]; rfl) (fun k hk => (hown.qcell hdl (n + k) (by rw [hdl]; omega)).2)
        have htk := hown.take lenQ hdl n (by omega)
        have hbd := ownsRow_beyonds (List.replicate (xs.length - n) (.pointer none)) n (by omega) (show wr.ownsRow base 100 1 (.slice (some ⟨g, 0, none⟩) n cp) n _ from by have h9 := htk; unfold Own at h9; rw [List.length_take, hdl, Nat.min_eq_left (by omega)] at h9; exact h9)
        have hfe : (dfL p xs xs.length).take n = xs.filter (fun x => !p x) := by
          unfold dfL
          rw [List.take_length, ← hn, hn, List.take_left]
        rw [hfe] at hbd
        have HL := Lib.hid (And.intro hbd (And.intro hgr hn))
        have hn0 : n ≠ cp := by omega
        clear hbd hgr hn htk hown hfe
        go_wp2_with fail
        go_ret
        unfold DfPost
        refine ⟨by rw [← HL.out.2.2]; rfl, ?_, grownBy_trans HL.out.2.1 HL.out.1.2⟩
        have h3 := HL.out.1.1
        unfold Own
        rw [← HL.out.2.2]
        exact h3
end Go.Proofs.Ytggidakiflnhhaa
