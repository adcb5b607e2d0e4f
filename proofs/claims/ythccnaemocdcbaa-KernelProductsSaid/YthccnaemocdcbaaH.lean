import Derived.Test.YthccnaemocdcbaaG
namespace Go.Proofs.Ythccnaemocdcbaa
open Go.RowKit Ieee
set_option maxHeartbeats 2000000
set_option maxRecDepth 100000
set_option linter.unusedSimpArgs false
set_option linter.unusedVariables false

theorem run_ceq {k : FloatKind} {v1 v2 : Value} {z1 z2 : G} {M : Nat} (h1 : Cx k v1 z1) (h2 : Cx k v2 z2) (b1 : gb M z1) (b2 : gb M z2) (hM : M < 2 ^ 24) (t : TypeId) (w : World) : (binOp .eql t v1 v2).run Try.prog w = .ok (.bool (decide (z1.1 = z2.1) && decide (z1.2 = z2.2))) w := by
  obtain ⟨r1, i1, rfl, hr1, hi1⟩ := h1
  obtain ⟨r2, i2, rfl, hr2, hi2⟩ := h2
  have e1 := ord_eq hr1 hr2 (by have := b1.1; unfold small; omega) (by have := b2.1; unfold small; omega)
  have e2 := ord_eq hi1 hi2 (by have := b1.2; unfold small; omega) (by have := b2.2; unfold small; omega)
  simp [binOp, Op.complexOp, Op.Complex.cmp, Op.floatCmp, e1, e2, asBool]
theorem run_cne {k : FloatKind} {v1 v2 : Value} {z1 z2 : G} {M : Nat} (h1 : Cx k v1 z1) (h2 : Cx k v2 z2) (b1 : gb M z1) (b2 : gb M z2) (hM : M < 2 ^ 24) (t : TypeId) (w : World) : (binOp .neq t v1 v2).run Try.prog w = .ok (.bool (!(decide (z1.1 = z2.1) && decide (z1.2 = z2.2)))) w := by
  obtain ⟨r1, i1, rfl, hr1, hi1⟩ := h1
  obtain ⟨r2, i2, rfl, hr2, hi2⟩ := h2
  have e1 := ord_eq hr1 hr2 (by have := b1.1; unfold small; omega) (by have := b2.1; unfold small; omega)
  have e2 := ord_eq hi1 hi2 (by have := b1.2; unfold small; omega) (by have := b2.2; unfold small; omega)
  simp [binOp, Op.complexOp, Op.Complex.cmp, Op.floatCmp, e1, e2, asBool]

/-- a list and the code OK are handed back -/
def TPost (k : FloatKind) (e : TypeId) (zs : List G) (w : World) (x : Ending) (w' : World) : Prop := ∃ v, x = .returned (.tuple #[v, .int .i64 0]) ∧ Own (encG k) 1 e w' w.heap.size v zs ∧ Below w.heap.size w w'

theorem transform_calls (back : Bool) (zs : List G) (m : Nat) (hm : m ≤ 3) (hlen : zs.length = 4 ^ m) (M : Nat) (hM : 2 * (4 ^ m * M) < 2 ^ 24) (hM6 : M ≤ 65536) (hz : ∀ z ∈ zs, gb M z) (A : Option Addr) (c : Nat) (w : World) (hx : Rd (encG .f64) 1 w A zs) :
    Calls Try.prog 9 #[.slice A (4 ^ m : Nat) c, .bool back] w (TPost .f64 27 (tr back m zs) w) := by
  have h1 := length_calls m hm (4 ^ m) rfl
  have h2 := wholes_calls A zs c 4679240012837945344 65536 c65536.1 c65536.2 (fun z h => ⟨Nat.le_trans (hz z h).1 hM6, Nat.le_trans (hz z h).2 hM6⟩) (by unfold small; decide) (by decide) w hx
  have h3 := fun w' (hb : Below w.heap.size w w') => tr28_calls back zs m hm hlen M hM hz A c w' (hx.below hb)
  rw [hlen] at h2
  have H1 := Lib.hid h1
  have H2 := Lib.hid h2
  have H3 := Lib.hid h3
  have h64 : 4 ^ m ≤ 64 := (pow4 m hm 0 (by omega)).1
  clear h1 h2 h3 hx hz hM hM6 hlen hm
  generalize 4 ^ m = n at *
  go_enter Try.func9, Try.ntmps9
  go_wp2_with fail
  (with_reducible refine (H1.out _).mono ?_); rintro e w1 ⟨rfl, rfl⟩
  go_wp2_with fail
  (with_reducible refine (H2.out).mono ?_); rintro e w2 ⟨rfl, hb2⟩
  have h3 := H3.out w2 hb2
  have H4 := Lib.hid h3
  have HB := Lib.hid hb2
  clear h3 hb2
  go_wp2_with fail
  (with_reducible refine (H4.out).mono ?_); rintro e w3 ⟨v, rfl, hown, hb3⟩
  have HO := Lib.hid (And.intro hown hb3)
  clear hown hb3
  go_wp2_with fail
  refine bodyPost_ret (by simp [results, Try.results9, go_sem]; try rfl) rfl ?_
  exact ⟨v, rfl, HO.out.1.base HB.out.size, HB.out.trans (HO.out.2.mono HB.out.size)⟩

theorem transform64_calls (back : Bool) (zs : List G) (m : Nat) (hm : m ≤ 3) (hlen : zs.length = 4 ^ m) (M : Nat) (hM : 2 * (4 ^ m * M) < 2 ^ 24) (hM6 : M ≤ 4096) (hz : ∀ z ∈ zs, gb M z) (A : Option Addr) (c : Nat) (w : World) (hx : Rd (encG .f32) 1 w A zs) :
    Calls Try.prog 10 #[.slice A (4 ^ m : Nat) c, .bool back] w (TPost .f32 29 (tr back m zs) w) := by
  have h1 := length_calls m hm (4 ^ m) rfl
  have h2 := none29_calls 30 #[] A zs c w hx f30 (fun z h => by have := t64_calls z ⟨Nat.le_trans (hz z h).1 hM6, Nat.le_trans (hz z h).2 hM6⟩ w; simpa using this)
  have h3 := tr32_calls back zs m hm hlen M hM hz A c w hx
  rw [hlen] at h2
  have H1 := Lib.hid h1
  have H2 := Lib.hid h2
  have H3 := Lib.hid h3
  have h64 : 4 ^ m ≤ 64 := (pow4 m hm 0 (by omega)).1
  clear h1 h2 h3 hx hz hM hM6 hlen hm
  generalize 4 ^ m = n at *
  go_enter Try.func10, Try.ntmps10
  go_wp2_with fail
  (with_reducible refine (H1.out _).mono ?_); rintro e w1 ⟨rfl, rfl⟩
  go_wp2_with fail
  (with_reducible refine (H2.out).mono ?_); rintro e w2 ⟨rfl, rfl⟩
  go_wp2_with fail
  (with_reducible refine (H3.out).mono ?_); rintro e w3 ⟨v, rfl, hown, hb3⟩
  have HO := Lib.hid (And.intro hown hb3)
  clear hown hb3
  go_wp2_with fail
  refine bodyPost_ret (by simp [results, Try.results10, go_sem]; try rfl) rfl ?_
  exact ⟨v, rfl, HO.out.1, HO.out.2⟩

theorem rd_four {k : FloatKind} {W : World} {b : Nat} {t : TypeId} (z0 z1 z2 z3 : G) (h : W.heap[b]? = some (.cells #[.complex k (can k z0.1) (can k z0.2), .complex k (can k z1.1) (can k z1.2), .complex k (can k z2.1) (can k z2.2), .complex k (can k z3.1) (can k z3.2)] t (0, 0))) : Rd (encG k) 1 W (some ⟨b, 0, none⟩) [z0, z1, z2, z3] := by
  obtain ⟨q0, q1, q2, q3, _⟩ := four_cells h
  refine ⟨by simp, fun i hi => ⟨_, rfl, fun j v hv => ?_⟩⟩
  match j, hv with
  | j + 1, hv => simp at hv
  | 0, hv =>
    match i, hi, hv with
    | 0, _, hv => cases hv; simpa [Addr.add] using q0
    | 1, _, hv => cases hv; simpa [Addr.add] using q1
    | 2, _, hv => cases hv; simpa [Addr.add] using q2
    | 3, _, hv => cases hv; simpa [Addr.add] using q3
    | i + 4, hi, _ => simp at hi; omega

theorem awake_calls (w : World) : Calls Try.prog 11 #[] w fun e w' => e = .returned (.bool true) ∧ Below w.heap.size w w' := by
  obtain ⟨W, hW⟩ : ∃ W, w.alloc (.cells #[.complex .f64 0 0, .complex .f64 4607182418800017408 0, .complex .f64 0 0, .complex .f64 0 0] 27) = W := ⟨_, rfl⟩
  have hb : Below w.heap.size w W := by rw [← hW]; exact (Below.refl _ _).alloc (Nat.le_refl _) _
  have hr : W.heap[w.heap.size]? = some (.cells #[.complex .f64 0 0, .complex .f64 4607182418800017408 0, .complex .f64 0 0, .complex .f64 0 0] 27 (0, 0)) := by rw [← hW]; exact heap_alloc_new w _
  have hx : Rd (encG .f64) 1 W (some ⟨w.heap.size, 0, none⟩) [(0, 0), (1, 0), (0, 0), (0, 0)] := by
    obtain ⟨c1, c0, _⟩ := can64
    refine rd_four (t := 27) (0, 0) (1, 0) (0, 0) (0, 0) ?_
    show W.heap[w.heap.size]? = some (.cells #[.complex .f64 (can .f64 0) (can .f64 0), .complex .f64 (can .f64 1) (can .f64 0), .complex .f64 (can .f64 0) (can .f64 0), .complex .f64 (can .f64 0) (can .f64 0)] 27 (0, 0))
    rw [c1, c0]; exact hr
  have ht := transform_calls false [(0, 0), (1, 0), (0, 0), (0, 0)] 1 (by decide) rfl 1 (by decide) (by decide) (by simp [gb]) _ 4 W hx
  have htr : tr false 1 [(0, 0), (1, 0), (0, 0), (0, 0)] = [(1, 0), (0, -1), (-1, 0), (0, 1)] := by decide
  rw [htr] at ht
  have HT := Lib.hid ht
  have HW := Lib.hid (And.intro hW hb)
  clear hW hb hr hx ht htr
  go_enter Try.func11, Try.ntmps11
  go_upto_region 1 with fail
  go_wp2_with fail
  rw [HW.out.1]
  (with_reducible refine (HT.out).mono ?_); rintro e w3 ⟨v, rfl, hown, hb3⟩
  obtain ⟨A, c, rfl, hrd⟩ := hown.rd lenG
  obtain ⟨a, rfl, q0⟩ := hrd.g 0 (by decide)
  obtain ⟨a1, e1, q1⟩ := hrd.g 1 (by decide)
  obtain ⟨a2, e2, q2⟩ := hrd.g 2 (by decide)
  obtain ⟨a3, e3, q3⟩ := hrd.g 3 (by decide)
  cases e1; cases e2; cases e3
  obtain ⟨c1, c0, cm⟩ := can64
  have he : ∀ (x y : Int) (hx : x.natAbs ≤ 1) (hy : y.natAbs ≤ 1) (w : World), (binOp .eql 27 (.complex .f64 (can .f64 x) (can .f64 y)) (.complex .f64 (can .f64 x) (can .f64 y))).run Try.prog w = .ok (.bool true) w := fun x y hx hy w => by
    have := run_ceq (k := .f64) (M := 1) (Cx.can .f64 (x, y)) (Cx.can .f64 (x, y)) ⟨hx, hy⟩ ⟨hx, hy⟩ (by decide) 27 w
    simpa using this
  have he0 := he 1 0 (by decide) (by decide)
  have he1 := he 0 (-1) (by decide) (by decide)
  have he2 := he (-1) 0 (by decide) (by decide)
  have he3 := he 0 1 (by decide) (by decide)
  simp only [List.getElem_cons_zero, List.getElem_cons_succ, c1, c0, cm] at q0 q1 q2 q3 he0 he1 he2 he3
  have e0 : a.add 0 = a := rfl
  rw [e0] at q0
  change w3.cell? ⟨a.block, a.off + 1, Option.none⟩ = _ at q1
  change w3.cell? ⟨a.block, a.off + 2, Option.none⟩ = _ at q2
  change w3.cell? ⟨a.block, a.off + 3, Option.none⟩ = _ at q3
  have HB := Lib.hid hb3
  clear e0 he hown hrd hb3 c1 c0 cm
  go_wp2_with fail
  go_ret
  exact ⟨rfl, HW.out.2.trans (HB.out.mono HW.out.2.size)⟩
end Go.Proofs.Ythccnaemocdcbaa
