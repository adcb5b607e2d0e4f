import Derived.Test.YtggidakiflnhhaaBJ
namespace Go.Proofs.Ytggidakiflnhhaa
open Go.RowKit
set_option maxHeartbeats 8000000
set_option maxRecDepth 100000
set_option linter.unusedSimpArgs false
set_option linter.unusedVariables false

/-! ### the reference's races -/
def Rsn (l : List Op) (i k : Nat) (a : Int) : Prop := ∃ r, i < r ∧ r < k ∧ relB l r a
def Syn (l : List Op) (i k : Nat) (a b : Int) : Prop := ∃ r s, i < r ∧ r < s ∧ s < k ∧ relB l r a ∧ acqB l s b
theorem rsn_succ {l : List Op} {i k : Nat} {a : Int} (hk : i < k) : Rsn l i (k + 1) a ↔ Rsn l i k a ∨ relB l k a := by
  constructor
  · rintro ⟨r, h1, h2, h3⟩
    by_cases h : r < k
    · exact Or.inl ⟨r, h1, h, h3⟩
    · obtain rfl : r = k := by omega
      exact Or.inr h3
  · rintro (⟨r, h1, h2, h3⟩ | h)
    · exact ⟨r, h1, by omega, h3⟩
    · exact ⟨k, hk, by omega, h⟩
theorem syn_succ {l : List Op} {i k : Nat} {a b : Int} : Syn l i (k + 1) a b ↔ Syn l i k a b ∨ (Rsn l i k a ∧ acqB l k b) := by
  constructor
  · rintro ⟨r, s, h1, h2, h3, h4, h5⟩
    by_cases h : s < k
    · exact Or.inl ⟨r, s, h1, h2, h, h4, h5⟩
    · obtain rfl : s = k := by omega
      exact Or.inr ⟨⟨r, h1, h2, h4⟩, h5⟩
  · rintro (⟨r, s, h1, h2, h3, h4, h5⟩ | ⟨⟨r, h1, h2, h3⟩, h4⟩)
    · exact ⟨r, s, h1, h2, by omega, h4, h5⟩
    · exact ⟨r, k, h1, h2, by omega, h3, h4⟩
theorem syn_le {l : List Op} {i k m : Nat} {a b : Int} (h : Syn l i k a b) (hm : k ≤ m) : Syn l i m a b := by
  obtain ⟨r, s, h1, h2, h3, h4, h5⟩ := h
  exact ⟨r, s, h1, h2, by omega, h4, h5⟩
theorem relB_at {l : List Op} {k : Nat} {z : Op} (h : l[k]? = some z) (a : Int) : relB l k a ↔ z.k = 4 ∧ z.a = a := by
  unfold relB
  rw [h]
  exact ⟨fun ⟨o, h1, h2⟩ => by obtain rfl := Option.some.inj h1; exact h2, fun h2 => ⟨z, rfl, h2⟩⟩
theorem acqB_at {l : List Op} {k : Nat} {z : Op} (h : l[k]? = some z) (a : Int) : acqB l k a ↔ z.k = 3 ∧ z.a = a := by
  unfold acqB
  rw [h]
  exact ⟨fun ⟨o, h1, h2⟩ => by obtain rfl := Option.some.inj h1; exact h2, fun h2 => ⟨z, rfl, h2⟩⟩
noncomputable def racB (l : List Op) (i j : Nat) : Bool := by classical exact decide (racP l i j)
theorem racB_iff {l : List Op} {i j : Nat} : racB l i j = true ↔ racP l i j := by
  unfold racB
  exact ⟨fun h => by classical exact of_decide_eq_true h, fun h => by classical exact decide_eq_true h⟩
theorem racB_no {l : List Op} {i j : Nat} (h : ¬ racP l i j) : racB l i j = false := by
  cases hb : racB l i j with
  | false => rfl
  | true => exact absurd (racB_iff.1 hb) h
theorem racP_at {l : List Op} {i j : Nat} {x y : Op} (hx : l[i]? = some x) (hy : l[j]? = some y) : racP l i j ↔ x.k ≤ 2 ∧ y.k ≤ 2 ∧ ¬ (x.k = 1 ∧ y.k = 1) ∧ x.a ≠ y.a ∧ x.p = y.p ∧ ¬ Syn l i j x.a y.a := by
  unfold racP
  rw [hx, hy]
  constructor
  · rintro ⟨a, b, h1, h2, h3⟩
    obtain rfl := Option.some.inj h1
    obtain rfl := Option.some.inj h2
    exact h3
  · intro h
    exact ⟨x, y, rfl, rfl, h⟩
theorem and4' {a b : Int} {p : Prop} (h : ¬ (a = 1 ∧ b = 1)) (h1 : (a == 1) = false → p) (h2 : (a == 1) = true → (b == 1) = false → p) : p := by
  by_cases ha : a = 1
  · exact h2 (by rw [ha]; rfl) (by simpa using fun e => h ⟨ha, e⟩)
  · exact h1 (by simpa using ha)
theorem set4 (w : World) (b : Nat) (t : TypeId) (v0 v1 v2 v3 x0 x1 x2 x3 : Value) (h : w.heap[b]? = some (.cells #[v0, v1, v2, v3] t (0, 0))) {Z : World} (hZ : (((w.setCell ⟨b, 0, none⟩ x0).setCell ⟨b, 1, none⟩ x1).setCell ⟨b, 2, none⟩ x2).setCell ⟨b, 3, none⟩ x3 = Z) :
    Z.heap[b]? = some (.cells #[x0, x1, x2, x3] t (0, 0)) ∧ (∀ k, k ≠ b → Z.heap[k]? = w.heap[k]?) ∧ (∀ n, n ≤ b → Below n w Z) := by
  subst hZ
  have a1 := heap_setCell_same w b 0 _ _ x0 h
  have a2 := heap_setCell_same _ b 1 _ _ x1 a1
  have a3 := heap_setCell_same _ b 2 _ _ x2 a2
  have a4 := heap_setCell_same _ b 3 _ _ x3 a3
  refine ⟨a4, fun k hk => ?_, fun n hn => ?_⟩
  · rw [heap_setCell_other _ _ _ _ (by simpa using hk), heap_setCell_other _ _ _ _ (by simpa using hk), heap_setCell_other _ _ _ _ (by simpa using hk), heap_setCell_other _ _ _ _ (by simpa using hk)]
  · exact ((((show Below n w w from ⟨rfl, rfl, rfl, Nat.le_refl _, fun _ _ => rfl⟩).setCell hn _).setCell hn _).setCell hn _).setCell hn _
theorem info63s : (Try.prog.info? 63).map (·.size) = some 4 := by kernel_rfl
theorem racesR_calls (l : List Op) (i j : Nat) (hij : i < j) (hj : j < l.length) (A : Option Addr) (cp : Nat) (w : World) (hA : Rd encP 4 w A l) :
    Calls Try.prog 42 #[.slice A l.length cp, .int .i64 (i : Int), .int .i64 (j : Int)] w fun e w' => e = .returned (.bool (racB l i j)) ∧ Below w.heap.size w w' := by
  have hsm := hA.small
  obtain ⟨a, rfl, hcx⟩ := hA.cell i (by omega)
  obtain ⟨a', ha', hcy⟩ := hA.cell j hj
  obtain rfl := Option.some.inj ha'
  have hjI : (j : Int) < (l.length : Int) := by omega
  have hiI : (i : Int) < (l.length : Int) := by omega
  obtain ⟨x, hx⟩ : ∃ x, l[i]'(by omega) = x := ⟨_, rfl⟩
  obtain ⟨y, hy⟩ : ∃ y, l[j] = y := ⟨_, rfl⟩
  have hx' : l[i]? = some x := by rw [List.getElem?_eq_getElem (by omega), hx]
  have hy' : l[j]? = some y := by rw [List.getElem?_eq_getElem hj, hy]
  rw [hx] at hcx
  rw [hy] at hcy
  have hP := racP_at hx' hy'
  obtain ⟨xa, xk, xp, xv⟩ := x
  obtain ⟨ya, yk, yp, yv⟩ := y
  simp only at hP
  have y0 := hcx 0 _ rfl
  have y1 := hcx 1 _ rfl
  have y2 := hcx 2 _ rfl
  have y3 := hcx 3 _ rfl
  have z0 := hcy 0 _ rfl
  have z1 := hcy 1 _ rfl
  have z2 := hcy 2 _ rfl
  have z3 := hcy 3 _ rfl
  rw [Nat.add_zero] at y0 z0
  rw [add_field _ _ _ (by decide)] at y1 y2 y3 z1 z2 z3
  have HA := Lib.hid (And.intro hA hP)
  have HO := Lib.hid (fun (u : World) (hu : Below w.heap.size w u) => hA.below hu)
  clear hcx hcy hx hy hx' hy' hA hP
  go_enter Try.func42, Try.ntmps42
  go_upto_region 1 with fail
  go_cut [6, 7, 8] (fun v6 v7 v8 wx => ∃ bx bz, v6 = .bool false ∧ v7 = .pointer (some ⟨bx, 0, none⟩) ∧ v8 = .pointer (some ⟨bz, 0, none⟩) ∧ wx.heap[bx]? = some (.cells #[.int .i64 xa, .int .i64 xk, .int .i64 xp, .int .i64 xv] 63 (0, 0)) ∧ wx.heap[bz]? = some (.cells #[.int .i64 ya, .int .i64 yk, .int .i64 yp, .int .i64 yv] 63 (0, 0)) ∧ Below w.heap.size w wx)
  case first =>
    have hco : ∀ (p : Addr) (v : Value) (u : World), w.cell? p = some v → Below w.heap.size w u → u.cell? p = some v := fun p v u h hb => (hb.cell (World.block_lt_of_cell? _ _ h)).trans h
    have HCO := Lib.hid hco
    have HY := Lib.hid (And.intro y0 (And.intro y1 (And.intro y2 (And.intro y3 (And.intro z0 (And.intro z1 (And.intro z2 z3)))))))
    clear hco
    refine wp_region_held_drew (S := (fun w' => w'.cell? (a.add (i * 4)) = some (.int .i64 xa) ∧ w'.cell? ⟨(a.add (i * 4)).block, (a.add (i * 4)).off + 1, none⟩ = some (.int .i64 xk) ∧ w'.cell? ⟨(a.add (i * 4)).block, (a.add (i * 4)).off + 2, none⟩ = some (.int .i64 xp) ∧ w'.cell? ⟨(a.add (i * 4)).block, (a.add (i * 4)).off + 3, none⟩ = some (.int .i64 xv) ∧ w'.cell? (a.add (j * 4)) = some (.int .i64 ya) ∧ w'.cell? ⟨(a.add (j * 4)).block, (a.add (j * 4)).off + 1, none⟩ = some (.int .i64 yk) ∧ w'.cell? ⟨(a.add (j * 4)).block, (a.add (j * 4)).off + 2, none⟩ = some (.int .i64 yp) ∧ w'.cell? ⟨(a.add (j * 4)).block, (a.add (j * 4)).off + 3, none⟩ = some (.int .i64 yv))) (by kernel_rfl) ?_ (fun hHelda => ?_)
    · (try dsimp only); exact ⟨HCO.out _ _ _ (HY.out.1) ((bb_drew (Below.refl _ _))), HCO.out _ _ _ (HY.out.2.1) ((bb_drew (Below.refl _ _))), HCO.out _ _ _ (HY.out.2.2.1) ((bb_drew (Below.refl _ _))), HCO.out _ _ _ (HY.out.2.2.2.1) ((bb_drew (Below.refl _ _))), HCO.out _ _ _ (HY.out.2.2.2.2.1) ((bb_drew (Below.refl _ _))), HCO.out _ _ _ (HY.out.2.2.2.2.2.1) ((bb_drew (Below.refl _ _))), HCO.out _ _ _ (HY.out.2.2.2.2.2.2.1) ((bb_drew (Below.refl _ _))), HCO.out _ _ _ (HY.out.2.2.2.2.2.2.2) ((bb_drew (Below.refl _ _)))⟩
    obtain ⟨wd, hwd⟩ : ∃ u, w.drew = u := ⟨_, rfl⟩
    have F0 := Lib.hid (show Below w.heap.size w wd by rw [← hwd]; exact bb_drew (Below.refl _ _))
    rw [hwd]
    rw [hwd] at hHelda
    clear hwd
    refine wpAnyH_take (i := 0) (oi := _) (v := ?va1) rfl (by kernel_rfl) (by kernel_rfl) (by kernel_rfl) (fun _ _ _ h => h) (Or.inl ⟨by rfl, ?hya1⟩) (by assumption) ?resta1
    case hya1 => (intro w hSw; (try dsimp only at hSw); go_simp; all_goals with_reducible rfl)
    try simp only [Act.put, List.getElem_toArray, List.getElem_cons_zero, List.getElem_cons_succ, List.setIfInBounds_toArray, List.set_cons_zero, List.set_cons_succ]
    refine wpAnyH_take (i := 1) (oi := _) (v := ?va2) rfl (by kernel_rfl) (by kernel_rfl) (by kernel_rfl) (fun _ _ _ h => h) (Or.inl ⟨by rfl, ?hya2⟩) (by assumption) ?resta2
    case hya2 => (intro w hSw; (try dsimp only at hSw); go_simp; all_goals with_reducible rfl)
    try simp only [Act.put, List.getElem_toArray, List.getElem_cons_zero, List.getElem_cons_succ, List.setIfInBounds_toArray, List.set_cons_zero, List.set_cons_succ]
    refine wpAnyH_take (i := 2) (oi := _) (v := ?va3) rfl (by kernel_rfl) (by kernel_rfl) (by kernel_rfl) (fun _ _ _ h => h) (Or.inl ⟨by rfl, ?hya3⟩) (by assumption) ?resta3
    case hya3 => (intro w hSw; (try dsimp only at hSw); go_simp; all_goals with_reducible rfl)
    try simp only [Act.put, List.getElem_toArray, List.getElem_cons_zero, List.getElem_cons_succ, List.setIfInBounds_toArray, List.set_cons_zero, List.set_cons_succ]
    refine wpAnyH_take (i := 3) (oi := _) (v := ?va4) rfl (by kernel_rfl) (by kernel_rfl) (by kernel_rfl) (fun _ _ _ h => h) (Or.inl ⟨by rfl, ?hya4⟩) (by assumption) ?resta4
    case hya4 => (intro w hSw; (try dsimp only at hSw); go_simp; all_goals with_reducible rfl)
    try simp only [Act.put, List.getElem_toArray, List.getElem_cons_zero, List.getElem_cons_succ, List.setIfInBounds_toArray, List.set_cons_zero, List.set_cons_succ]
    refine wpAnyH_take (i := 4) (oi := _) (v := ?va5) rfl (by kernel_rfl) (by kernel_rfl) (by kernel_rfl) (fun _ _ _ h => h) (Or.inl ⟨by rfl, ?hya5⟩) (by assumption) ?resta5
    case hya5 => (intro w hSw; (try dsimp only at hSw); go_simp; all_goals with_reducible rfl)
    try simp only [Act.put, List.getElem_toArray, List.getElem_cons_zero, List.getElem_cons_succ, List.setIfInBounds_toArray, List.set_cons_zero, List.set_cons_succ]
    refine wpAnyH_take (i := 5) (oi := _) (v := ?va6) rfl (by kernel_rfl) (by kernel_rfl) (by kernel_rfl) (fun _ _ _ h => h) (Or.inl ⟨by rfl, ?hya6⟩) (by assumption) ?resta6
    case hya6 => (intro w hSw; (try dsimp only at hSw); go_simp; all_goals with_reducible rfl)
    try simp only [Act.put, List.getElem_toArray, List.getElem_cons_zero, List.getElem_cons_succ, List.setIfInBounds_toArray, List.set_cons_zero, List.set_cons_succ]
    refine wpAnyH_take (i := 6) (oi := _) (v := ?va7) rfl (by kernel_rfl) (by kernel_rfl) (by kernel_rfl) (fun _ _ _ h => h) (Or.inl ⟨by rfl, ?hya7⟩) (by assumption) ?resta7
    case hya7 => (intro w hSw; (try dsimp only at hSw); go_simp; all_goals with_reducible rfl)
    try simp only [Act.put, List.getElem_toArray, List.getElem_cons_zero, List.getElem_cons_succ, List.setIfInBounds_toArray, List.set_cons_zero, List.set_cons_succ]
    refine wpAnyH_take (i := 7) (oi := _) (v := ?va8) rfl (by kernel_rfl) (by kernel_rfl) (by kernel_rfl) (fun _ _ _ h => h) (Or.inl ⟨by rfl, ?hya8⟩) (by assumption) ?resta8
    case hya8 => (intro w hSw; (try dsimp only at hSw); go_simp; all_goals with_reducible rfl)
    try simp only [Act.put, List.getElem_toArray, List.getElem_cons_zero, List.getElem_cons_succ, List.setIfInBounds_toArray, List.set_cons_zero, List.set_cons_succ]
    refine wpAnyH_ready (rs := [8, 9]) (by kernel_rfl) (by simp) ?_
    refine AllReadyH.cons (o := _) rfl (fun K hK => ?_) ?_
    · go_simp
      obtain ⟨ua, hu⟩ : ∃ u, wd.alloc (.cells #[.int .i64 0, .int .i64 0, .int .i64 0, .int .i64 0] 63) = u := ⟨_, rfl⟩
      have hbu : Below wd.heap.size wd ua := by rw [← hu]; exact (Below.refl _ _).alloc (Nat.le_refl _) _
      have hnx : ua.heap[wd.heap.size]? = some (.cells #[.int .i64 0, .int .i64 0, .int .i64 0, .int .i64 0] 63 (0, 0)) := by rw [← hu]; exact Go.heap_alloc_new _ _
      obtain ⟨nb8, hnb⟩ : ∃ nb, wd.heap.size = nb := ⟨_, rfl⟩
      rw [hu]
      try rw [hnb]
      rw [hnb] at hnx
      have Fua := Lib.hid (And.intro (Below.trans (F0.out) (hbu.mono (Below.size (F0.out)))) (And.intro hnx (show w.heap.size ≤ nb8 by rw [← hnb]; exact Below.size (F0.out))))
      clear hu hbu hnx hnb
      refine hK.out _ _ ?_ (fun hHelda9 => ?_)
      · (try dsimp only); exact ⟨HCO.out _ _ _ (HY.out.1) (Fua.out.1), HCO.out _ _ _ (HY.out.2.1) (Fua.out.1), HCO.out _ _ _ (HY.out.2.2.1) (Fua.out.1), HCO.out _ _ _ (HY.out.2.2.2.1) (Fua.out.1), HCO.out _ _ _ (HY.out.2.2.2.2.1) (Fua.out.1), HCO.out _ _ _ (HY.out.2.2.2.2.2.1) (Fua.out.1), HCO.out _ _ _ (HY.out.2.2.2.2.2.2.1) (Fua.out.1), HCO.out _ _ _ (HY.out.2.2.2.2.2.2.2) (Fua.out.1)⟩
      clear hK K hHelda
      try simp only [Act.put, List.getElem_toArray, List.getElem_cons_zero, List.getElem_cons_succ, List.setIfInBounds_toArray, List.set_cons_zero, List.set_cons_succ]
      refine wpAnyH_ready (rs := [9]) (by kernel_rfl) (by simp) ?_
      refine AllReadyH.cons (o := _) rfl (fun K hK => ?_) AllReadyH.nil
      go_simp
      obtain ⟨uab, hu⟩ : ∃ u, ua.alloc (.cells #[.int .i64 0, .int .i64 0, .int .i64 0, .int .i64 0] 63) = u := ⟨_, rfl⟩
      have hbu : Below ua.heap.size ua uab := by rw [← hu]; exact (Below.refl _ _).alloc (Nat.le_refl _) _
      have hnx : uab.heap[ua.heap.size]? = some (.cells #[.int .i64 0, .int .i64 0, .int .i64 0, .int .i64 0] 63 (0, 0)) := by rw [← hu]; exact Go.heap_alloc_new _ _
      obtain ⟨nb9, hnb⟩ : ∃ nb, ua.heap.size = nb := ⟨_, rfl⟩
      rw [hu]
      try rw [hnb]
      rw [hnb] at hnx
      have Fuab := Lib.hid (And.intro (Below.trans (Fua.out.1) (hbu.mono (Below.size (Fua.out.1)))) (And.intro (And.intro ((hbu.block _ (blk_lt (Fua.out.2).1)).trans (Fua.out.2).1) (Fua.out.2).2) (And.intro (And.intro hnx (show w.heap.size ≤ nb9 by rw [← hnb]; exact Below.size (Fua.out.1))) (show nb8 ≠ nb9 by have := blk_lt (Fua.out.2).1; omega))))
      clear hu hbu hnx hnb
      refine hK.out _ _ ?_ (fun hHelda10 => ?_)
      · (try dsimp only); exact ⟨HCO.out _ _ _ (HY.out.1) (Fuab.out.1), HCO.out _ _ _ (HY.out.2.1) (Fuab.out.1), HCO.out _ _ _ (HY.out.2.2.1) (Fuab.out.1), HCO.out _ _ _ (HY.out.2.2.2.1) (Fuab.out.1), HCO.out _ _ _ (HY.out.2.2.2.2.1) (Fuab.out.1), HCO.out _ _ _ (HY.out.2.2.2.2.2.1) (Fuab.out.1), HCO.out _ _ _ (HY.out.2.2.2.2.2.2.1) (Fuab.out.1), HCO.out _ _ _ (HY.out.2.2.2.2.2.2.2) (Fuab.out.1)⟩
      clear hK K hHelda9
      try simp only [Act.put, List.getElem_toArray, List.getElem_cons_zero, List.getElem_cons_succ, List.setIfInBounds_toArray, List.set_cons_zero, List.set_cons_succ]
      refine wpAnyH_ready (rs := [10]) (by kernel_rfl) (by simp) ?_
      refine AllReadyH.cons (o := _) rfl (fun K hK => ?_) AllReadyH.nil
      have f0 := frozen_of_row uab nb8 0 _ _ (Fuab.out.2.1).1
      have f1 := frozen_of_row uab nb8 1 _ _ (Fuab.out.2.1).1
      have f2 := frozen_of_row uab nb8 2 _ _ (Fuab.out.2.1).1
      have f3 := frozen_of_row uab nb8 3 _ _ (Fuab.out.2.1).1
      have k0 : uab.cell? ⟨nb8, 0, none⟩ = some (.int .i64 0) := by rw [cell_of_row _ _ _ _ _ _ (Fuab.out.2.1).1]; rfl
      have k1 : uab.cell? ⟨nb8, 1, none⟩ = some (.int .i64 0) := by rw [cell_of_row _ _ _ _ _ _ (Fuab.out.2.1).1]; rfl
      have k2 : uab.cell? ⟨nb8, 2, none⟩ = some (.int .i64 0) := by rw [cell_of_row _ _ _ _ _ _ (Fuab.out.2.1).1]; rfl
      have k3 : uab.cell? ⟨nb8, 3, none⟩ = some (.int .i64 0) := by rw [cell_of_row _ _ _ _ _ _ (Fuab.out.2.1).1]; rfl
      go_simp
      clear f0 f1 f2 f3 k0 k1 k2 k3
      obtain ⟨uabs, hu⟩ : ∃ u, (((uab.setCell ⟨nb8, 0, none⟩ (.int .i64 xa)).setCell ⟨nb8, 1, none⟩ (.int .i64 xk)).setCell ⟨nb8, 2, none⟩ (.int .i64 xp)).setCell ⟨nb8, 3, none⟩ (.int .i64 xv) = u := ⟨_, rfl⟩
      rw [hu]
      obtain ⟨s1, s2, s3⟩ := set4 _ _ _ _ _ _ _ _ _ _ _ (Fuab.out.2.1).1 hu
      have Fuabs := Lib.hid (And.intro (Below.trans (Fuab.out.1) (s3 _ (Fuab.out.2.1).2)) (And.intro (And.intro s1 (Fuab.out.2.1).2) (And.intro (And.intro ((s2 _ (show nb9 ≠ nb8 from fun e => (Fuab.out.2.2.2) e.symm)).trans (Fuab.out.2.2.1).1) (Fuab.out.2.2.1).2) (Fuab.out.2.2.2))))
      clear hu s1 s2 s3
      refine hK.out _ _ ?_ (fun hHelda11 => ?_)
      · (try dsimp only); exact ⟨HCO.out _ _ _ (HY.out.1) (Fuabs.out.1), HCO.out _ _ _ (HY.out.2.1) (Fuabs.out.1), HCO.out _ _ _ (HY.out.2.2.1) (Fuabs.out.1), HCO.out _ _ _ (HY.out.2.2.2.1) (Fuabs.out.1), HCO.out _ _ _ (HY.out.2.2.2.2.1) (Fuabs.out.1), HCO.out _ _ _ (HY.out.2.2.2.2.2.1) (Fuabs.out.1), HCO.out _ _ _ (HY.out.2.2.2.2.2.2.1) (Fuabs.out.1), HCO.out _ _ _ (HY.out.2.2.2.2.2.2.2) (Fuabs.out.1)⟩
      clear hK K hHelda10
      try simp only [Act.put, List.getElem_toArray, List.getElem_cons_zero, List.getElem_cons_succ, List.setIfInBounds_toArray, List.set_cons_zero, List.set_cons_succ]
      refine wpAnyH_ready (rs := [11]) (by kernel_rfl) (by simp) ?_
      refine AllReadyH.cons (o := _) rfl (fun K hK => ?_) AllReadyH.nil
      have f0 := frozen_of_row uabs nb9 0 _ _ (Fuabs.out.2.2.1).1
      have f1 := frozen_of_row uabs nb9 1 _ _ (Fuabs.out.2.2.1).1
      have f2 := frozen_of_row uabs nb9 2 _ _ (Fuabs.out.2.2.1).1
      have f3 := frozen_of_row uabs nb9 3 _ _ (Fuabs.out.2.2.1).1
      have k0 : uabs.cell? ⟨nb9, 0, none⟩ = some (.int .i64 0) := by rw [cell_of_row _ _ _ _ _ _ (Fuabs.out.2.2.1).1]; rfl
      have k1 : uabs.cell? ⟨nb9, 1, none⟩ = some (.int .i64 0) := by rw [cell_of_row _ _ _ _ _ _ (Fuabs.out.2.2.1).1]; rfl
      have k2 : uabs.cell? ⟨nb9, 2, none⟩ = some (.int .i64 0) := by rw [cell_of_row _ _ _ _ _ _ (Fuabs.out.2.2.1).1]; rfl
      have k3 : uabs.cell? ⟨nb9, 3, none⟩ = some (.int .i64 0) := by rw [cell_of_row _ _ _ _ _ _ (Fuabs.out.2.2.1).1]; rfl
      go_simp
      clear f0 f1 f2 f3 k0 k1 k2 k3
      obtain ⟨uabst, hu⟩ : ∃ u, (((uabs.setCell ⟨nb9, 0, none⟩ (.int .i64 ya)).setCell ⟨nb9, 1, none⟩ (.int .i64 yk)).setCell ⟨nb9, 2, none⟩ (.int .i64 yp)).setCell ⟨nb9, 3, none⟩ (.int .i64 yv) = u := ⟨_, rfl⟩
      rw [hu]
      obtain ⟨s1, s2, s3⟩ := set4 _ _ _ _ _ _ _ _ _ _ _ (Fuabs.out.2.2.1).1 hu
      have Fuabst := Lib.hid (And.intro (Below.trans (Fuabs.out.1) (s3 _ (Fuabs.out.2.2.1).2)) (And.intro (And.intro ((s2 _ (show nb8 ≠ nb9 from Fuabs.out.2.2.2)).trans (Fuabs.out.2.1).1) (Fuabs.out.2.1).2) (And.intro (And.intro s1 (Fuabs.out.2.2.1).2) (Fuabs.out.2.2.2))))
      clear hu s1 s2 s3
      refine hK.out _ _ ?_ (fun hHelda12 => ?_)
      · (try dsimp only); exact ⟨HCO.out _ _ _ (HY.out.1) (Fuabst.out.1), HCO.out _ _ _ (HY.out.2.1) (Fuabst.out.1), HCO.out _ _ _ (HY.out.2.2.1) (Fuabst.out.1), HCO.out _ _ _ (HY.out.2.2.2.1) (Fuabst.out.1), HCO.out _ _ _ (HY.out.2.2.2.2.1) (Fuabst.out.1), HCO.out _ _ _ (HY.out.2.2.2.2.2.1) (Fuabst.out.1), HCO.out _ _ _ (HY.out.2.2.2.2.2.2.1) (Fuabst.out.1), HCO.out _ _ _ (HY.out.2.2.2.2.2.2.2) (Fuabst.out.1)⟩
      clear hK K hHelda11
      try simp only [Act.put, List.getElem_toArray, List.getElem_cons_zero, List.getElem_cons_succ, List.setIfInBounds_toArray, List.set_cons_zero, List.set_cons_succ]
      refine wpAnyH_done (by kernel_rfl) ?_ _
      go_wp2_with fail
      go_meet
      exact ⟨_, _, rfl, rfl, rfl, (Fuabst.out.2.1).1, (Fuabst.out.2.2.1).1, Fuabst.out.1⟩
    refine AllReadyH.cons (o := _) rfl (fun K hK => ?_) AllReadyH.nil
    go_simp
    obtain ⟨ub, hu⟩ : ∃ u, wd.alloc (.cells #[.int .i64 0, .int .i64 0, .int .i64 0, .int .i64 0] 63) = u := ⟨_, rfl⟩
    have hbu : Below wd.heap.size wd ub := by rw [← hu]; exact (Below.refl _ _).alloc (Nat.le_refl _) _
    have hnx : ub.heap[wd.heap.size]? = some (.cells #[.int .i64 0, .int .i64 0, .int .i64 0, .int .i64 0] 63 (0, 0)) := by rw [← hu]; exact Go.heap_alloc_new _ _
    obtain ⟨nb9, hnb⟩ : ∃ nb, wd.heap.size = nb := ⟨_, rfl⟩
    rw [hu]
    try rw [hnb]
    rw [hnb] at hnx
    have Fub := Lib.hid (And.intro (Below.trans (F0.out) (hbu.mono (Below.size (F0.out)))) (And.intro hnx (show w.heap.size ≤ nb9 by rw [← hnb]; exact Below.size (F0.out))))
    clear hu hbu hnx hnb
    refine hK.out _ _ ?_ (fun hHelda13 => ?_)
    · (try dsimp only); exact ⟨HCO.out _ _ _ (HY.out.1) (Fub.out.1), HCO.out _ _ _ (HY.out.2.1) (Fub.out.1), HCO.out _ _ _ (HY.out.2.2.1) (Fub.out.1), HCO.out _ _ _ (HY.out.2.2.2.1) (Fub.out.1), HCO.out _ _ _ (HY.out.2.2.2.2.1) (Fub.out.1), HCO.out _ _ _ (HY.out.2.2.2.2.2.1) (Fub.out.1), HCO.out _ _ _ (HY.out.2.2.2.2.2.2.1) (Fub.out.1), HCO.out _ _ _ (HY.out.2.2.2.2.2.2.2) (Fub.out.1)⟩
    clear hK K hHelda
    try simp only [Act.put, List.getElem_toArray, List.getElem_cons_zero, List.getElem_cons_succ, List.setIfInBounds_toArray, List.set_cons_zero, List.set_cons_succ]
    refine wpAnyH_ready (rs := [8]) (by kernel_rfl) (by simp) ?_
    refine AllReadyH.cons (o := _) rfl (fun K hK => ?_) AllReadyH.nil
    go_simp
    obtain ⟨uba, hu⟩ : ∃ u, ub.alloc (.cells #[.int .i64 0, .int .i64 0, .int .i64 0, .int .i64 0] 63) = u := ⟨_, rfl⟩
    have hbu : Below ub.heap.size ub uba := by rw [← hu]; exact (Below.refl _ _).alloc (Nat.le_refl _) _
    have hnx : uba.heap[ub.heap.size]? = some (.cells #[.int .i64 0, .int .i64 0, .int .i64 0, .int .i64 0] 63 (0, 0)) := by rw [← hu]; exact Go.heap_alloc_new _ _
    obtain ⟨nb8, hnb⟩ : ∃ nb, ub.heap.size = nb := ⟨_, rfl⟩
    rw [hu]
    try rw [hnb]
    rw [hnb] at hnx
    have Fuba := Lib.hid (And.intro (Below.trans (Fub.out.1) (hbu.mono (Below.size (Fub.out.1)))) (And.intro (And.intro hnx (show w.heap.size ≤ nb8 by rw [← hnb]; exact Below.size (Fub.out.1))) (And.intro (And.intro ((hbu.block _ (blk_lt (Fub.out.2).1)).trans (Fub.out.2).1) (Fub.out.2).2) (show nb8 ≠ nb9 by have := blk_lt (Fub.out.2).1; omega))))
    clear hu hbu hnx hnb
    refine hK.out _ _ ?_ (fun hHelda14 => ?_)
    · (try dsimp only); exact ⟨HCO.out _ _ _ (HY.out.1) (Fuba.out.1), HCO.out _ _ _ (HY.out.2.1) (Fuba.out.1), HCO.out _ _ _ (HY.out.2.2.1) (Fuba.out.1), HCO.out _ _ _ (HY.out.2.2.2.1) (Fuba.out.1), HCO.out _ _ _ (HY.out.2.2.2.2.1) (Fuba.out.1), HCO.out _ _ _ (HY.out.2.2.2.2.2.1) (Fuba.out.1), HCO.out _ _ _ (HY.out.2.2.2.2.2.2.1) (Fuba.out.1), HCO.out _ _ _ (HY.out.2.2.2.2.2.2.2) (Fuba.out.1)⟩
    clear hK K hHelda13
    try simp only [Act.put, List.getElem_toArray, List.getElem_cons_zero, List.getElem_cons_succ, List.setIfInBounds_toArray, List.set_cons_zero, List.set_cons_succ]
    refine wpAnyH_ready (rs := [10]) (by kernel_rfl) (by simp) ?_
    refine AllReadyH.cons (o := _) rfl (fun K hK => ?_) AllReadyH.nil
    have f0 := frozen_of_row uba nb8 0 _ _ (Fuba.out.2.1).1
    have f1 := frozen_of_row uba nb8 1 _ _ (Fuba.out.2.1).1
    have f2 := frozen_of_row uba nb8 2 _ _ (Fuba.out.2.1).1
    have f3 := frozen_of_row uba nb8 3 _ _ (Fuba.out.2.1).1
    have k0 : uba.cell? ⟨nb8, 0, none⟩ = some (.int .i64 0) := by rw [cell_of_row _ _ _ _ _ _ (Fuba.out.2.1).1]; rfl
    have k1 : uba.cell? ⟨nb8, 1, none⟩ = some (.int .i64 0) := by rw [cell_of_row _ _ _ _ _ _ (Fuba.out.2.1).1]; rfl
    have k2 : uba.cell? ⟨nb8, 2, none⟩ = some (.int .i64 0) := by rw [cell_of_row _ _ _ _ _ _ (Fuba.out.2.1).1]; rfl
    have k3 : uba.cell? ⟨nb8, 3, none⟩ = some (.int .i64 0) := by rw [cell_of_row _ _ _ _ _ _ (Fuba.out.2.1).1]; rfl
    go_simp
    clear f0 f1 f2 f3 k0 k1 k2 k3
    obtain ⟨ubas, hu⟩ : ∃ u, (((uba.setCell ⟨nb8, 0, none⟩ (.int .i64 xa)).setCell ⟨nb8, 1, none⟩ (.int .i64 xk)).setCell ⟨nb8, 2, none⟩ (.int .i64 xp)).setCell ⟨nb8, 3, none⟩ (.int .i64 xv) = u := ⟨_, rfl⟩
    rw [hu]
    obtain ⟨s1, s2, s3⟩ := set4 _ _ _ _ _ _ _ _ _ _ _ (Fuba.out.2.1).1 hu
    have Fubas := Lib.hid (And.intro (Below.trans (Fuba.out.1) (s3 _ (Fuba.out.2.1).2)) (And.intro (And.intro s1 (Fuba.out.2.1).2) (And.intro (And.intro ((s2 _ (show nb9 ≠ nb8 from fun e => (Fuba.out.2.2.2) e.symm)).trans (Fuba.out.2.2.1).1) (Fuba.out.2.2.1).2) (Fuba.out.2.2.2))))
    clear hu s1 s2 s3
    refine hK.out _ _ ?_ (fun hHelda15 => ?_)
    · (try dsimp only); exact ⟨HCO.out _ _ _ (HY.out.1) (Fubas.out.1), HCO.out _ _ _ (HY.out.2.1) (Fubas.out.1), HCO.out _ _ _ (HY.out.2.2.1) (Fubas.out.1), HCO.out _ _ _ (HY.out.2.2.2.1) (Fubas.out.1), HCO.out _ _ _ (HY.out.2.2.2.2.1) (Fubas.out.1), HCO.out _ _ _ (HY.out.2.2.2.2.2.1) (Fubas.out.1), HCO.out _ _ _ (HY.out.2.2.2.2.2.2.1) (Fubas.out.1), HCO.out _ _ _ (HY.out.2.2.2.2.2.2.2) (Fubas.out.1)⟩
    clear hK K hHelda14
    try simp only [Act.put, List.getElem_toArray, List.getElem_cons_zero, List.getElem_cons_succ, List.setIfInBounds_toArray, List.set_cons_zero, List.set_cons_succ]
    refine wpAnyH_ready (rs := [11]) (by kernel_rfl) (by simp) ?_
    refine AllReadyH.cons (o := _) rfl (fun K hK => ?_) AllReadyH.nil
    have f0 := frozen_of_row ubas nb9 0 _ _ (Fubas.out.2.2.1).1
    have f1 := frozen_of_row ubas nb9 1 _ _ (Fubas.out.2.2.1).1
    have f2 := frozen_of_row ubas nb9 2 _ _ (Fubas.out.2.2.1).1
    have f3 := frozen_of_row ubas nb9 3 _ _ (Fubas.out.2.2.1).1
    have k0 : ubas.cell? ⟨nb9, 0, none⟩ = some (.int .i64 0) := by rw [cell_of_row _ _ _ _ _ _ (Fubas.out.2.2.1).1]; rfl
    have k1 : ubas.cell? ⟨nb9, 1, none⟩ = some (.int .i64 0) := by rw [cell_of_row _ _ _ _ _ _ (Fubas.out.2.2.1).1]; rfl
    have k2 : ubas.cell? ⟨nb9, 2, none⟩ = some (.int .i64 0) := by rw [cell_of_row _ _ _ _ _ _ (Fubas.out.2.2.1).1]; rfl
    have k3 : ubas.cell? ⟨nb9, 3, none⟩ = some (.int .i64 0) := by rw [cell_of_row _ _ _ _ _ _ (Fubas.out.2.2.1).1]; rfl
    go_simp
    clear f0 f1 f2 f3 k0 k1 k2 k3
    obtain ⟨ubast, hu⟩ : ∃ u, (((ubas.setCell ⟨nb9, 0, none⟩ (.int .i64 ya)).setCell ⟨nb9, 1, none⟩ (.int .i64 yk)).setCell ⟨nb9, 2, none⟩ (.int .i64 yp)).setCell ⟨nb9, 3, none⟩ (.int .i64 yv) = u := ⟨_, rfl⟩
    rw [hu]
    obtain ⟨s1, s2, s3⟩ := set4 _ _ _ _ _ _ _ _ _ _ _ (Fubas.out.2.2.1).1 hu
    have Fubast := Lib.hid (And.intro (Below.trans (Fubas.out.1) (s3 _ (Fubas.out.2.2.1).2)) (And.intro (And.intro ((s2 _ (show nb8 ≠ nb9 from Fubas.out.2.2.2)).trans (Fubas.out.2.1).1) (Fubas.out.2.1).2) (And.intro (And.intro s1 (Fubas.out.2.2.1).2) (Fubas.out.2.2.2))))
    clear hu s1 s2 s3
    refine hK.out _ _ ?_ (fun hHelda16 => ?_)
    · (try dsimp only); exact ⟨HCO.out _ _ _ (HY.out.1) (Fubast.out.1), HCO.out _ _ _ (HY.out.2.1) (Fubast.out.1), HCO.out _ _ _ (HY.out.2.2.1) (Fubast.out.1), HCO.out _ _ _ (HY.out.2.2.2.1) (Fubast.out.1), HCO.out _ _ _ (HY.out.2.2.2.2.1) (Fubast.out.1), HCO.out _ _ _ (HY.out.2.2.2.2.2.1) (Fubast.out.1), HCO.out _ _ _ (HY.out.2.2.2.2.2.2.1) (Fubast.out.1), HCO.out _ _ _ (HY.out.2.2.2.2.2.2.2) (Fubast.out.1)⟩
    clear hK K hHelda15
    try simp only [Act.put, List.getElem_toArray, List.getElem_cons_zero, List.getElem_cons_succ, List.setIfInBounds_toArray, List.set_cons_zero, List.set_cons_succ]
    refine wpAnyH_done (by kernel_rfl) ?_ _
    go_wp2_with fail
    go_meet
    exact ⟨_, _, rfl, rfl, rfl, (Fubast.out.2.1).1, (Fubast.out.2.2.1).1, Fubast.out.1⟩
  case rest =>
    obtain ⟨bx, bz, rfl, rfl, rfl, hbx, hbz, hb1⟩ := hcut
    clear y0 y1 y2 y3 z0 z1 z2 z3
    have hxc : ∀ u, Below wc.heap.size wc u → u.cell? ⟨bx, 0, none⟩ = some (.int .i64 xa) ∧ u.cell? ⟨bx, 1, none⟩ = some (.int .i64 xk) ∧ u.cell? ⟨bx, 2, none⟩ = some (.int .i64 xp) := fun u hu => by
      have h := (hu.block _ (blk_lt hbx)).trans hbx
      refine ⟨?_, ?_, ?_⟩ <;> (rw [cell_of_row _ _ _ _ _ _ h]; rfl)
    have hzc : ∀ u, Below wc.heap.size wc u → u.cell? ⟨bz, 0, none⟩ = some (.int .i64 ya) ∧ u.cell? ⟨bz, 1, none⟩ = some (.int .i64 yk) ∧ u.cell? ⟨bz, 2, none⟩ = some (.int .i64 yp) := fun u hu => by
      have h := (hu.block _ (blk_lt hbz)).trans hbz
      refine ⟨?_, ?_, ?_⟩ <;> (rw [cell_of_row _ _ _ _ _ _ h]; rfl)
    obtain ⟨p0, p1, p2⟩ := hxc wc (Below.refl _ _)
    obtain ⟨q0, q1, q2⟩ := hzc wc (Below.refl _ _)
    have HX := Lib.hid (And.intro hxc (And.intro hzc hb1))
    clear hbx hbz hb1 hxc hzc
    by_cases c1 : xk ≤ 2
    · have d1 : decide (2 < xk) = false := decide_eq_false (by omega)
      by_cases c2 : yk ≤ 2
      · have d2 : decide (2 < yk) = false := decide_eq_false (by omega)
        by_cases c3 : xk = 1 ∧ yk = 1
        · have d3 : (xk == 1) = true := by rw [c3.1]; rfl
          have d4 : (yk == 1) = true := by rw [c3.2]; rfl
          have hr : racB l i j = false := racB_no (fun h => (HA.out.2.1 h).2.2.1 c3)
          have HV := Lib.hid hr
          clear hr c1 c2 c3
          go_wp2_with fail
          go_ret
          exact ⟨ret_bool HV.out.symm, HX.out.2.2⟩
        · have HC3 := Lib.hid c3
          refine and4' c3 ?_ ?_
          · intro d3
            clear c3
            by_cases c4 : xa = ya
            · have b4 : (xa == ya) = true := by simpa using c4
              have hr : racB l i j = false := racB_no (fun h => (HA.out.2.1 h).2.2.2.1 c4)
              have HV := Lib.hid hr
              clear hr c4
              go_wp2_with fail
              go_ret
              exact ⟨ret_bool HV.out.symm, HX.out.2.2⟩
            · have b4 : (xa == ya) = false := by simpa using c4
              by_cases c5 : xp = yp
              · have b5 : (xp != yp) = false := by simpa using c5
                have HG := Lib.hid (And.intro c1 (And.intro c2 (And.intro HC3.out (And.intro c4 c5))))
                clear c1 c2 c4 c5
                go_wp2_with fail
                go_loopg [9, 10] (j - (i + 1)) (fun gk v9 v10 wr => ∃ (k : Nat) (rb : Bool), k + gk = j ∧ i < k ∧ v10 = .int .i64 (k : Int) ∧ v9 = .bool rb ∧ (rb = true ↔ Rsn l i k xa) ∧ ¬ Syn l i k xa ya ∧ Below wc.heap.size wc wr)
                case atStart => exact ⟨i + 1, false, by omega, by omega, by go_num, rfl, ⟨(fun h => by cases h), (fun ⟨r, h1, h2, _⟩ => by omega)⟩, (fun ⟨r, s, h1, h2, h3, _⟩ => by omega), Below.refl _ _⟩
                case round =>
                  obtain ⟨k, rb, hk, hik, rfl, rfl, hrs, hsy, hb⟩ := hrel
                  by_cases hlt : k < j
                  · have hd : decide (k < j) = true := decide_eq_true hlt
                    have hkI : (k : Int) < (j : Int) := by omega
                    have hkl : k < l.length := by omega
                    have hkL : (k : Int) < (l.length : Int) := by omega
                    obtain ⟨a', ha', hcz⟩ := (HO.out wr (HX.out.2.2.trans (hb.mono HX.out.2.2.size))).cell k hkl
                    obtain rfl := Option.some.inj ha'
                    obtain ⟨z, hz⟩ : ∃ z, l[k] = z := ⟨_, rfl⟩
                    have hz' : l[k]? = some z := by rw [List.getElem?_eq_getElem hkl, hz]
                    rw [hz] at hcz
                    have hre := relB_at hz' xa
                    have hac := acqB_at hz' ya
                    obtain ⟨za, zk, zp, zv⟩ := z
                    simp only at hre hac
                    have r0 := hcz 0 _ rfl
                    have r1 := hcz 1 _ rfl
                    rw [Nat.add_zero] at r0
                    rw [add_field _ _ _ (by decide)] at r1
                    obtain ⟨p0, -, -⟩ := HX.out.1 wr hb
                    obtain ⟨q0, -, -⟩ := HX.out.2.1 wr hb
                    have hrs1 := rsn_succ (l := l) (a := xa) hik
                    have hsy1 := syn_succ (l := l) (i := i) (k := k) (a := xa) (b := ya)
                    clear hcz hz hz'
                    cases rb with
                    | true =>
                      have hR := hrs.1 rfl
                      by_cases e1 : za = ya
                      · have b1 : (za == ya) = true := by simpa using e1
                        by_cases e2 : zk = 3
                        · have b2 : (zk == 3) = true := by simpa using e2
                          have hs : Syn l i j xa ya := syn_le (hsy1.2 (Or.inr ⟨hR, hac.2 ⟨e2, e1⟩⟩)) (by omega)
                          have hr : racB l i j = false := racB_no (fun h => (HA.out.2.1 h).2.2.2.2.2 hs)
                          have HV := Lib.hid (And.intro hr hb)
                          clear hr hs hR e1 e2 hrs hsy hb hre hac hrs1 hsy1
                          go_upto_region 8 with fail
                          go_quiet (fail)
                          go_upto_region 9 with fail
                          go_quiet (fail)
                          go_wp2_with fail
                          go_ret
                          exact ⟨ret_bool HV.out.1.symm, HX.out.2.2.trans ((drewN_below HV.out.2 _).mono HX.out.2.2.size)⟩
                        · have b2 : (zk == 3) = false := by simpa using e2
                          have he : Rsn l i (k + 1) xa ∧ ¬ Syn l i (k + 1) xa ya := by
                            rw [hrs1, hsy1, hre, hac]
                            exact ⟨Or.inl hR, fun h => by rcases h with h | ⟨_, h⟩; exact hsy h; exact e2 h.1⟩
                          have HE := Lib.hid (And.intro he hb)
                          clear he hrs hsy hb hre hac hrs1 hsy1 hR e1 e2
                          go_upto_region 8 with fail
                          go_quiet (fail)
                          go_upto_region 9 with fail
                          go_quiet (fail)
                          go_wp2_with fail
                          go_roundg (j - (k + 1))
                          case measure => omega
                          case rel => exact ⟨k + 1, true, by omega, by omega, by go_num, rfl, ⟨fun _ => HE.out.1.1, fun _ => rfl⟩, HE.out.1.2, drewN_below HE.out.2 _⟩
                      · have b1 : (za == ya) = false := by simpa using e1
                        have he : Rsn l i (k + 1) xa ∧ ¬ Syn l i (k + 1) xa ya := by
                          rw [hrs1, hsy1, hre, hac]
                          exact ⟨Or.inl hR, fun h => by rcases h with h | ⟨_, h⟩; exact hsy h; exact e1 h.2⟩
                        have HE := Lib.hid (And.intro he hb)
                        clear he hrs hsy hb hre hac hrs1 hsy1 hR e1
                        go_upto_region 8 with fail
                        go_quiet (fail)
                        go_upto_region 9 with fail
                        go_quiet (fail)
                        go_wp2_with fail
                        go_roundg (j - (k + 1))
                        case measure => omega
                        case rel => exact ⟨k + 1, true, by omega, by omega, by go_num, rfl, ⟨fun _ => HE.out.1.1, fun _ => rfl⟩, HE.out.1.2, drewN_below HE.out.2 _⟩
                    | false =>
                      have hR : ¬ Rsn l i k xa := fun h => by have := hrs.2 h; cases this
                      by_cases e1 : za = xa
                      · have b1 : (za == xa) = true := by simpa using e1
                        by_cases e2 : zk = 4
                        · have b2 : (zk == 4) = true := by simpa using e2
                          have b3 : (zk == 3) = false := by rw [e2]; rfl
                          have b4 : (za == ya) = false := by rw [e1]; simpa using HG.out.2.2.2.1
                          have he : Rsn l i (k + 1) xa ∧ ¬ Syn l i (k + 1) xa ya := by
                            rw [hrs1, hsy1, hre, hac]
                            exact ⟨Or.inr ⟨e2, e1⟩, fun h => by rcases h with h | ⟨h, _⟩; exact hsy h; exact hR h⟩
                          have HE := Lib.hid (And.intro he hb)
                          clear he hrs hsy hb hre hac hrs1 hsy1 hR e1 e2
                          go_upto_region 8 with fail
                          go_quiet (fail)
                          go_upto_region 9 with fail
                          go_quiet (fail)
                          go_wp2_with fail
                          go_roundg (j - (k + 1))
                          case measure => omega
                          case rel => exact ⟨k + 1, true, by omega, by omega, by go_num, rfl, ⟨fun _ => HE.out.1.1, fun _ => rfl⟩, HE.out.1.2, drewN_below HE.out.2 _⟩
                        · have b2 : (zk == 4) = false := by simpa using e2
                          have he : ¬ Rsn l i (k + 1) xa ∧ ¬ Syn l i (k + 1) xa ya := by
                            rw [hrs1, hsy1, hre, hac]
                            exact ⟨(fun h => by rcases h with h | h; exact hR h; exact e2 h.1), fun h => by rcases h with h | ⟨h, _⟩; exact hsy h; exact hR h⟩
                          have HE := Lib.hid (And.intro he hb)
                          clear he hrs hsy hb hre hac hrs1 hsy1 hR e1 e2
                          go_upto_region 8 with fail
                          go_quiet (fail)
                          go_upto_region 9 with fail
                          go_quiet (fail)
                          go_wp2_with fail
                          go_roundg (j - (k + 1))
                          case measure => omega
                          case rel => exact ⟨k + 1, false, by omega, by omega, by go_num, rfl, ⟨(fun h => by cases h), fun h => absurd h HE.out.1.1⟩, HE.out.1.2, drewN_below HE.out.2 _⟩
                      · have b1 : (za == xa) = false := by simpa using e1
                        have he : ¬ Rsn l i (k + 1) xa ∧ ¬ Syn l i (k + 1) xa ya := by
                          rw [hrs1, hsy1, hre, hac]
                          exact ⟨(fun h => by rcases h with h | h; exact hR h; exact e1 h.2), fun h => by rcases h with h | ⟨h, _⟩; exact hsy h; exact hR h⟩
                        have HE := Lib.hid (And.intro he hb)
                        clear he hrs hsy hb hre hac hrs1 hsy1 hR e1
                        go_upto_region 8 with fail
                        go_quiet (fail)
                        go_upto_region 9 with fail
                        go_quiet (fail)
                        go_wp2_with fail
                        go_roundg (j - (k + 1))
                        case measure => omega
                        case rel => exact ⟨k + 1, false, by omega, by omega, by go_num, rfl, ⟨(fun h => by cases h), fun h => absurd h HE.out.1.1⟩, HE.out.1.2, drewN_below HE.out.2 _⟩
                  · have hd : decide (k < j) = false := decide_eq_false hlt
                    obtain rfl : k = j := by omega
                    have hr : racB l i k = true := racB_iff.2 (HA.out.2.2 ⟨HG.out.1, HG.out.2.1, HG.out.2.2.1, HG.out.2.2.2.1, HG.out.2.2.2.2, hsy⟩)
                    have HV := Lib.hid (And.intro hr hb)
                    clear hr hrs hsy hb
                    go_wp2_with fail
                    go_ret
                    exact ⟨ret_bool HV.out.1.symm, HX.out.2.2.trans (HV.out.2.mono HX.out.2.2.size)⟩
              · have b5 : (xp != yp) = true := by simpa using c5
                have hr : racB l i j = false := racB_no (fun h => c5 (HA.out.2.1 h).2.2.2.2.1)
                have HV := Lib.hid hr
                clear hr c5
                go_wp2_with fail
                go_ret
                exact ⟨ret_bool HV.out.symm, HX.out.2.2⟩
          · intro d3 d4
            clear c3
            by_cases c4 : xa = ya
            · have b4 : (xa == ya) = true := by simpa using c4
              have hr : racB l i j = false := racB_no (fun h => (HA.out.2.1 h).2.2.2.1 c4)
              have HV := Lib.hid hr
              clear hr c4
              go_wp2_with fail
              go_ret
              exact ⟨ret_bool HV.out.symm, HX.out.2.2⟩
            · have b4 : (xa == ya) = false := by simpa using c4
              by_cases c5 : xp = yp
              · have b5 : (xp != yp) = false := by simpa using c5
                have HG := Lib.hid (And.intro c1 (And.intro c2 (And.intro HC3.out (And.intro c4 c5))))
                clear c1 c2 c4 c5
                go_wp2_with fail
                go_loopg [9, 10] (j - (i + 1)) (fun gk v9 v10 wr => ∃ (k : Nat) (rb : Bool), k + gk = j ∧ i < k ∧ v10 = .int .i64 (k : Int) ∧ v9 = .bool rb ∧ (rb = true ↔ Rsn l i k xa) ∧ ¬ Syn l i k xa ya ∧ Below wc.heap.size wc wr)
                case atStart => exact ⟨i + 1, false, by omega, by omega, by go_num, rfl, ⟨(fun h => by cases h), (fun ⟨r, h1, h2, _⟩ => by omega)⟩, (fun ⟨r, s, h1, h2, h3, _⟩ => by omega), Below.refl _ _⟩
                case round =>
                  obtain ⟨k, rb, hk, hik, rfl, rfl, hrs, hsy, hb⟩ := hrel
                  by_cases hlt : k < j
                  · have hd : decide (k < j) = true := decide_eq_true hlt
                    have hkI : (k : Int) < (j : Int) := by omega
                    have hkl : k < l.length := by omega
                    have hkL : (k : Int) < (l.length : Int) := by omega
                    obtain ⟨a', ha', hcz⟩ := (HO.out wr (HX.out.2.2.trans (hb.mono HX.out.2.2.size))).cell k hkl
                    obtain rfl := Option.some.inj ha'
                    obtain ⟨z, hz⟩ : ∃ z, l[k] = z := ⟨_, rfl⟩
                    have hz' : l[k]? = some z := by rw [List.getElem?_eq_getElem hkl, hz]
                    rw [hz] at hcz
                    have hre := relB_at hz' xa
                    have hac := acqB_at hz' ya
                    obtain ⟨za, zk, zp, zv⟩ := z
                    simp only at hre hac
                    have r0 := hcz 0 _ rfl
                    have r1 := hcz 1 _ rfl
                    rw [Nat.add_zero] at r0
                    rw [add_field _ _ _ (by decide)] at r1
                    obtain ⟨p0, -, -⟩ := HX.out.1 wr hb
                    obtain ⟨q0, -, -⟩ := HX.out.2.1 wr hb
                    have hrs1 := rsn_succ (l := l) (a := xa) hik
                    have hsy1 := syn_succ (l := l) (i := i) (k := k) (a := xa) (b := ya)
                    clear hcz hz hz'
                    cases rb with
                    | true =>
                      have hR := hrs.1 rfl
                      by_cases e1 : za = ya
                      · have b1 : (za == ya) = true := by simpa using e1
                        by_cases e2 : zk = 3
                        · have b2 : (zk == 3) = true := by simpa using e2
                          have hs : Syn l i j xa ya := syn_le (hsy1.2 (Or.inr ⟨hR, hac.2 ⟨e2, e1⟩⟩)) (by omega)
                          have hr : racB l i j = false := racB_no (fun h => (HA.out.2.1 h).2.2.2.2.2 hs)
                          have HV := Lib.hid (And.intro hr hb)
                          clear hr hs hR e1 e2 hrs hsy hb hre hac hrs1 hsy1
                          go_upto_region 8 with fail
                          go_quiet (fail)
                          go_upto_region 9 with fail
                          go_quiet (fail)
                          go_wp2_with fail
                          go_ret
                          exact ⟨ret_bool HV.out.1.symm, HX.out.2.2.trans ((drewN_below HV.out.2 _).mono HX.out.2.2.size)⟩
                        · have b2 : (zk == 3) = false := by simpa using e2
                          have he : Rsn l i (k + 1) xa ∧ ¬ Syn l i (k + 1) xa ya := by
                            rw [hrs1, hsy1, hre, hac]
                            exact ⟨Or.inl hR, fun h => by rcases h with h | ⟨_, h⟩; exact hsy h; exact e2 h.1⟩
                          have HE := Lib.hid (And.intro he hb)
                          clear he hrs hsy hb hre hac hrs1 hsy1 hR e1 e2
                          go_upto_region 8 with fail
                          go_quiet (fail)
                          go_upto_region 9 with fail
                          go_quiet (fail)
                          go_wp2_with fail
                          go_roundg (j - (k + 1))
                          case measure => omega
                          case rel => exact ⟨k + 1, true, by omega, by omega, by go_num, rfl, ⟨fun _ => HE.out.1.1, fun _ => rfl⟩, HE.out.1.2, drewN_below HE.out.2 _⟩
                      · have b1 : (za == ya) = false := by simpa using e1
                        have he : Rsn l i (k + 1) xa ∧ ¬ Syn l i (k + 1) xa ya := by
                          rw [hrs1, hsy1, hre, hac]
                          exact ⟨Or.inl hR, fun h => by rcases h with h | ⟨_, h⟩; exact hsy h; exact e1 h.2⟩
                        have HE := Lib.hid (And.intro he hb)
                        clear he hrs hsy hb hre hac hrs1 hsy1 hR e1
                        go_upto_region 8 with fail
                        go_quiet (fail)
                        go_upto_region 9 with fail
                        go_quiet (fail)
                        go_wp2_with fail
                        go_roundg (j - (k + 1))
                        case measure => omega
                        case rel => exact ⟨k + 1, true, by omega, by omega, by go_num, rfl, ⟨fun _ => HE.out.1.1, fun _ => rfl⟩, HE.out.1.2, drewN_below HE.out.2 _⟩
                    | false =>
                      have hR : ¬ Rsn l i k xa := fun h => by have := hrs.2 h; cases this
                      by_cases e1 : za = xa
                      · have b1 : (za == xa) = true := by simpa using e1
                        by_cases e2 : zk = 4
                        · have b2 : (zk == 4) = true := by simpa using e2
                          have b3 : (zk == 3) = false := by rw [e2]; rfl
                          have b4 : (za == ya) = false := by rw [e1]; simpa using HG.out.2.2.2.1
                          have he : Rsn l i (k + 1) xa ∧ ¬ Syn l i (k + 1) xa ya := by
                            rw [hrs1, hsy1, hre, hac]
                            exact ⟨Or.inr ⟨e2, e1⟩, fun h => by rcases h with h | ⟨h, _⟩; exact hsy h; exact hR h⟩
                          have HE := Lib.hid (And.intro he hb)
                          clear he hrs hsy hb hre hac hrs1 hsy1 hR e1 e2
                          go_upto_region 8 with fail
                          go_quiet (fail)
                          go_upto_region 9 with fail
                          go_quiet (fail)
                          go_wp2_with fail
                          go_roundg (j - (k + 1))
                          case measure => omega
                          case rel => exact ⟨k + 1, true, by omega, by omega, by go_num, rfl, ⟨fun _ => HE.out.1.1, fun _ => rfl⟩, HE.out.1.2, drewN_below HE.out.2 _⟩
                        · have b2 : (zk == 4) = false := by simpa using e2
                          have he : ¬ Rsn l i (k + 1) xa ∧ ¬ Syn l i (k + 1) xa ya := by
                            rw [hrs1, hsy1, hre, hac]
                            exact ⟨(fun h => by rcases h with h | h; exact hR h; exact e2 h.1), fun h => by rcases h with h | ⟨h, _⟩; exact hsy h; exact hR h⟩
                          have HE := Lib.hid (And.intro he hb)
                          clear he hrs hsy hb hre hac hrs1 hsy1 hR e1 e2
                          go_upto_region 8 with fail
                          go_quiet (fail)
                          go_upto_region 9 with fail
                          go_quiet (fail)
                          go_wp2_with fail
                          go_roundg (j - (k + 1))
                          case measure => omega
                          case rel => exact ⟨k + 1, false, by omega, by omega, by go_num, rfl, ⟨(fun h => by cases h), fun h => absurd h HE.out.1.1⟩, HE.out.1.2, drewN_below HE.out.2 _⟩
                      · have b1 : (za == xa) = false := by simpa using e1
                        have he : ¬ Rsn l i (k + 1) xa ∧ ¬ Syn l i (k + 1) xa ya := by
                          rw [hrs1, hsy1, hre, hac]
                          exact ⟨(fun h => by rcases h with h | h; exact hR h; exact e1 h.2), fun h => by rcases h with h | ⟨h, _⟩; exact hsy h; exact hR h⟩
                        have HE := Lib.hid (And.intro he hb)
                        clear he hrs hsy hb hre hac hrs1 hsy1 hR e1
                        go_upto_region 8 with fail
                        go_quiet (fail)
                        go_upto_region 9 with fail
                        go_quiet (fail)
                        go_wp2_with fail
                        go_roundg (j - (k + 1))
                        case measure => omega
                        case rel => exact ⟨k + 1, false, by omega, by omega, by go_num, rfl, ⟨(fun h => by cases h), fun h => absurd h HE.out.1.1⟩, HE.out.1.2, drewN_below HE.out.2 _⟩
                  · have hd : decide (k < j) = false := decide_eq_false hlt
                    obtain rfl : k = j := by omega
                    have hr : racB l i k = true := racB_iff.2 (HA.out.2.2 ⟨HG.out.1, HG.out.2.1, HG.out.2.2.1, HG.out.2.2.2.1, HG.out.2.2.2.2, hsy⟩)
                    have HV := Lib.hid (And.intro hr hb)
                    clear hr hrs hsy hb
                    go_wp2_with fail
                    go_ret
                    exact ⟨ret_bool HV.out.1.symm, HX.out.2.2.trans (HV.out.2.mono HX.out.2.2.size)⟩
              · have b5 : (xp != yp) = true := by simpa using c5
                have hr : racB l i j = false := racB_no (fun h => c5 (HA.out.2.1 h).2.2.2.2.1)
                have HV := Lib.hid hr
                clear hr c5
                go_wp2_with fail
                go_ret
                exact ⟨ret_bool HV.out.symm, HX.out.2.2⟩
      · have d2 : decide (2 < yk) = true := decide_eq_true (by omega)
        have hr : racB l i j = false := racB_no (fun h => c2 (HA.out.2.1 h).2.1)
        have HV := Lib.hid hr
        clear hr c1 c2
        go_wp2_with fail
        go_ret
        exact ⟨ret_bool HV.out.symm, HX.out.2.2⟩
    · have d1 : decide (2 < xk) = true := decide_eq_true (by omega)
      have hr : racB l i j = false := racB_no (fun h => c1 (HA.out.2.1 h).1)
      have HV := Lib.hid hr
      clear hr c1
      go_wp2_with fail
      go_ret
      exact ⟨ret_bool HV.out.symm, HX.out.2.2⟩
end Go.Proofs.Ytggidakiflnhhaa
