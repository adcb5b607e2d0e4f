import Derived.Test.YthebembnlmddoaaAP
import Derived.Deep.RegionHeld3
import Derived.Deep.RegionHeldLaw
namespace Go.Proofs.Ythebembnlmddoaa
open Go.RowKit
set_option maxHeartbeats 16000000
set_option maxRecDepth 100000
set_option linter.unusedSimpArgs false
set_option linter.unusedVariables false

/-! ### the witness of a race -/
def wtB (l : List Ev) (i j x : Nat) : Bool := bfB l x i || bfB l x j
def wtA (l : List Ev) (i j m : Nat) : List Nat := (List.range m).filter (fun x => !(decide (x = i) || decide (x = j)) && wtB l i j x)
def wtC (l : List Ev) (i j m : Nat) : List Nat := (List.range m).filter (fun x => !(decide (x = i) || decide (x = j)) && !wtB l i j x)
def witL (l : List Ev) (i j : Nat) : List Nat := wtA l i j l.length ++ [i, j] ++ wtC l i j l.length
def raI (l : List Ev) (r1 r2 : Int) : Bool := decide (r1 < r2) && raB l r1.toNat r2.toNat
def witE (l : List Ev) (r1 r2 : Int) : Int := if chkF l = 0 then (if 0 ≤ r1 ∧ r1 < l.length ∧ 0 ≤ r2 ∧ r2 < l.length then (if raI l r1 r2 = true then 0 else 1) else 4) else chkF l
def WtPost (l : List Ev) (r1 r2 : Int) (w : World) (e : Ending) (w' : World) : Prop := ∃ v, e = .returned (.tuple #[v, .int .i64 (witE l r1 r2)]) ∧ Own encN 1 3 w' w.heap.size v (if witE l r1 r2 = 0 then witL l r1.toNat r2.toNat else []) ∧ Below w.heap.size w w'
theorem wt_succ (l : List Ev) (i j m : Nat) : wtA l i j (m + 1) = wtA l i j m ++ (if (!(decide (m = i) || decide (m = j)) && wtB l i j m) = true then [m] else []) ∧ wtC l i j (m + 1) = wtC l i j m ++ (if (!(decide (m = i) || decide (m = j)) && !wtB l i j m) = true then [m] else []) := by
  unfold wtA wtC
  rw [List.range_succ, List.filter_append, List.filter_append]
  constructor
  · congr 1
    by_cases h : (!(decide (m = i) || decide (m = j)) && wtB l i j m) = true
    · rw [if_pos h, List.filter_cons, if_pos h]; rfl
    · rw [if_neg h, List.filter_cons, if_neg h]; rfl
  · congr 1
    by_cases h : (!(decide (m = i) || decide (m = j)) && !wtB l i j m) = true
    · rw [if_pos h, List.filter_cons, if_pos h]; rfl
    · rw [if_neg h, List.filter_cons, if_neg h]; rfl
theorem own_NI {e : TypeId} {w : World} {b : Nat} {v : Value} {xs : List Nat} (h : Own encI 1 e w b v (xs.map (fun (x : Nat) => (x : Int)))) : Own encN 1 e w b v xs := by
  unfold Own at *
  rw [List.length_map, List.flatMap_map] at h
  exact h
theorem own_IN {e : TypeId} {w : World} {b : Nat} {v : Value} {xs : List Nat} (h : Own encN 1 e w b v xs) : Own encI 1 e w b v (xs.map (fun (x : Nat) => (x : Int))) := by
  unfold Own at *
  rw [List.length_map, List.flatMap_map]
  exact h
theorem two_new (w : World) (o1 o2 : Obj) : (((w.alloc o1).alloc o2).drew).heap[w.heap.size]? = some o1 ∧ (((w.alloc o1).alloc o2).drew).heap[w.heap.size + 1]? = some o2 ∧ Below w.heap.size w (((w.alloc o1).alloc o2).drew) := by
  refine ⟨?_, ?_, bb_drew (bb_al (bb_al (Below.refl _ _) (Nat.le_refl _) _) (Nat.le_refl _) _)⟩
  · show ((w.alloc o1).alloc o2).heap[w.heap.size]? = some o1
    rw [Below.heap_alloc _ _ _ (by simp)]; exact Go.heap_alloc_new w _
  · show ((w.alloc o1).alloc o2).heap[w.heap.size + 1]? = some o2
    have := Go.heap_alloc_new (w.alloc o1) o2
    simpa using this
theorem Own.nocap {α : Type} {enc : α → List Value} {sz : Nat} {e : TypeId} {w : World} {base : Nat} {A : Option Addr} {n c : Nat} {xs : List α} (h : Own enc sz e w base (.slice A n c) xs) (hA : A = Option.none) : c = 0 := by
  subst hA
  rcases h.2 with ⟨h1, _⟩ | ⟨g, cap, cur, h1, _⟩
  · cases h1; rfl
  · cases h1
/-- what the loop of Witness keeps -/
structure WI (l : List Ev) (i j m B : Nat) (w5 : World) (SA SC : Option Addr) (ca cc : Nat) (wr : World) : Prop where
  oa : Own encN 1 3 wr B (.slice SA (wtA l i j m).length ca) (wtA l i j m)
  oc : Own encN 1 3 wr B (.slice SC (wtC l i j m).length cc) (wtC l i j m)
  ap : Apt (.slice SA (wtA l i j m).length ca) (.slice SC (wtC l i j m).length cc)
  low : Below B w5 wr
theorem WI.rest {l : List Ev} {i j m B : Nat} {w5 wr w' : World} {SA SC : Option Addr} {ca cc : Nat} (h : WI l i j m B w5 SA SC ca cc wr) (hB : B ≤ wr.heap.size) (hb : Below wr.heap.size wr w') : WI l i j m B w5 SA SC ca cc w' :=
  ⟨h.oa.rest hb, h.oc.rest hb, h.ap, h.low.trans (hb.mono hB)⟩
theorem wt_lenA (l : List Ev) (i j m : Nat) : (wtA l i j m).length ≤ m := by unfold wtA; exact Nat.le_trans (List.length_filter_le _ _) (by simp)
theorem wt_lenC (l : List Ev) (i j m : Nat) : (wtC l i j m).length ≤ m := by unfold wtC; exact Nat.le_trans (List.length_filter_le _ _) (by simp)
theorem wt_sum (l : List Ev) (i j m : Nat) : (wtA l i j m).length + (wtC l i j m).length ≤ m := by
  induction m with
  | zero => simp [wtA, wtC]
  | succ m ih =>
    rw [(wt_succ l i j m).1, (wt_succ l i j m).2]
    cases h1 : (!(decide (m = i) || decide (m = j))) <;> cases h2 : wtB l i j m <;> simp <;> omega
theorem WI.skip {l : List Ev} {i j m B : Nat} {w5 wr : World} {SA SC : Option Addr} {ca cc : Nat} (h : WI l i j m B w5 SA SC ca cc wr) (he : m = i ∨ m = j) : WI l i j (m + 1) B w5 SA SC ca cc wr := by
  have e : (!(decide (m = i) || decide (m = j))) = false := by
    rcases he with rfl | rfl <;> simp
  have ha : wtA l i j (m + 1) = wtA l i j m := by rw [(wt_succ l i j m).1, e]; simp
  have hc : wtC l i j (m + 1) = wtC l i j m := by rw [(wt_succ l i j m).2, e]; simp
  have := h
  exact ⟨by rw [ha]; exact h.oa, by rw [hc]; exact h.oc, by rw [ha, hc]; exact h.ap, h.low⟩
theorem WI.ahead {l : List Ev} {i j m B : Nat} {w5 wr w' : World} {SA SC : Option Addr} {ca cc g cap : Nat} (h : WI l i j m B w5 SA SC ca cc wr) (hB : B ≤ wr.heap.size) (h1 : m ≠ i) (h2 : m ≠ j) (hb : wtB l i j m = true)
    (ho : Own encN 1 3 w' B (.slice (some ⟨g, 0, none⟩) ((wtA l i j m).length + 1) cap) (wtA l i j m ++ [m])) (hg : wr.grownBy w' (Value.slice SA (wtA l i j m).length ca).ownBlock) (hl : (Value.slice SA (wtA l i j m).length ca).ownBlock = some g ∨ g = wr.heap.size) :
    WI l i j (m + 1) B w5 (some ⟨g, 0, none⟩) SC cap cc w' := by
  have e : (!(decide (m = i) || decide (m = j))) = true := by simp [h1, h2]
  have ha : wtA l i j (m + 1) = wtA l i j m ++ [m] := by rw [(wt_succ l i j m).1, e, hb]; simp
  have hc : wtC l i j (m + 1) = wtC l i j m := by rw [(wt_succ l i j m).2, e, hb]; simp
  have hbs := h.oc.beside (n := (wtA l i j m).length + 1) (c := cap) h.ap hg hl
  refine ⟨?_, ?_, ?_, h.low.grown hg hB (fun b hb => (h.oa.blk b hb).1)⟩
  · rw [ha, List.length_append]; exact ho
  · rw [hc]; exact hbs.1
  · rw [ha, hc, List.length_append]; exact hbs.2
theorem WI.behind {l : List Ev} {i j m B : Nat} {w5 wr w' : World} {SA SC : Option Addr} {ca cc g cap : Nat} (h : WI l i j m B w5 SA SC ca cc wr) (hB : B ≤ wr.heap.size) (h1 : m ≠ i) (h2 : m ≠ j) (hb : wtB l i j m = false)
    (ho : Own encN 1 3 w' B (.slice (some ⟨g, 0, none⟩) ((wtC l i j m).length + 1) cap) (wtC l i j m ++ [m])) (hg : wr.grownBy w' (Value.slice SC (wtC l i j m).length cc).ownBlock) (hl : (Value.slice SC (wtC l i j m).length cc).ownBlock = some g ∨ g = wr.heap.size) :
    WI l i j (m + 1) B w5 SA (some ⟨g, 0, none⟩) ca cap w' := by
  have e : (!(decide (m = i) || decide (m = j))) = true := by simp [h1, h2]
  have ha : wtA l i j (m + 1) = wtA l i j m := by rw [(wt_succ l i j m).1, e, hb]; simp
  have hc : wtC l i j (m + 1) = wtC l i j m ++ [m] := by rw [(wt_succ l i j m).2, e, hb]; simp
  have hbs := h.oa.beside (n := (wtC l i j m).length + 1) (c := cap) h.ap.symm hg hl
  refine ⟨?_, ?_, ?_, h.low.grown hg hB (fun b hb => (h.oc.blk b hb).1)⟩
  · rw [ha]; exact hbs.1
  · rw [hc, List.length_append]; exact ho
  · rw [ha, hc, List.length_append]; exact hbs.2.symm
theorem before_callsB (l : List Ev) (hok : ∀ e ∈ l, e.ok) (i j : Nat) (hi : i < l.length) (hj : j < l.length) (A : Option Addr) (c cb base : Nat) (w : World) (hA : Rd encE 11 w A l) (hC : Ck w base A c l cb) :
    Calls Try.prog 44 #[.pointer (some ⟨cb, 0, none⟩), .int .i64 (i : Int), .int .i64 (j : Int)] w fun e w' => e = .returned (.bool (bfB l i j)) ∧ Below w.heap.size w w' :=
  (before_calls l hok i j hi hj A c cb base w hA hC).mono (fun e w' h => ⟨h.1, by obtain ⟨n, h2⟩ := h.2; rw [h2]; exact drewN_below (Below.refl _ _) n⟩)
theorem witness_calls (l : List Ev) (hok : ∀ e ∈ l, e.ok) (h80 : l.length ≤ 80) (r1 r2 : Int) (A : Option Addr) (c : Nat) (w : World) (hA : Rd encE 11 w A l) :
    Calls Try.prog 35 #[.slice A l.length c, .agg #[.int .i64 r1, .int .i64 r2]] w (WtPost l r1 r2 w) := by
  have hsm := hA.small
  obtain ⟨W1, hW1⟩ : ∃ W1, w.alloc (.cells #[.int .i64 r1, .int .i64 r2] 29) = W1 := ⟨_, rfl⟩
  have hb1 : Below w.heap.size w W1 := by rw [← hW1]; exact (Below.refl _ w).alloc (Nat.le_refl _) _
  have hbx : W1.heap[w.heap.size]? = some (.cells #[.int .i64 r1, .int .i64 r2] 29 (0, 0)) := by rw [← hW1]; exact Go.heap_alloc_new w _
  have hck := check_calls l hok A c W1 (hA.below hb1)
  obtain ⟨bx, hbx0⟩ : ∃ bx, w.heap.size = bx := ⟨_, rfl⟩
  have HC := Lib.hid hck
  have HR := Lib.hid (And.intro hA hok)
  have HW := Lib.hid (And.intro hW1 hbx0)
  have HX := Lib.hid (And.intro hb1 (by rw [hbx0] at hbx; exact hbx : W1.heap[bx]? = some (.cells #[.int .i64 r1, .int .i64 r2] 29 (0, 0))))
  clear hA hok hck hW1 hbx0 hb1 hbx
  go_enter Try.func35, Try.ntmps35
  go_upto_region 1 with fail
  rw [HW.out.1, HW.out.2]
  go_wp2_with fail
  (with_reducible refine (HC.out).mono ?_); rintro e w2 ⟨rfl, hb2⟩
  have hlo2 := HX.out.1.trans (hb2.mono HX.out.1.size)
  have hbx2 := (hb2.block _ (Array.getElem?_eq_some_iff.1 HX.out.2).1).trans HX.out.2
  have H2 := Lib.hid (And.intro hlo2 hbx2)
  clear hb2 hlo2 hbx2
  by_cases hk : chkF l = 0
  · have hkc : (chkF l != 0) = false := by rw [bne_eq_false_iff_eq]; exact hk
    have HK := Lib.hid (And.intro hk (chk_zero l hk))
    clear hk
    have y0 := cell_of_row _ bx 0 _ _ _ H2.out.2
    have y1 := cell_of_row _ bx 1 _ _ _ H2.out.2
    simp at y0 y1
    by_cases hin : 0 ≤ r1 ∧ r1 < (l.length : Int) ∧ 0 ≤ r2 ∧ r2 < (l.length : Int)
    · obtain ⟨i, rfl⟩ : ∃ i : Nat, r1 = (i : Int) := ⟨r1.toNat, by omega⟩
      obtain ⟨j, rfl⟩ : ∃ j : Nat, r2 = (j : Int) := ⟨r2.toNat, by omega⟩
      have hil : i < l.length := by omega
      have hjl : j < l.length := by omega
      have d1 : decide ((i : Int) < 0) = false := decide_eq_false (by omega)
      have d2 : decide ((j : Int) < 0) = false := decide_eq_false (by omega)
      have d3 : decide (l.length ≤ i) = false := decide_eq_false (by omega)
      have d4 : decide (l.length ≤ j) = false := decide_eq_false (by omega)
      have hii : (i : Int) < (l.length : Int) := by omega
      have hjj : (j : Int) < (l.length : Int) := by omega
      have hnc := newClocks_calls l HR.out.2 (rtB_fm l HK.out.2.2) HK.out.2.1 A c w2 (HR.out.1.below (by rw [HW.out.2]; have := H2.out.1; rw [HW.out.2] at this; exact this))
      have HN := Lib.hid hnc
      clear hnc hin
      go_upto_region 7 with ((with_reducible refine (HN.out).mono ?_); rintro e w3 ⟨cb, rfl, hCk, hb3⟩)
      have hlo3 := H2.out.1.trans (hb3.mono H2.out.1.size)
      have hbx3 := (hb3.block _ (Array.getElem?_eq_some_iff.1 H2.out.2).1).trans H2.out.2
      have hR3 := HR.out.1.below hlo3
      cases A with
      | none =>
        exfalso
        obtain ⟨a, ha, _⟩ := hR3.cell i hil
        cases ha
      | some a =>
      have hci := ev_cells hR3 i hil
      have hcj := ev_cells hR3 j hjl
      rw [← evA_eq l i hil] at hci
      rw [← evA_eq l j hjl] at hcj
      have z0 := cell_of_row _ bx 0 _ _ _ hbx3
      have z1 := cell_of_row _ bx 1 _ _ _ hbx3
      simp at z0 z1
      have H3 := Lib.hid (And.intro hlo3 (And.intro hbx3 (And.intro hR3 (And.intro hci (And.intro hcj hCk)))))
      obtain ⟨ei, hei⟩ : ∃ e, evA l i = e := ⟨_, rfl⟩
      obtain ⟨ej, hej⟩ : ∃ e, evA l j = e := ⟨_, rfl⟩
      rw [hei, hej] at H3
      clear hb3 hlo3 hbx3 hR3 hCk y0 y1
      rw [hei] at hci
      rw [hej] at hcj
      have hS : ∀ w', Below w3.heap.size w3 w' → (w'.cell? ⟨bx, 0, none⟩ = some (.int .i64 (i : Int)) ∧ w'.cell? ⟨bx, 1, none⟩ = some (.int .i64 (j : Int)) ∧ w'.cell? (a.add (i * 11)) = some (.int .i64 ei.k) ∧ w'.cell? ⟨(a.add (i * 11)).block, (a.add (i * 11)).off + 1, none⟩ = some (.int .i64 ei.t) ∧ w'.cell? ⟨(a.add (i * 11)).block, (a.add (i * 11)).off + 2, none⟩ = some (.int .i64 ei.p) ∧ w'.cell? ⟨(a.add (i * 11)).block, (a.add (i * 11)).off + 3, none⟩ = some (.int .i64 ei.q) ∧ w'.cell? ⟨(a.add (i * 11)).block, (a.add (i * 11)).off + 4, none⟩ = some (.int .i64 ei.r) ∧ w'.cell? ⟨(a.add (i * 11)).block, (a.add (i * 11)).off + 5, none⟩ = some (.int .i64 ei.m) ∧ w'.cell? ⟨(a.add (i * 11)).block, (a.add (i * 11)).off + 6, none⟩ = some (.int .i64 ei.f) ∧ w'.cell? ⟨(a.add (i * 11)).block, (a.add (i * 11)).off + 7, none⟩ = some (.int .i64 ei.a) ∧ w'.cell? ⟨(a.add (i * 11)).block, (a.add (i * 11)).off + 8, none⟩ = some (.int .i64 ei.o) ∧ w'.cell? ⟨(a.add (i * 11)).block, (a.add (i * 11)).off + 9, none⟩ = some (.int .i64 ei.x) ∧ w'.cell? ⟨(a.add (i * 11)).block, (a.add (i * 11)).off + 10, none⟩ = some (.int .i64 ei.y) ∧ w'.cell? (a.add (j * 11)) = some (.int .i64 ej.k) ∧ w'.cell? ⟨(a.add (j * 11)).block, (a.add (j * 11)).off + 1, none⟩ = some (.int .i64 ej.t) ∧ w'.cell? ⟨(a.add (j * 11)).block, (a.add (j * 11)).off + 2, none⟩ = some (.int .i64 ej.p) ∧ w'.cell? ⟨(a.add (j * 11)).block, (a.add (j * 11)).off + 3, none⟩ = some (.int .i64 ej.q) ∧ w'.cell? ⟨(a.add (j * 11)).block, (a.add (j * 11)).off + 4, none⟩ = some (.int .i64 ej.r) ∧ w'.cell? ⟨(a.add (j * 11)).block, (a.add (j * 11)).off + 5, none⟩ = some (.int .i64 ej.m) ∧ w'.cell? ⟨(a.add (j * 11)).block, (a.add (j * 11)).off + 6, none⟩ = some (.int .i64 ej.f) ∧ w'.cell? ⟨(a.add (j * 11)).block, (a.add (j * 11)).off + 7, none⟩ = some (.int .i64 ej.a) ∧ w'.cell? ⟨(a.add (j * 11)).block, (a.add (j * 11)).off + 8, none⟩ = some (.int .i64 ej.o) ∧ w'.cell? ⟨(a.add (j * 11)).block, (a.add (j * 11)).off + 9, none⟩ = some (.int .i64 ej.x) ∧ w'.cell? ⟨(a.add (j * 11)).block, (a.add (j * 11)).off + 10, none⟩ = some (.int .i64 ej.y)) := fun w' hb => by
        have kc := fun (p : Addr) (v : Value) (h : w3.cell? p = some v) => (hb.cell (World.block_lt_of_cell? _ _ h)).trans h
        obtain ⟨p0, p1, p2, p3, p4, p5, p6, p7, p8, p9, p10⟩ := ev_eleven hci
        obtain ⟨q0, q1, q2, q3, q4, q5, q6, q7, q8, q9, q10⟩ := ev_eleven hcj
        exact ⟨kc _ _ z0, kc _ _ z1, kc _ _ p0, kc _ _ p1, kc _ _ p2, kc _ _ p3, kc _ _ p4, kc _ _ p5, kc _ _ p6, kc _ _ p7, kc _ _ p8, kc _ _ p9, kc _ _ p10, kc _ _ q0, kc _ _ q1, kc _ _ q2, kc _ _ q3, kc _ _ q4, kc _ _ q5, kc _ _ q6, kc _ _ q7, kc _ _ q8, kc _ _ q9, kc _ _ q10⟩
      have HSK := Lib.hid hS
      clear hS hci hcj z0 z1
      go_cut [8, 9] (fun s8 s9 wx => ∃ b8 b9, s8 = .pointer (some ⟨b8, 0, none⟩) ∧ s9 = .pointer (some ⟨b9, 0, none⟩) ∧ wx.heap[b8]? = some (.cells ei.cells 42 (0, 0)) ∧ wx.heap[b9]? = some (.cells ej.cells 42 (0, 0)) ∧ Below w3.heap.size w3 wx)
      case first =>
        go_region_held3 (fun w' => w'.cell? ⟨bx, 0, none⟩ = some (.int .i64 (i : Int)) ∧ w'.cell? ⟨bx, 1, none⟩ = some (.int .i64 (j : Int)) ∧ w'.cell? (a.add (i * 11)) = some (.int .i64 ei.k) ∧ w'.cell? ⟨(a.add (i * 11)).block, (a.add (i * 11)).off + 1, none⟩ = some (.int .i64 ei.t) ∧ w'.cell? ⟨(a.add (i * 11)).block, (a.add (i * 11)).off + 2, none⟩ = some (.int .i64 ei.p) ∧ w'.cell? ⟨(a.add (i * 11)).block, (a.add (i * 11)).off + 3, none⟩ = some (.int .i64 ei.q) ∧ w'.cell? ⟨(a.add (i * 11)).block, (a.add (i * 11)).off + 4, none⟩ = some (.int .i64 ei.r) ∧ w'.cell? ⟨(a.add (i * 11)).block, (a.add (i * 11)).off + 5, none⟩ = some (.int .i64 ei.m) ∧ w'.cell? ⟨(a.add (i * 11)).block, (a.add (i * 11)).off + 6, none⟩ = some (.int .i64 ei.f) ∧ w'.cell? ⟨(a.add (i * 11)).block, (a.add (i * 11)).off + 7, none⟩ = some (.int .i64 ei.a) ∧ w'.cell? ⟨(a.add (i * 11)).block, (a.add (i * 11)).off + 8, none⟩ = some (.int .i64 ei.o) ∧ w'.cell? ⟨(a.add (i * 11)).block, (a.add (i * 11)).off + 9, none⟩ = some (.int .i64 ei.x) ∧ w'.cell? ⟨(a.add (i * 11)).block, (a.add (i * 11)).off + 10, none⟩ = some (.int .i64 ei.y) ∧ w'.cell? (a.add (j * 11)) = some (.int .i64 ej.k) ∧ w'.cell? ⟨(a.add (j * 11)).block, (a.add (j * 11)).off + 1, none⟩ = some (.int .i64 ej.t) ∧ w'.cell? ⟨(a.add (j * 11)).block, (a.add (j * 11)).off + 2, none⟩ = some (.int .i64 ej.p) ∧ w'.cell? ⟨(a.add (j * 11)).block, (a.add (j * 11)).off + 3, none⟩ = some (.int .i64 ej.q) ∧ w'.cell? ⟨(a.add (j * 11)).block, (a.add (j * 11)).off + 4, none⟩ = some (.int .i64 ej.r) ∧ w'.cell? ⟨(a.add (j * 11)).block, (a.add (j * 11)).off + 5, none⟩ = some (.int .i64 ej.m) ∧ w'.cell? ⟨(a.add (j * 11)).block, (a.add (j * 11)).off + 6, none⟩ = some (.int .i64 ej.f) ∧ w'.cell? ⟨(a.add (j * 11)).block, (a.add (j * 11)).off + 7, none⟩ = some (.int .i64 ej.a) ∧ w'.cell? ⟨(a.add (j * 11)).block, (a.add (j * 11)).off + 8, none⟩ = some (.int .i64 ej.o) ∧ w'.cell? ⟨(a.add (j * 11)).block, (a.add (j * 11)).off + 9, none⟩ = some (.int .i64 ej.x) ∧ w'.cell? ⟨(a.add (j * 11)).block, (a.add (j * 11)).off + 10, none⟩ = some (.int .i64 ej.y)) (first | with_reducible exact HSK.out _ (Below.refl _ _) | with_reducible exact HSK.out _ (bb_drew (Below.refl _ _)) | with_reducible exact HSK.out _ (bb_al (bb_drew (Below.refl _ _)) (Nat.le_refl _) _) | with_reducible exact HSK.out _ (bb_al (bb_al (bb_drew (Below.refl _ _)) (Nat.le_refl _) _) (by simp) _) | fail) (fail)
        all_goals (
          go_wp2_with fail
          go_meet
          first
          | (have h := two_new w3 (.cells ei.cells 42) (.cells ej.cells 42); exact ⟨_, _, rfl, rfl, h.1, h.2.1, h.2.2⟩)
          | (have h := two_new w3 (.cells ej.cells 42) (.cells ei.cells 42); exact ⟨_, _, rfl, rfl, h.2.1, h.1, h.2.2⟩))
      case rest =>
        obtain ⟨b8, b9, rfl, rfl, h8, h9, hbc⟩ := hcut
        have hbx4 := (hbc.block bx (Array.getElem?_eq_some_iff.1 H3.out.2.1).1).trans H3.out.2.1
        have hlo4 := H3.out.1.trans (hbc.mono H3.out.1.size)
        have hR4 := H3.out.2.2.1.below hbc
        have hC4 := H3.out.2.2.2.2.2.rest hbc
        have a0 := cell_of_row _ b8 0 _ _ _ h8
        have a1 := cell_of_row _ b8 1 _ _ _ h8
        have a2 := cell_of_row _ b8 2 _ _ _ h8
        have a3 := cell_of_row _ b8 3 _ _ _ h8
        have a4 := cell_of_row _ b8 4 _ _ _ h8
        have a5 := cell_of_row _ b8 5 _ _ _ h8
        have a6 := cell_of_row _ b8 6 _ _ _ h8
        have a7 := cell_of_row _ b8 7 _ _ _ h8
        have e0 := cell_of_row _ b9 0 _ _ _ h9
        have e1 := cell_of_row _ b9 1 _ _ _ h9
        have e2 := cell_of_row _ b9 2 _ _ _ h9
        have e3 := cell_of_row _ b9 3 _ _ _ h9
        have e4 := cell_of_row _ b9 4 _ _ _ h9
        have e5 := cell_of_row _ b9 5 _ _ _ h9
        have e6 := cell_of_row _ b9 6 _ _ _ h9
        have e7 := cell_of_row _ b9 7 _ _ _ h9
        simp at a0 a1 a2 a3 a4 a5 a6 a7 e0 e1 e2 e3 e4 e5 e6 e7
        have y0 := cell_of_row _ bx 0 _ _ _ hbx4
        have y1 := cell_of_row _ bx 1 _ _ _ hbx4
        simp at y0 y1
        have hwe : witE l (i : Int) (j : Int) = if (decide (i < j) && (decide (ei.k = 1) && decide (ej.k = 1) && cfB ei ej && !bfB l i j)) = true then 0 else 1 := by
          unfold witE raI raB
          rw [if_pos HK.out.1, if_pos ⟨by omega, by omega, by omega, by omega⟩]
          simp only [Int.toNat_natCast, hei, hej]
          have : decide ((i : Int) < (j : Int)) = decide (i < j) := by
            by_cases h : i < j
            · rw [decide_eq_true h, decide_eq_true (by omega)]
            · rw [decide_eq_false h, decide_eq_false (by omega)]
          rw [this]
        have H4 := Lib.hid (And.intro hlo4 (And.intro hbx4 (And.intro hR4 (And.intro hC4 hwe))))
        clear hbx4 hlo4 hR4 hC4 h8 h9 hbc hwe
        go_upto_region 8 with fail
        go_cut [82] (fun s82 wx => s82 = .bool (!(decide (i < j) && (decide (ei.k = 1) && decide (ej.k = 1) && cfB ei ej && !bfB l i j))) ∧ Below wc.heap.size wc wx)
        case first =>
          by_cases hij : i < j
          · have d5 : decide (j ≤ i) = false := decide_eq_false (by omega)
            have d6 : decide ((j : Int) ≤ (i : Int)) = false := decide_eq_false (by omega)
            have f1 : decide (i < j) = true := decide_eq_true hij
            by_cases h1 : ei.k = 1
            · have g1 : (ei.k != 1) = false := by simpa using h1
              have f2 : decide (ei.k = 1) = true := decide_eq_true h1
              by_cases h2 : ej.k = 1
              · have g2 : (ej.k != 1) = false := by simpa using h2
                have f3 : decide (ej.k = 1) = true := decide_eq_true h2
                have hcf := conflict_calls ei ej wc
                have HCF := Lib.hid hcf
                have HF := Lib.hid (And.intro f1 (And.intro f2 f3))
                clear hcf h1 h2 hij f1 f2 f3
                cases hc : cfB ei ej with
                | false =>
                  rw [hc] at HCF
                  have HH := Lib.hid hc
                  clear hc
                  go_wp2_with ((with_reducible refine (HCF.out).mono ?_); rintro e w5 ⟨rfl, hb5⟩)
                  go_meet
                  exact ⟨by rw [HH.out]; simp, hb5⟩
                | true =>
                  rw [hc] at HCF
                  have HH := Lib.hid hc
                  clear hc
                  go_wp2_with fail
                  (with_reducible refine (HCF.out).mono ?_); rintro e w5 ⟨rfl, hb5⟩
                  have hbf := before_calls l HR.out.2 i j hil hjl (some a) c cb _ w5 (H4.out.2.2.1.below hb5) (H4.out.2.2.2.1.rest hb5)
                  have HBF := Lib.hid hbf
                  have y0 := (hb5.cell (World.block_lt_of_cell? _ _ y0)).trans y0
                  have y1 := (hb5.cell (World.block_lt_of_cell? _ _ y1)).trans y1
                  have HB5 := Lib.hid hb5
                  clear hbf hb5
                  go_wp2_with ((with_reducible refine (HBF.out).mono ?_); rintro e w6 ⟨rfl, nq, rfl⟩)
                  go_meet
                  exact ⟨by rw [HF.out.1, HF.out.2.1, HF.out.2.2, HH.out]; simp, drewN_below HB5.out _⟩
              · have g2 : (ej.k != 1) = true := by simpa using h2
                have f3 : decide (ej.k = 1) = false := decide_eq_false h2
                clear h1 h2 hij
                go_wp2_with fail
                go_meet
                exact ⟨by rw [f3]; simp, Below.refl _ _⟩
            · have g1 : (ei.k != 1) = true := by simpa using h1
              have f2 : decide (ei.k = 1) = false := decide_eq_false h1
              clear h1 hij
              go_wp2_with fail
              go_meet
              exact ⟨by rw [f2]; simp, Below.refl _ _⟩
          · have d5 : decide (j ≤ i) = true := decide_eq_true (by omega)
            have d6 : decide ((j : Int) ≤ (i : Int)) = true := decide_eq_true (by omega)
            have f1 : decide (i < j) = false := decide_eq_false hij
            clear hij
            go_wp2_with fail
            go_meet
            exact ⟨by rw [f1]; simp, Below.refl _ _⟩
        case rest =>
          obtain ⟨rfl, hb5⟩ := hcut
          have hlo5 := H4.out.1.trans (hb5.mono H4.out.1.size)
          have hbx5 := (hb5.block bx (Array.getElem?_eq_some_iff.1 H4.out.2.1).1).trans H4.out.2.1
          have hR5 := H4.out.2.2.1.below hb5
          have hC5 := H4.out.2.2.2.1.rest hb5
          have hwe := H4.out.2.2.2.2
          obtain ⟨rc, hrc⟩ : ∃ rc, (decide (i < j) && (decide (ei.k = 1) && decide (ej.k = 1) && cfB ei ej && !bfB l i j)) = rc := ⟨_, rfl⟩
          rw [hrc] at hwe
          rw [hrc]
          obtain ⟨w5, hw5⟩ : ∃ w5, wc = w5 := ⟨_, rfl⟩
          subst hw5
          clear hrc hb5 a0 a1 a2 a3 a4 a5 a6 a7 e0 e1 e2 e3 e4 e5 e6 e7
          have H5 := Lib.hid (And.intro hlo5 (And.intro hbx5 (And.intro hR5 (And.intro hC5 hwe))))
          clear hlo5 hbx5 hR5 hC5 hwe y0 y1
          cases rc with
          | false =>
            go_wp2_with fail
            go_ret2
            refine ⟨_, by rw [H5.out.2.2.2.2]; rfl, ?_, H5.out.1⟩
            rw [H5.out.2.2.2.2]
            exact World.ownsRow_nil _ _ _ _
          | true =>
            go_upto_region 12 with fail
            go_wp2_with fail
            obtain ⟨B5, hB5⟩ : ∃ B5, wc.heap.size = B5 := ⟨_, rfl⟩
            have HB5 := Lib.hid hB5
            clear hB5
            go_loopg [10, 11, 12, 85, 86, 87, 88, 89, 90, 91, 92, 93, 94, 95, 96, 97, 98, 99, 100, 101, 102, 103, 104, 105, 106, 107, 108, 109, 110, 111, 112, 113, 114, 115, 116, 117, 118, 119, 120] l.length (fun gk v10 v11 v12 v85 v86 v87 v88 v89 v90 v91 v92 v93 v94 v95 v96 v97 v98 v99 v100 v101 v102 v103 v104 v105 v106 v107 v108 v109 v110 v111 v112 v113 v114 v115 v116 v117 v118 v119 v120 wr => ∃ (k : Nat) (SA SC : Option Addr) (ca cc : Nat), k + gk = l.length ∧ v85 = .int .i64 (k : Int) ∧ v10 = .slice SA (wtA l i j k).length ca ∧ v11 = .slice SC (wtC l i j k).length cc ∧ WI l i j k B5 wc SA SC ca cc wr)
            case atStart => exact ⟨0, none, none, 0, 0, by omega, rfl, rfl, rfl, World.ownsRow_nil _ _ _ _, World.ownsRow_nil _ _ _ _, Apt.none _, Below.refl _ _⟩
            case round =>
              obtain ⟨k, SA, SC, ca, cc, hk, rfl, rfl, rfl, hwi⟩ := hrel
              obtain ⟨wo, hwo⟩ : ∃ wo, wo = wr := ⟨_, rfl⟩
              subst hwo
              have hszo : B5 ≤ wo.heap.size := by have := hwi.low.size; have := HB5.out; omega
              have hlw : Below wc.heap.size wc wo := by rw [HB5.out]; exact hwi.low
              have hbx6 := (hlw.block bx (Array.getElem?_eq_some_iff.1 H5.out.2.1).1).trans H5.out.2.1
              have y0 := cell_of_row _ bx 0 _ _ _ hbx6
              have y1 := cell_of_row _ bx 1 _ _ _ hbx6
              simp at y0 y1
              by_cases hkl : k < l.length
              · have hd : decide (k < l.length) = true := decide_eq_true hkl
                have HZ0 := Lib.hid (And.intro hwi hszo)
                by_cases hki : k = i
                · have g1 : (k == i) = true := by simpa using hki
                  have g2 : ((k : Int) == (i : Int)) = true := by rw [beq_iff_eq]; omega
                  have HKI := Lib.hid hki
                  clear hki hwi hszo hlw hbx6
                  go_wp2_with fail
                  go_roundg (gk - 1)
                  case measure => omega
                  case rel =>
                    have h9 := HZ0.out.1.skip (.inl HKI.out)
                    exact ⟨k + 1, _, _, _, _, by omega, by go_num, by rw [(wt_succ l i j k).1, HKI.out]; simp, by rw [(wt_succ l i j k).2, HKI.out]; simp, h9⟩
                · have g1 : (k == i) = false := by simpa using hki
                  have g2 : ((k : Int) == (i : Int)) = false := by rw [beq_eq_false_iff_ne]; omega
                  by_cases hkj : k = j
                  · have g3 : (k == j) = true := by simpa using hkj
                    have g4 : ((k : Int) == (j : Int)) = true := by rw [beq_iff_eq]; omega
                    have HKI := Lib.hid hkj
                    clear hki hkj hwi hszo hlw hbx6
                    go_wp2_with fail
                    go_roundg (gk - 1)
                    case measure => omega
                    case rel =>
                      have h9 := HZ0.out.1.skip (.inr HKI.out)
                      exact ⟨k + 1, _, _, _, _, by omega, by go_num, by rw [(wt_succ l i j k).1, HKI.out]; simp, by rw [(wt_succ l i j k).2, HKI.out]; simp, h9⟩
                  · have g3 : (k == j) = false := by simpa using hkj
                    have g4 : ((k : Int) == (j : Int)) = false := by rw [beq_eq_false_iff_ne]; omega
                    have hbf := before_callsB l HR.out.2 k i hkl hil (some a) c cb _ wo (H5.out.2.2.1.below hlw) (H5.out.2.2.2.1.rest hlw)
                    have HBF := Lib.hid hbf
                    have HK := Lib.hid (And.intro hki hkj)
                    have HLW := Lib.hid (And.intro hlw hbx6)
                    clear hki hkj hwi hszo hlw hbx6 hbf
                    cases hb1 : bfB l k i with
                    | true =>
                      rw [hb1] at HBF
                      have HBT := Lib.hid (show wtB l i j k = true by unfold wtB; rw [hb1]; rfl)
                      have HWB := Lib.hid (And.intro (show (!(decide (k = i) || decide (k = j))) = true by simp [HK.out.1, HK.out.2]) hb1)
                      clear hb1
                      go_upto_region 17 with ((with_reducible refine (HBF.out).mono ?_); rintro e w6 ⟨rfl, hb6⟩)
                      have HZ := Lib.hid (And.intro (HZ0.out.1.rest HZ0.out.2 hb6) (Nat.le_trans HZ0.out.2 hb6.size))
                      clear hb6
                      have hb7 : Below w6.heap.size w6 (w6.alloc (.cells #[.int .i64 (k : Int)] 3)) := (Below.refl _ _).alloc (Nat.le_refl _) _
                      have HY := Lib.hid (And.intro (HZ.out.1.rest HZ.out.2 hb7) (And.intro (Nat.le_trans HZ.out.2 hb7.size) (show ((wtA l i j k).length + 1) * 8 ≤ 140737488355328 by have := wt_lenA l i j k; omega)))
                      clear hb7
                      go_wp2_with (at_builtin; go_must (refine wpList_append_told lenN oneN _ rfl (.tmp 116) (.tmp 118) 33 rfl B5 3 _ 8 Try.underlying33 info3 rfl (by decide) (by decide) (.slice SA (wtA l i j k).length ca) (wtA l i j k) (wtA l i j k).length rfl rfl HY.out.1.oa ⟨w6.heap.size, 0, none⟩ 1 1 [k] rfl rfl (by decide) (rd_one encN 1 _ k 3 _ rfl _ rfl) HY.out.2.2 HY.out.2.1 ?_); intro g3 cap3 w7 hown7 hgr7 hl7; have HGG := Lib.hid (And.intro hown7 (And.intro hgr7 hl7)); clear hown7 hgr7 hl7)
                      go_roundg (gk - 1)
                      case measure => omega
                      case rel =>
                        have h9 := HY.out.1.ahead HY.out.2.1 HK.out.1 HK.out.2 HBT.out HGG.out.1 HGG.out.2.1 HGG.out.2.2
                        exact ⟨k + 1, some ⟨g3, 0, none⟩, SC, cap3, cc, by omega, by go_num, by rw [(wt_succ l i j k).1, HWB.out.1, HBT.out]; simp, by rw [(wt_succ l i j k).2, HWB.out.1, HBT.out]; simp, h9⟩
                    | false =>
                      rw [hb1] at HBF
                      have hb1' := hb1
                      have HB1 := Lib.hid hb1'
                      clear hb1 hb1'
                      go_upto_region 16 with fail
                      go_wp2_with fail
                      (with_reducible refine (HBF.out).mono ?_); rintro e w6 ⟨rfl, hb6⟩
                      have hlw6 := HLW.out.1.trans (hb6.mono HLW.out.1.size)
                      have hbf2 := before_callsB l HR.out.2 k j hkl hjl (some a) c cb _ w6 (H5.out.2.2.1.below hlw6) (H5.out.2.2.2.1.rest hlw6)
                      have y1 := (hb6.cell (World.block_lt_of_cell? _ _ y1)).trans y1
                      have HBF2 := Lib.hid hbf2
                      have HZ1 := Lib.hid (And.intro (HZ0.out.1.rest HZ0.out.2 hb6) (Nat.le_trans HZ0.out.2 hb6.size))
                      clear hb6 hlw6 hbf2
                      cases hb2 : bfB l k j with
                      | true =>
                        rw [hb2] at HBF2
                        have HBT := Lib.hid (show wtB l i j k = true by unfold wtB; rw [hb2]; simp)
                        have HWB := Lib.hid (And.intro (show (!(decide (k = i) || decide (k = j))) = true by simp [HK.out.1, HK.out.2]) hb2)
                        clear hb2
                        go_upto_region 17 with ((with_reducible refine (HBF2.out).mono ?_); rintro e w8 ⟨rfl, hb8⟩)
                        have HZ := Lib.hid (And.intro (HZ1.out.1.rest HZ1.out.2 hb8) (Nat.le_trans HZ1.out.2 hb8.size))
                        clear hb8
                        have hb7 : Below w8.heap.size w8 (w8.alloc (.cells #[.int .i64 (k : Int)] 3)) := (Below.refl _ _).alloc (Nat.le_refl _) _
                        have HY := Lib.hid (And.intro (HZ.out.1.rest HZ.out.2 hb7) (And.intro (Nat.le_trans HZ.out.2 hb7.size) (show ((wtA l i j k).length + 1) * 8 ≤ 140737488355328 by have := wt_lenA l i j k; omega)))
                        clear hb7
                        go_wp2_with (at_builtin; go_must (refine wpList_append_told lenN oneN _ rfl (.tmp 116) (.tmp 118) 33 rfl B5 3 _ 8 Try.underlying33 info3 rfl (by decide) (by decide) (.slice SA (wtA l i j k).length ca) (wtA l i j k) (wtA l i j k).length rfl rfl HY.out.1.oa ⟨w8.heap.size, 0, none⟩ 1 1 [k] rfl rfl (by decide) (rd_one encN 1 _ k 3 _ rfl _ rfl) HY.out.2.2 HY.out.2.1 ?_); intro g3 cap3 w7 hown7 hgr7 hl7; have HGG := Lib.hid (And.intro hown7 (And.intro hgr7 hl7)); clear hown7 hgr7 hl7)
                        go_roundg (gk - 1)
                        case measure => omega
                        case rel =>
                          have h9 := HY.out.1.ahead HY.out.2.1 HK.out.1 HK.out.2 HBT.out HGG.out.1 HGG.out.2.1 HGG.out.2.2
                          exact ⟨k + 1, some ⟨g3, 0, none⟩, SC, cap3, cc, by omega, by go_num, by rw [(wt_succ l i j k).1, HWB.out.1, HBT.out]; simp, by rw [(wt_succ l i j k).2, HWB.out.1, HBT.out]; simp, h9⟩
                      | false =>
                        rw [hb2] at HBF2
                        have HBT := Lib.hid (show wtB l i j k = false by unfold wtB; rw [hb2, HB1.out]; rfl)
                        have HWB := Lib.hid (And.intro (show (!(decide (k = i) || decide (k = j))) = true by simp [HK.out.1, HK.out.2]) hb2)
                        clear hb2
                        go_upto_region 14 with ((with_reducible refine (HBF2.out).mono ?_); rintro e w8 ⟨rfl, hb8⟩)
                        have HZ := Lib.hid (And.intro (HZ1.out.1.rest HZ1.out.2 hb8) (Nat.le_trans HZ1.out.2 hb8.size))
                        clear hb8
                        have hb7 : Below w8.heap.size w8 (w8.alloc (.cells #[.int .i64 (k : Int)] 3)) := (Below.refl _ _).alloc (Nat.le_refl _) _
                        have HY := Lib.hid (And.intro (HZ.out.1.rest HZ.out.2 hb7) (And.intro (Nat.le_trans HZ.out.2 hb7.size) (show ((wtC l i j k).length + 1) * 8 ≤ 140737488355328 by have := wt_lenC l i j k; omega)))
                        clear hb7
                        go_wp2_with (at_builtin; go_must (refine wpList_append_told lenN oneN _ rfl (.tmp 88) (.tmp 90) 33 rfl B5 3 _ 8 Try.underlying33 info3 rfl (by decide) (by decide) (.slice SC (wtC l i j k).length cc) (wtC l i j k) (wtC l i j k).length rfl rfl HY.out.1.oc ⟨w8.heap.size, 0, none⟩ 1 1 [k] rfl rfl (by decide) (rd_one encN 1 _ k 3 _ rfl _ rfl) HY.out.2.2 HY.out.2.1 ?_); intro g3 cap3 w7 hown7 hgr7 hl7; have HGG := Lib.hid (And.intro hown7 (And.intro hgr7 hl7)); clear hown7 hgr7 hl7)
                        go_roundg (gk - 1)
                        case measure => omega
                        case rel =>
                          have h9 := HY.out.1.behind HY.out.2.1 HK.out.1 HK.out.2 HBT.out HGG.out.1 HGG.out.2.1 HGG.out.2.2
                          exact ⟨k + 1, SA, some ⟨g3, 0, none⟩, ca, cap3, by omega, by go_num, by rw [(wt_succ l i j k).1, HWB.out.1, HBT.out]; simp, by rw [(wt_succ l i j k).2, HWB.out.1, HBT.out]; simp, h9⟩
              · have hd : decide (k < l.length) = false := decide_eq_false hkl
                obtain rfl : k = l.length := by omega
                obtain ⟨W7, hW7⟩ : ∃ W7, wo.alloc (.cells #[.int .i64 (i : Int), .int .i64 (j : Int)] 3) = W7 := ⟨_, rfl⟩
                obtain ⟨W8, hW8⟩ : ∃ W8, W7.alloc (.cells #[.slice SA (wtA l i j l.length).length ca, .slice (some ⟨wo.heap.size, 0, none⟩) 2 2, .slice SC (wtC l i j l.length).length cc] 33) = W8 := ⟨_, rfl⟩
                have hb7 : Below wo.heap.size wo W7 := by rw [← hW7]; exact (Below.refl _ _).alloc (Nat.le_refl _) _
                have hb8 : Below W7.heap.size W7 W8 := by rw [← hW8]; exact (Below.refl _ _).alloc (Nat.le_refl _) _
                have hb78 := hb7.trans (hb8.mono hb7.size)
                have hw7 : W7.heap.size = wo.heap.size + 1 := by rw [← hW7]; simp
                have hr2 : Rd encI 1 W7 (some ⟨wo.heap.size, 0, none⟩) [(i : Int), (j : Int)] := by
                  refine ⟨by simp, fun q hq => ⟨_, rfl, fun y v hv => ?_⟩⟩
                  have h0 := Go.heap_alloc_new wo (.cells #[.int .i64 (i : Int), .int .i64 (j : Int)] 3)
                  rw [hW7] at h0
                  rw [add_at, cell_of_row _ _ _ _ _ _ h0]
                  have hq2 : q < 2 := by simpa using hq
                  rcases (show q = 0 ∨ q = 1 by omega) with rfl | rfl
                  · cases y with
                    | zero => simpa using hv
                    | succ y => simp at hv
                  · cases y with
                    | zero => simpa using hv
                    | succ y => simp at hv
                have ha := own_IN hwi.oa
                have hc := own_IN hwi.oc
                obtain ⟨SA', ca', hva, _, hra, _⟩ := ha.form lenI
                obtain ⟨SC', cc', hvc, _, hrc, _⟩ := hc.form lenI
                rw [List.length_map] at hva hvc
                obtain ⟨rfl, _, rfl⟩ := Value.slice.inj hva
                obtain ⟨rfl, _, rfl⟩ := Value.slice.inj hvc
                obtain ⟨rs, hrs⟩ : ∃ rs : List (Option Addr × List Int × Nat), rs = [(SA, (wtA l i j l.length).map (fun (x : Nat) => (x : Int)), ca), (some ⟨wo.heap.size, 0, none⟩, [(i : Int), (j : Int)], 2), (SC, (wtC l i j l.length).map (fun (x : Nat) => (x : Int)), cc)] := ⟨_, rfl⟩
                have hfl : rs.flatMap (·.2.1) = (witL l i j).map (fun (x : Nat) => (x : Int)) := by
                  rw [hrs]
                  unfold witL
                  simp
                have hrl : rs.length = 3 := by rw [hrs]; rfl
                have hR8 : Rd encL 1 W8 (some ⟨W7.heap.size, 0, none⟩) rs := by
                  refine ⟨by omega, fun q hq => ⟨_, rfl, fun y v hv => ?_⟩⟩
                  have h0 := Go.heap_alloc_new W7 (.cells #[.slice SA (wtA l i j l.length).length ca, .slice (some ⟨wo.heap.size, 0, none⟩) 2 2, .slice SC (wtC l i j l.length).length cc] 33)
                  rw [hW8] at h0
                  rw [add_at, cell_of_row _ _ _ _ _ _ h0]
                  subst hrs
                  rcases (show q = 0 ∨ q = 1 ∨ q = 2 by omega) with rfl | rfl | rfl
                  · cases y with
                    | zero => simpa using hv
                    | succ y => simp at hv
                  · cases y with
                    | zero => simpa using hv
                    | succ y => simp at hv
                  · cases y with
                    | zero => simpa using hv
                    | succ y => simp at hv
                have hall : ∀ r ∈ rs, Rd encI 1 W8 r.1 r.2.1 ∧ (r.1 = Option.none → r.2.2 = 0) := fun r hr => by
                  rw [hrs] at hr
                  simp only [List.mem_cons, List.not_mem_nil, or_false] at hr
                  rcases hr with rfl | rfl | rfl
                  · exact ⟨hra.below hb78, fun h => hwi.oa.nocap h⟩
                  · exact ⟨hr2.below hb8, fun h => by cases h⟩
                  · exact ⟨hrc.below hb78, fun h => hwi.oc.nocap h⟩
                have hsum := wt_sum l i j l.length
                have hlw : (rs.flatMap (·.2.1)).length = (wtA l i j l.length).length + 2 + (wtC l i j l.length).length := by rw [hfl, List.length_map]; unfold witL; simp; omega
                have hcc := concat_calls rs (some ⟨W7.heap.size, 0, none⟩) 3 W8 hR8 hall (by omega) (by omega)
                rw [hfl, hrl] at hcc
                have HCC := Lib.hid hcc
                have HW8 := Lib.hid (And.intro hW7 (And.intro hW8 hw7))
                have HE := Lib.hid (hwi.low.trans (hb78.mono hszo))
                have HSZ := Lib.hid (Nat.le_trans hszo hb78.size)
                clear hwi hb7 hb8 hb78 hr2 ha hc hva hvc hra hrc hfl hR8 hall hsum hlw hcc hw7 hrs hrl hbx6 hW7 hW8
                go_wp2_with fail
                rw [HW8.out.1, ← HW8.out.2.2, HW8.out.2.1]
                (with_reducible refine (HCC.out).mono ?_); rintro e w9 ⟨v, rfl, hv, hb9⟩
                have hbf := HE.out.trans (hb9.mono HSZ.out)
                have hbw : Below w.heap.size w w9 := H5.out.1.trans ((show Below wc.heap.size wc w9 by rw [HB5.out]; exact hbf).mono H5.out.1.size)
                have HF := Lib.hid (And.intro (own_NI hv) hbw)
                have hsz8 : w.heap.size ≤ W8.heap.size := by have := H5.out.1.size; have := HB5.out; have := HSZ.out; omega
                clear hv hb9 hbf hbw
                go_wp2_with fail
                go_ret2
                refine ⟨v, by rw [H5.out.2.2.2.2]; rfl, ?_, HF.out.2⟩
                rw [H5.out.2.2.2.2]
                exact HF.out.1.down hsz8
    · have hwe : witE l r1 r2 = 4 := by
        unfold witE
        rw [if_pos HK.out.1, if_neg hin]
      have HE := Lib.hid hwe
      have hcs : r1 < 0 ∨ (0 ≤ r1 ∧ (l.length : Int) ≤ r1) ∨ (0 ≤ r1 ∧ r1 < (l.length : Int) ∧ r2 < 0) ∨ (0 ≤ r1 ∧ r1 < (l.length : Int) ∧ 0 ≤ r2 ∧ (l.length : Int) ≤ r2) := by omega
      have fin : ∀ v : Value, v = .slice none 0 0 → WtPost l r1 r2 w (.returned (.tuple #[.slice none 0 0, .int .i64 4])) w2 := fun v hv => ⟨_, by rw [HE.out], by rw [HE.out]; exact World.ownsRow_nil _ _ _ _, H2.out.1⟩
      have HFn := Lib.hid fin
      clear hin hwe fin
      rcases hcs with h | ⟨h1, h2⟩ | ⟨h1, h2, h3⟩ | ⟨h1, h2, h3, h4⟩
      · have d1 : decide (r1 < 0) = true := decide_eq_true h
        go_wp2_with fail
        go_ret2
        exact HFn.out _ rfl
      · have d1 : decide (r1 < 0) = false := decide_eq_false (by omega)
        have d2 : decide ((l.length : Int) ≤ r1) = true := decide_eq_true h2
        go_wp2_with fail
        go_ret2
        exact HFn.out _ rfl
      · have d1 : decide (r1 < 0) = false := decide_eq_false (by omega)
        have d2 : decide ((l.length : Int) ≤ r1) = false := decide_eq_false (by omega)
        have d3 : decide (r2 < 0) = true := decide_eq_true h3
        go_wp2_with fail
        go_ret2
        exact HFn.out _ rfl
      · have d1 : decide (r1 < 0) = false := decide_eq_false (by omega)
        have d2 : decide ((l.length : Int) ≤ r1) = false := decide_eq_false (by omega)
        have d3 : decide (r2 < 0) = false := decide_eq_false (by omega)
        have d4 : decide ((l.length : Int) ≤ r2) = true := decide_eq_true h4
        go_wp2_with fail
        go_ret2
        exact HFn.out _ rfl
  · have hkc : (chkF l != 0) = true := by rw [bne_iff_ne]; exact hk
    have hwe : witE l r1 r2 = chkF l := by
      unfold witE
      rw [if_neg hk]
    have HE := Lib.hid (And.intro hwe hk)
    clear hk hwe
    go_wp2_with fail
    go_ret2
    exact ⟨_, by rw [HE.out.1]; rfl, by rw [HE.out.1, if_neg HE.out.2]; exact World.ownsRow_nil _ _ _ _, H2.out.1⟩
end Go.Proofs.Ythebembnlmddoaa
