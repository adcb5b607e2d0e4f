import Derived.Test.YthebembnlmddoaaAX
import Derived.Test.YthebembnlmddoaaAE
import Derived.Test.YthebembnlmddoaaU
import Derived.Deep.RegionHeld3
namespace Go.Proofs.Ythebembnlmddoaa
open Go.RowKit
set_option maxHeartbeats 16000000
set_option maxRecDepth 100000
set_option linter.unusedSimpArgs false
set_option linter.unusedVariables false

/-! ### the reference's Ahead -/
/-- who happens before j, by a last direct step from below i -/
def rwB (l : List Ev) (j i x : Nat) : Bool := (List.range i).any (fun s => dirE (evA l s) (evA l j) && (decide (x = s) || bfB l x s))
theorem rwB_zero (l : List Ev) (j x : Nat) : rwB l j 0 x = false := rfl
theorem rwB_succ (l : List Ev) (j i x : Nat) : rwB l j (i + 1) x = (rwB l j i x || (dirE (evA l i) (evA l j) && (decide (x = i) || bfB l x i))) := by
  unfold rwB
  rw [List.range_succ, List.any_append]
  simp
theorem rwB_all (l : List Ev) (hr : rtB l = true) (j x : Nat) (hj : j < l.length) : rwB l j j x = bfB l x j := by
  rw [Bool.eq_iff_iff, bf_iff l hr x j hj]
  unfold rwB
  rw [List.any_eq_true]
  simp only [List.mem_range, Bool.and_eq_true, Bool.or_eq_true, decide_eq_true_eq]
/-- row j of the table, as far as it is filled -/
def rwL (l : List Ev) (j i : Nat) : List Bool := (List.range l.length).map (rwB l j i)
/-- .. and while the row of i is joined to it, up to k -/
def rwK (l : List Ev) (j i k : Nat) : List Bool := (List.range l.length).map (fun x => rwB l j i x || decide (x = i) || (decide (x < k) && bfB l x i))
theorem rwL_len (l : List Ev) (j i : Nat) : (rwL l j i).length = l.length := by simp [rwL]
theorem rwK_len (l : List Ev) (j i k : Nat) : (rwK l j i k).length = l.length := by simp [rwK]
theorem rwL_zero (l : List Ev) (j : Nat) : rwL l j 0 = List.replicate l.length false := by
  apply List.ext_getElem
  · simp [rwL]
  · intro i h1 h2
    simp [rwL, rwB_zero]
theorem rwL_skip (l : List Ev) (j i : Nat) (h : dirE (evA l i) (evA l j) = false) : rwL l j (i + 1) = rwL l j i := by
  unfold rwL
  apply List.map_congr_left
  intro x _
  rw [rwB_succ, h]
  simp
theorem rwL_at (l : List Ev) (j i x : Nat) (h : x < (rwL l j i).length) : (rwL l j i)[x] = rwB l j i x := by simp [rwL]
theorem rwK_at (l : List Ev) (j i k x : Nat) (h : x < (rwK l j i k).length) : (rwK l j i k)[x] = (rwB l j i x || decide (x = i) || (decide (x < k) && bfB l x i)) := by simp [rwK]
theorem rwK_start (l : List Ev) (j i : Nat) : (rwL l j i).set i true = rwK l j i 0 := by
  apply List.ext_getElem
  · simp [rwL, rwK]
  · intro x h1 h2
    rw [List.getElem_set, rwK_at, rwL_at]
    by_cases e : i = x
    · subst e; simp
    · rw [if_neg e, decide_eq_false (fun h => e h.symm)]; simp
theorem rwK_succ (l : List Ev) (j i k : Nat) (hk : k < l.length) : (rwK l j i k).set k ((rwK l j i k)[k]'(by rw [rwK_len]; exact hk) || bfB l k i) = rwK l j i (k + 1) := by
  apply List.ext_getElem
  · simp [rwK]
  · intro x h1 h2
    rw [List.getElem_set]
    simp only [rwK_at]
    by_cases e : k = x
    · subst e
      rw [if_pos rfl, decide_eq_false (Nat.lt_irrefl _), decide_eq_true (by omega : k < k + 1)]
      simp
    · rw [if_neg e]
      by_cases e2 : x < k
      · rw [decide_eq_true e2, decide_eq_true (by omega : x < k + 1)]
      · rw [decide_eq_false e2, decide_eq_false (by omega : ¬ x < k + 1)]
theorem rwK_end (l : List Ev) (j i : Nat) (h : dirE (evA l i) (evA l j) = true) : rwK l j i i = rwL l j (i + 1) := by
  unfold rwK rwL
  apply List.map_congr_left
  intro x _
  rw [rwB_succ, h, Bool.true_and, Bool.or_assoc]
  congr 1
  cases hb : bfB l x i with
  | true => rw [decide_eq_true (bf_lt l x i hb)]; rfl
  | false => simp
/-- rows of n words, by their blocks and capacities -/
abbrev encS (n : Nat) (x : Nat × Nat) : List Value := [.slice (some ⟨x.1, 0, none⟩) n x.2]
theorem lenS (n : Nat) (x : Nat × Nat) : (encS n x).length = 1 := rfl
theorem oneS (n : Nat) (x : Nat × Nat) : ∀ u ∈ encS n x, u.oneCell' = true := fun u hu => by
  simp at hu; subst hu; rfl
/-- row q of the reference's table -/
def RowT (w : World) (B : Nat) (l : List Ev) (q : Nat) (r : Nat × Nat) : Prop := r.1 < B ∧ (∃ cur, w.heap[r.1]? = some (.cells cur 4 (0, 0))) ∧ ∀ x, x < l.length → w.cell? ⟨r.1, x, none⟩ = some (.bool (bfB l x q))
theorem RowT.below {w w' : World} {B : Nat} {l : List Ev} {q : Nat} {v : Nat × Nat} (h : RowT w B l q v) (hb : Below B w w') : RowT w' B l q v := by
  obtain ⟨h2, h3, h4⟩ := h
  exact ⟨h2, by rw [hb.block _ h2]; exact h3, fun x hx => (hb.cell (p := ⟨v.1, x, none⟩) h2).trans (h4 x hx)⟩
theorem RowT.mono {w : World} {B B' : Nat} {l : List Ev} {q : Nat} {v : Nat × Nat} (h : RowT w B l q v) (hB : B ≤ B') : RowT w B' l q v := by
  obtain ⟨h2, h3, h4⟩ := h
  exact ⟨by omega, h3, h4⟩
/-- .. beside a row of slices that grows -/
theorem RowT.beside {w w' : World} {B base n : Nat} {l : List Ev} {q : Nat} {v : Nat × Nat} {u : Value} {vs : List (Nat × Nat)} (h : RowT w B l q v) (hB : B ≤ w.heap.size) (ho : Own (encS n) 1 71 w base u vs) (hg : w.grownBy w' u.ownBlock) : RowT w' B l q v := by
  obtain ⟨h2, ⟨cur, h3⟩, h4⟩ := h
  have hne := own_apart ho h3 (by decide)
  have hb := hg.block v.1 (Nat.lt_of_lt_of_le h2 hB) hne
  exact ⟨h2, ⟨cur, hb.trans h3⟩, fun x hx => (World.cell?_of_block (a := ⟨v.1, x, none⟩) hb).trans (h4 x hx)⟩
/-- the reference's table -/
def TabR (w : World) (A : Option Addr) (l : List Ev) : Prop := ∀ j, j < l.length → ∃ a g c, A = some a ∧ w.cell? (a.add j) = some (.slice (some ⟨g, 0, none⟩) l.length c) ∧ ∀ x, x < l.length → w.cell? ⟨g, x, none⟩ = some (.bool (bfB l x j))
theorem TabR.below {w w' : World} {A : Option Addr} {l : List Ev} (h : TabR w A l) (hb : Below w.heap.size w w') : TabR w' A l := fun j hj => by
  obtain ⟨a, g, c, h1, h2, h3⟩ := h j hj
  exact ⟨a, g, c, h1, (hb.cell (World.block_lt_of_cell? _ _ h2)).trans h2, fun x hx => (hb.cell (World.block_lt_of_cell? _ _ (h3 x hx))).trans (h3 x hx)⟩
theorem ahead_calls (l : List Ev) (hr : rtB l = true) (hl : l.length ≤ 2000) (A : Option Addr) (c : Nat) (w : World) (hA : Rd encE 11 w A l) :
    Calls Try.prog 43 #[.slice A l.length c] w fun e w' => ∃ S cS, e = .returned (.slice S l.length cS) ∧ TabR w' S l ∧ Below w.heap.size w w' := by
  have hsm := hA.small
  have hfm : ∀ i, i < l.length → fmB (evA l i) = true := fun i hi => rtB_fm l hr _ (by rw [evA_eq l i hi]; exact List.getElem_mem hi)
  have HA := Lib.hid (And.intro hA (And.intro hr hfm))
  obtain ⟨W0, hW0⟩ : ∃ W0, w.alloc (.cells #[] 71) = W0 := ⟨_, rfl⟩
  have hb0 : Below w.heap.size w W0 := by rw [← hW0]; exact (Below.refl _ _).alloc (Nat.le_refl _) _
  have ho0 : Own (encS l.length) 1 71 W0 w.heap.size (.slice (some ⟨w.heap.size, 0, none⟩) 0 0) [] := by rw [← hW0]; exact Own.empty (encS l.length) 1 71 w w.heap.size (Nat.le_refl _)
  obtain ⟨B, hB⟩ : ∃ B, w.heap.size = B := ⟨_, rfl⟩
  rw [hB] at ho0 hb0
  have H0 := Lib.hid (And.intro hb0 ho0)
  have HW := Lib.hid (And.intro hW0 hB)
  clear hA hr hfm hW0 hb0 ho0 hB
  go_enter Try.func43, Try.ntmps43
  go_upto_region 2 with fail
  rw [HW.out.1, HW.out.2]
  go_wp2_with fail
  go_loopg [3, 4, 5, 6, 7, 9, 10, 11, 12, 13, 14, 15, 16, 17, 18, 19, 20, 21, 22, 23, 24, 25, 26, 27, 28, 29, 30, 31, 32, 33, 34, 35, 36, 37, 38, 39, 40, 41, 42, 43, 44, 45, 46, 47, 48, 49, 50, 51, 52, 53, 54, 55, 56, 57, 58, 59, 60] l.length (fun gk v3 v4 v5 v6 v7 v9 v10 v11 v12 v13 v14 v15 v16 v17 v18 v19 v20 v21 v22 v23 v24 v25 v26 v27 v28 v29 v30 v31 v32 v33 v34 v35 v36 v37 v38 v39 v40 v41 v42 v43 v44 v45 v46 v47 v48 v49 v50 v51 v52 v53 v54 v55 v56 v57 v58 v59 v60 wr => ∃ (j : Nat) (S : Option Addr) (cS : Nat) (gs : List (Nat × Nat)), j + gk = l.length ∧ v4 = .int .i64 (j : Int) ∧ v3 = .slice S j cS ∧ gs.length = j ∧ Own (encS l.length) 1 71 wr B (.slice S j cS) gs ∧ (∀ q (h : q < gs.length), RowT wr wr.heap.size l q gs[q]) ∧ Below B w wr)
  case atStart => exact ⟨0, _, _, [], by omega, rfl, rfl, rfl, H0.out.2, fun q h => by simp at h, H0.out.1⟩
  case round =>
    obtain ⟨j, S, cS, gs, hj, rfl, rfl, hgl, hown, hrows, hbl⟩ := hrel
    obtain ⟨g1, hg1⟩ : ∃ g1, g1 = gk := ⟨_, rfl⟩
    subst hg1
    obtain ⟨wj, hwj⟩ : ∃ wj, wj = wr := ⟨_, rfl⟩
    subst hwj
    clear H0
    by_cases hjl : j < l.length
    · have hd : decide (j < l.length) = true := decide_eq_true hjl
      have hszj : B ≤ wj.heap.size := by have := hbl.size; have := HW.out.2; omega
      obtain ⟨i1, hi1, hz1, hs1, hbb1⟩ := info_parts info4
      obtain ⟨W1, hmk, hown1, hg1'⟩ := run_makeSlice_full (P := Try.prog) (w := wj) wj.heap.size 71 4 i1 _ 1 Try.underlying71 hi1 hz1 hs1 .i64 .i64 l.length (by omega) (by rw [hbb1]; omega) (by simp [maxLen]; omega) (Nat.le_refl _)
      rw [made_bool] at hown1
      have hR1 : Own encB 1 4 W1 wj.heap.size (.slice (some ⟨wj.heap.size, 0, none⟩) l.length l.length) (rwL l j 0) := by rw [rwL_zero]; unfold Own; rw [List.length_replicate]; exact hown1
      have b1 : Below wj.heap.size wj W1 := (Below.refl _ wj).grown hg1' (Nat.le_refl _) (fun b hb => by cases hb)
      have hmk' : (Instr.makeSlice 71 (.int .i64 (l.length : Int)) (.int .i64 (l.length : Int))).run Try.prog wj = .ok (.slice (some ⟨wj.heap.size, 0, none⟩) l.length l.length) W1 := hmk
      obtain ⟨rb, hrb⟩ : ∃ rb, wj.heap.size = rb := ⟨_, rfl⟩
      rw [hrb] at hmk' hR1 b1 hrows hszj
      have HJ := Lib.hid (And.intro hown (And.intro hrows (And.intro hbl (And.intro hszj (And.intro hgl hrb)))))
      have H1 := Lib.hid (And.intro hR1 b1)
      clear hown hrows hbl hszj hrb hR1 b1 hmk hown1 hg1' hi1 hz1 hs1 hbb1 i1
      go_upto_region 6 with fail
      clear hmk'
      go_wp2_with fail
      go_loopg [6, 7, 18, 19, 20, 21, 22, 23, 24, 25, 26, 27, 28, 29, 30, 31, 32, 33, 34, 35, 36, 37, 38, 39, 40, 41, 42, 43, 44, 45, 46, 47, 48, 49, 50, 51, 52, 53, 54, 55, 56] j (fun gk v6 v7 v18 v19 v20 v21 v22 v23 v24 v25 v26 v27 v28 v29 v30 v31 v32 v33 v34 v35 v36 v37 v38 v39 v40 v41 v42 v43 v44 v45 v46 v47 v48 v49 v50 v51 v52 v53 v54 v55 v56 wr => ∃ i : Nat, i + gk = j ∧ v6 = .int .i64 (i : Int) ∧ Own encB 1 4 wr rb (.slice (some ⟨rb, 0, none⟩) l.length l.length) (rwL l j i) ∧ Below rb wj wr)
      case atStart => exact ⟨0, by omega, rfl, H1.out⟩
      case round =>
        obtain ⟨i, hi, rfl, hR, hbi⟩ := hrel
        obtain ⟨g2, hg2⟩ : ∃ g2, g2 = gk := ⟨_, rfl⟩
        subst hg2
        obtain ⟨wi, hwi⟩ : ∃ wi, wi = wr := ⟨_, rfl⟩
        subst hwi
        by_cases hij : i < j
        · have hd : decide (i < j) = true := decide_eq_true hij
          have hil : i < l.length := by omega
          have hlowi : Below w.heap.size w wi := by
            rw [HW.out.2]
            exact HJ.out.2.2.1.trans (hbi.mono HJ.out.2.2.2.1)
          have hRi := HA.out.1.below hlowi
          cases A with
          | none =>
            exfalso
            obtain ⟨a, ha, _⟩ := hRi.cell i hil
            cases ha
          | some a =>
          have hci := ev_cells hRi i hil
          have hcj := ev_cells hRi j hjl
          rw [← evA_eq l i hil] at hci
          rw [← evA_eq l j hjl] at hcj
          have hde := dirR_eq _ _ (HA.out.2.2 i hil) (HA.out.2.2 j hjl)
          obtain ⟨d, hdd⟩ : ∃ d, dirE (evA l i) (evA l j) = d := ⟨_, rfl⟩
          rw [hdd] at hde
          obtain ⟨ei, hei⟩ : ∃ e, evA l i = e := ⟨_, rfl⟩
          obtain ⟨ej, hej⟩ : ∃ e, evA l j = e := ⟨_, rfl⟩
          rw [hei] at hci hde
          rw [hej] at hcj hde
          have hS : ∀ w', Below wi.heap.size wi w' → (w'.cell? (a.add (i * 11)) = some (.int .i64 ei.k) ∧ w'.cell? ⟨(a.add (i * 11)).block, (a.add (i * 11)).off + 1, none⟩ = some (.int .i64 ei.t) ∧ w'.cell? ⟨(a.add (i * 11)).block, (a.add (i * 11)).off + 2, none⟩ = some (.int .i64 ei.p) ∧ w'.cell? ⟨(a.add (i * 11)).block, (a.add (i * 11)).off + 3, none⟩ = some (.int .i64 ei.q) ∧ w'.cell? ⟨(a.add (i * 11)).block, (a.add (i * 11)).off + 4, none⟩ = some (.int .i64 ei.r) ∧ w'.cell? ⟨(a.add (i * 11)).block, (a.add (i * 11)).off + 5, none⟩ = some (.int .i64 ei.m) ∧ w'.cell? ⟨(a.add (i * 11)).block, (a.add (i * 11)).off + 6, none⟩ = some (.int .i64 ei.f) ∧ w'.cell? ⟨(a.add (i * 11)).block, (a.add (i * 11)).off + 7, none⟩ = some (.int .i64 ei.a) ∧ w'.cell? ⟨(a.add (i * 11)).block, (a.add (i * 11)).off + 8, none⟩ = some (.int .i64 ei.o) ∧ w'.cell? ⟨(a.add (i * 11)).block, (a.add (i * 11)).off + 9, none⟩ = some (.int .i64 ei.x) ∧ w'.cell? ⟨(a.add (i * 11)).block, (a.add (i * 11)).off + 10, none⟩ = some (.int .i64 ei.y) ∧ w'.cell? (a.add (j * 11)) = some (.int .i64 ej.k) ∧ w'.cell? ⟨(a.add (j * 11)).block, (a.add (j * 11)).off + 1, none⟩ = some (.int .i64 ej.t) ∧ w'.cell? ⟨(a.add (j * 11)).block, (a.add (j * 11)).off + 2, none⟩ = some (.int .i64 ej.p) ∧ w'.cell? ⟨(a.add (j * 11)).block, (a.add (j * 11)).off + 3, none⟩ = some (.int .i64 ej.q) ∧ w'.cell? ⟨(a.add (j * 11)).block, (a.add (j * 11)).off + 4, none⟩ = some (.int .i64 ej.r) ∧ w'.cell? ⟨(a.add (j * 11)).block, (a.add (j * 11)).off + 5, none⟩ = some (.int .i64 ej.m) ∧ w'.cell? ⟨(a.add (j * 11)).block, (a.add (j * 11)).off + 6, none⟩ = some (.int .i64 ej.f) ∧ w'.cell? ⟨(a.add (j * 11)).block, (a.add (j * 11)).off + 7, none⟩ = some (.int .i64 ej.a) ∧ w'.cell? ⟨(a.add (j * 11)).block, (a.add (j * 11)).off + 8, none⟩ = some (.int .i64 ej.o) ∧ w'.cell? ⟨(a.add (j * 11)).block, (a.add (j * 11)).off + 9, none⟩ = some (.int .i64 ej.x) ∧ w'.cell? ⟨(a.add (j * 11)).block, (a.add (j * 11)).off + 10, none⟩ = some (.int .i64 ej.y)) := fun w' hb => by
            have kc := fun (p : Addr) (v : Value) (h : wi.cell? p = some v) => (hb.cell (World.block_lt_of_cell? _ _ h)).trans h
            obtain ⟨p0, p1, p2, p3, p4, p5, p6, p7, p8, p9, p10⟩ := ev_eleven hci
            obtain ⟨q0, q1, q2, q3, q4, q5, q6, q7, q8, q9, q10⟩ := ev_eleven hcj
            exact ⟨kc _ _ p0, kc _ _ p1, kc _ _ p2, kc _ _ p3, kc _ _ p4, kc _ _ p5, kc _ _ p6, kc _ _ p7, kc _ _ p8, kc _ _ p9, kc _ _ p10, kc _ _ q0, kc _ _ q1, kc _ _ q2, kc _ _ q3, kc _ _ q4, kc _ _ q5, kc _ _ q6, kc _ _ q7, kc _ _ q8, kc _ _ q9, kc _ _ q10⟩
          have HSK := Lib.hid hS
          have hdc := direct_calls ei ej wi.drew
          rw [hde] at hdc
          have HDC := Lib.hid hdc
          have HD := Lib.hid hdd
          have HI := Lib.hid (And.intro hR hbi)
          have hii : (i : Int) < (l.length : Int) := by omega
          have hjj : (j : Int) < (l.length : Int) := by omega
          clear hS hci hcj hRi hlowi hde hdd hei hej hdc hR hbi
          go_upto_region 9 with fail
          go_cut [32] (fun s32 wx => s32 = .bool (!d) ∧ Below wi.heap.size wi wx)
          case first =>
            go_region_held3 (fun w' => w'.cell? (a.add (i * 11)) = some (.int .i64 ei.k) ∧ w'.cell? ⟨(a.add (i * 11)).block, (a.add (i * 11)).off + 1, none⟩ = some (.int .i64 ei.t) ∧ w'.cell? ⟨(a.add (i * 11)).block, (a.add (i * 11)).off + 2, none⟩ = some (.int .i64 ei.p) ∧ w'.cell? ⟨(a.add (i * 11)).block, (a.add (i * 11)).off + 3, none⟩ = some (.int .i64 ei.q) ∧ w'.cell? ⟨(a.add (i * 11)).block, (a.add (i * 11)).off + 4, none⟩ = some (.int .i64 ei.r) ∧ w'.cell? ⟨(a.add (i * 11)).block, (a.add (i * 11)).off + 5, none⟩ = some (.int .i64 ei.m) ∧ w'.cell? ⟨(a.add (i * 11)).block, (a.add (i * 11)).off + 6, none⟩ = some (.int .i64 ei.f) ∧ w'.cell? ⟨(a.add (i * 11)).block, (a.add (i * 11)).off + 7, none⟩ = some (.int .i64 ei.a) ∧ w'.cell? ⟨(a.add (i * 11)).block, (a.add (i * 11)).off + 8, none⟩ = some (.int .i64 ei.o) ∧ w'.cell? ⟨(a.add (i * 11)).block, (a.add (i * 11)).off + 9, none⟩ = some (.int .i64 ei.x) ∧ w'.cell? ⟨(a.add (i * 11)).block, (a.add (i * 11)).off + 10, none⟩ = some (.int .i64 ei.y) ∧ w'.cell? (a.add (j * 11)) = some (.int .i64 ej.k) ∧ w'.cell? ⟨(a.add (j * 11)).block, (a.add (j * 11)).off + 1, none⟩ = some (.int .i64 ej.t) ∧ w'.cell? ⟨(a.add (j * 11)).block, (a.add (j * 11)).off + 2, none⟩ = some (.int .i64 ej.p) ∧ w'.cell? ⟨(a.add (j * 11)).block, (a.add (j * 11)).off + 3, none⟩ = some (.int .i64 ej.q) ∧ w'.cell? ⟨(a.add (j * 11)).block, (a.add (j * 11)).off + 4, none⟩ = some (.int .i64 ej.r) ∧ w'.cell? ⟨(a.add (j * 11)).block, (a.add (j * 11)).off + 5, none⟩ = some (.int .i64 ej.m) ∧ w'.cell? ⟨(a.add (j * 11)).block, (a.add (j * 11)).off + 6, none⟩ = some (.int .i64 ej.f) ∧ w'.cell? ⟨(a.add (j * 11)).block, (a.add (j * 11)).off + 7, none⟩ = some (.int .i64 ej.a) ∧ w'.cell? ⟨(a.add (j * 11)).block, (a.add (j * 11)).off + 8, none⟩ = some (.int .i64 ej.o) ∧ w'.cell? ⟨(a.add (j * 11)).block, (a.add (j * 11)).off + 9, none⟩ = some (.int .i64 ej.x) ∧ w'.cell? ⟨(a.add (j * 11)).block, (a.add (j * 11)).off + 10, none⟩ = some (.int .i64 ej.y)) (first | with_reducible exact HSK.out _ (Below.refl _ _) | with_reducible exact HSK.out _ (bb_drew (Below.refl _ _)) | with_reducible exact HSK.out _ HB5.out | fail) (first | (go_at_call 57; (with_reducible refine (HDC.out).mono ?_); rintro e w5 ⟨rfl, hb5⟩; have HB5 := Lib.hid (show Below wi.heap.size wi w5 from (bb_drew (Below.refl wi.heap.size wi)).trans hb5); clear hb5) | fail)
            all_goals (
              go_wp2_with fail
              go_meet
              exact ⟨rfl, HB5.out⟩)
          case rest =>
            obtain ⟨rfl, hbc⟩ := hcut
            have hRc := HI.out.1.rest hbc
            have hbl' : rb ≤ wi.heap.size := by have := HI.out.2.size; have := HJ.out.2.2.2.2.2; omega
            have hbx := HI.out.2.trans (hbc.mono hbl')
            have HC := Lib.hid (And.intro hRc hbx)
            clear hbc hRc hbx hbl'
            cases d with
            | false =>
              have hsk := rwL_skip l j i HD.out
              have HK := Lib.hid hsk
              clear hsk
              go_wp2_with fail
              go_roundg (g2 - 1)
              case measure => omega
              case rel => exact ⟨i + 1, by omega, by go_num, by rw [HK.out]; exact HC.out.1, HC.out.2⟩
            | true =>
              obtain ⟨tc, tf⟩ := HC.out.1.cell lenB (rwL_len _ _ _) i (by rw [rwL_len]; exact hil) 0 _ rfl
              have hst := HC.out.1.set lenB (rwL_len _ _ _) i (by rw [rwL_len]; exact hil) 0 (by decide) (.bool true) true rfl
              simp only [Nat.mul_one, Nat.add_zero] at tc tf hst
              rw [rwK_start] at hst
              obtain ⟨v0, tc0⟩ : ∃ v0, wc.cell? ⟨rb, i, none⟩ = some v0 := ⟨_, tc⟩
              obtain ⟨Wk, hWk⟩ : ∃ Wk, wc.setCell ⟨rb, i, none⟩ (.bool true) = Wk := ⟨_, rfl⟩
              have hbk : Below rb wj Wk := by rw [← hWk]; exact HC.out.2.setCell (Nat.le_refl _) _
              rw [hWk] at hst
              have HK := Lib.hid (And.intro hst.1 hbk)
              have HWK := Lib.hid hWk
              clear tc hst hbk hWk
              go_upto_region 11 with fail
              rw [HWK.out]
              clear tc0 tf
              go_wp2_with fail
              go_loopg [7, 36, 37, 38, 39, 40, 41, 42, 43, 44, 45, 46, 47, 48, 49, 50, 51, 52, 53, 54, 55, 56] i (fun gk v7 v36 v37 v38 v39 v40 v41 v42 v43 v44 v45 v46 v47 v48 v49 v50 v51 v52 v53 v54 v55 v56 wr => ∃ k : Nat, k + gk = i ∧ v7 = .int .i64 (k : Int) ∧ Own encB 1 4 wr rb (.slice (some ⟨rb, 0, none⟩) l.length l.length) (rwK l j i k) ∧ Below rb wj wr)
              case atStart => exact ⟨0, by omega, rfl, HK.out⟩
              case round =>
                obtain ⟨k, hk, rfl, hR, hbk⟩ := hrel
                obtain ⟨wk, hwk⟩ : ∃ wk, wk = wr := ⟨_, rfl⟩
                subst hwk
                by_cases hki : k < i
                · have hd : decide (k < i) = true := decide_eq_true hki
                  have hkl : k < l.length := by omega
                  obtain ⟨tc, tf⟩ := hR.cell lenB (rwK_len _ _ _ _) k (by rw [rwK_len]; exact hkl) 0 _ rfl
                  have hst := fun b => hR.set lenB (rwK_len _ _ _ _) k (by rw [rwK_len]; exact hkl) 0 (by decide) (.bool b) b rfl
                  have hsu := rwK_succ l j i k hkl
                  simp only [Nat.mul_one, Nat.add_zero] at tc tf hst
                  have hbw : Below wj.heap.size wj wk := by rw [HJ.out.2.2.2.2.2]; exact hbk
                  obtain ⟨S', c', hv, _, hrd, _⟩ := HJ.out.1.form (lenS l.length)
                  obtain ⟨rfl, hqj, rfl⟩ := Value.slice.inj hv
                  clear hv hqj
                  have hig : i < gs.length := by rw [HJ.out.2.2.2.2.1]; exact hij
                  obtain ⟨aS, rfl, hcS⟩ := (hrd.below hbw).cell i hig
                  have x1 := hcS 0 _ rfl
                  rw [Nat.mul_one, Nat.add_zero] at x1
                  have hrt := ((HJ.out.2.1 i hig).below hbk).2.2 k hkl
                  generalize gs[i] = gi at *
                  generalize (rwK l j i k)[k]'(by rw [rwK_len]; exact hkl) = b1 at *
                  generalize bfB l k i = b2 at *
                  have HR := Lib.hid (And.intro (hst (b1 || b2)).1 (And.intro hsu (hbk.setCell (p := ⟨rb, k, none⟩) (Nat.le_refl _) (.bool (b1 || b2)))))
                  have hkk : (k : Int) < (l.length : Int) := by omega
                  have hij' : (i : Int) < (j : Int) := by omega
                  clear hst hsu hR hbk hbw hrd hcS
                  cases b1 with
                  | true =>
                    clear hrt
                    go_wp2_with fail
                    go_roundg (gk - 1)
                    case measure => omega
                    case rel => exact ⟨k + 1, by omega, by go_num, by rw [← HR.out.2.1]; exact HR.out.1, HR.out.2.2⟩
                  | false =>
                    go_wp2_with fail
                    go_roundg (gk - 1)
                    case measure => omega
                    case rel => exact ⟨k + 1, by omega, by go_num, by rw [← HR.out.2.1]; exact HR.out.1, HR.out.2.2⟩
                · have hd : decide (k < i) = false := decide_eq_false hki
                  obtain rfl : k = i := by omega
                  have hen := rwK_end l j k HD.out
                  have HE := Lib.hid (And.intro hR (And.intro hbk hen))
                  clear hR hbk hen
                  go_wp2_with fail
                  go_roundg (g2 - 1)
                  case measure => omega
                  case rel => exact ⟨k + 1, by omega, by go_num, by rw [← HE.out.2.2]; exact HE.out.1, HE.out.2.1⟩
        · have hd : decide (i < j) = false := decide_eq_false hij
          obtain rfl : i = j := by omega
          have hszi : rb ≤ wi.heap.size := by have := hbi.size; have := HJ.out.2.2.2.2.2; omega
          have hbw : Below wj.heap.size wj wi := by rw [HJ.out.2.2.2.2.2]; exact hbi
          have hbl8 : Below wi.heap.size wi (wi.alloc (.cells #[.slice (some ⟨rb, 0, none⟩) l.length l.length] 71)) := (Below.refl _ _).alloc (Nat.le_refl _) _
          have hO := (HJ.out.1.rest hbw).rest hbl8
          have hrow : RowT (wi.alloc (.cells #[.slice (some ⟨rb, 0, none⟩) l.length l.length] 71)) wi.heap.size l i (rb, l.length) := by
            obtain ⟨_, hlt, hcur⟩ := hR.blk rb rfl
            refine RowT.below (w := wi) ⟨hlt, hcur, fun x hx => ?_⟩ hbl8
            obtain ⟨tc, _⟩ := hR.cell lenB (rwL_len _ _ _) x (by rw [rwL_len]; exact hx) 0 _ rfl
            rw [rwL_at, rwB_all l HA.out.2.1 i x hjl] at tc
            simpa only [Nat.mul_one, Nat.add_zero] using tc
          have hold : ∀ q (h : q < gs.length), RowT (wi.alloc (.cells #[.slice (some ⟨rb, 0, none⟩) l.length l.length] 71)) wi.heap.size l q gs[q] := fun q h => (((HJ.out.2.1 q h).below hbi).mono hszi).below hbl8
          have hlow : Below B w (wi.alloc (.cells #[.slice (some ⟨rb, 0, none⟩) l.length l.length] 71)) := (HJ.out.2.2.1.trans (hbi.mono HJ.out.2.2.2.1)).trans (hbl8.mono (Nat.le_trans HJ.out.2.2.2.1 hszi))
          have HY := Lib.hid (And.intro hO (And.intro hrow (And.intro hold (And.intro hlow (And.intro (Nat.le_trans (Nat.le_trans HJ.out.2.2.2.1 hszi) hbl8.size) (And.intro hbl8.size (show (i + 1) * 24 ≤ 140737488355328 by omega)))))))
          clear hszi hbw hbl8 hO hrow hold hlow hR hbi
          go_wp2_with (at_builtin; go_must (refine wpList_append_told (lenS l.length) (oneS l.length) _ rfl (.tmp 57) (.tmp 59) 70 rfl B 71 _ 24 Try.underlying70 info71 rfl (by decide) (by decide) (.slice S i cS) gs i HJ.out.2.2.2.2.1 rfl HY.out.1 ⟨wi.heap.size, 0, none⟩ 1 1 [(rb, l.length)] rfl rfl (by decide) (rd_one (encS l.length) 1 _ (rb, l.length) 71 _ rfl _ rfl) HY.out.2.2.2.2.2.2 HY.out.2.2.2.2.1 ?_); intro g3 cap3 w9 hown9 hgr9 hl9; have HGG := Lib.hid (And.intro hown9 (And.intro hgr9 hl9)); clear hown9 hgr9 hl9)
          go_roundg (g1 - 1)
          case measure => omega
          case rel =>
            refine ⟨i + 1, _, _, gs ++ [(rb, l.length)], by omega, by go_num, rfl, by rw [List.length_append, HJ.out.2.2.2.2.1]; rfl, HGG.out.1, fun q hq => ?_, HY.out.2.2.2.1.grown HGG.out.2.1 HY.out.2.2.2.2.1 (fun b hb => (HY.out.1.blk b hb).1)⟩
            have hsz := Nat.le_trans HY.out.2.2.2.2.2.1 HGG.out.2.1.size
            by_cases e : q < gs.length
            · rw [List.getElem_append_left e]
              exact ((HY.out.2.2.1 q e).beside HY.out.2.2.2.2.2.1 HY.out.1 HGG.out.2.1).mono hsz
            · have hq' : q = gs.length := by simp at hq; omega
              subst hq'
              rw [List.getElem_append_right (by omega)]
              simp only [Nat.sub_self, List.getElem_cons_zero]
              rw [HJ.out.2.2.2.2.1]
              exact (HY.out.2.1.beside HY.out.2.2.2.2.2.1 HY.out.1 HGG.out.2.1).mono hsz
    · have hd : decide (j < l.length) = false := decide_eq_false hjl
      obtain rfl : j = l.length := by omega
      have htab : TabR wj S l := fun q hq => by
        obtain ⟨S', c', hv, _, hrd, _⟩ := hown.form (lenS l.length)
        obtain ⟨rfl, _, _⟩ := Value.slice.inj hv
        obtain ⟨a, rfl, hc⟩ := hrd.cell q (by rw [hgl]; exact hq)
        have h0 := hc 0 _ rfl
        rw [Nat.mul_one, Nat.add_zero] at h0
        exact ⟨a, _, _, rfl, h0, (hrows q (by rw [hgl]; exact hq)).2.2⟩
      have HE := Lib.hid (And.intro htab hbl)
      clear htab hown hrows hbl hgl
      go_wp2_with fail
      go_ret
      exact ⟨S, cS, rfl, HE.out.1, by rw [HW.out.2]; exact HE.out.2⟩
end Go.Proofs.Ythebembnlmddoaa
