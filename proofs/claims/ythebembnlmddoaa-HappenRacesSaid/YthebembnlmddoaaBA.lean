import Derived.Test.YthebembnlmddoaaAZ
namespace Go.Proofs.Ythebembnlmddoaa
open Go.RowKit
set_option maxHeartbeats 16000000
set_option maxRecDepth 100000
set_option linter.unusedSimpArgs false
set_option linter.unusedVariables false

theorem info74 : (Try.prog.info? 74).map (fun i => (i.zero, i.size, i.bytes)) = some (some (.agg #[.int .i64 0, .int .i64 0]), 2, 16) := by kernel_rfl
theorem wU_le (l : List Ev) (j i : Nat) : (wU l j i).length ≤ i := by
  unfold wU
  rw [List.length_map]
  exact Nat.le_trans (List.length_filter_le _ _) (by simp)
theorem rU_le (l : List Ev) (j : Nat) : (rU l j).length ≤ j * j := by
  induction j with
  | zero => simp [rU]
  | succ j ih =>
    rw [rU_succ, List.length_append]
    have := wU_le l j j
    have e : (j + 1) * (j + 1) = j * j + 2 * j + 1 := by
      rw [Nat.add_mul, Nat.mul_add]; omega
    omega
/-- what the loops of all keep of the world behind Ahead -/
structure KA (w w1 : World) (B : Nat) (S : Option Addr) (wr : World) : Prop where
  kc : ∀ p v, w1.cell? p = some v → wr.cell? p = some v
  low : Below B w wr
  size : w1.heap.size ≤ wr.heap.size
  own : ∀ a, S = some a → a.block = B ∨ w1.heap.size ≤ a.block
theorem KA.rest {w w1 wr w' : World} {B : Nat} {S : Option Addr} (h : KA w w1 B S wr) (hB : B ≤ w1.heap.size) (hb : Below wr.heap.size wr w') : KA w w1 B S w' :=
  ⟨fun p v hv => (hb.cell (World.block_lt_of_cell? _ _ (h.kc p v hv))).trans (h.kc p v hv), h.low.trans (hb.mono (Nat.le_trans hB h.size)), Nat.le_trans h.size hb.size, h.own⟩
theorem KA.push {w w1 wr w' : World} {B g n c : Nat} {S : Option Addr} (h : KA w w1 B S wr) (hB : B ≤ w1.heap.size) (hE : w1.heap[B]? = some (.cells #[] 74 (0, 0))) (hg : wr.grownBy w' (Value.slice S n c).ownBlock) (hl : (Value.slice S n c).ownBlock = some g ∨ g = wr.heap.size) (hb : ∀ b, (Value.slice S n c).ownBlock = some b → B ≤ b) : KA w w1 B (some ⟨g, 0, none⟩) w' := by
  refine ⟨fun p v hv => ?_, h.low.grown hg (Nat.le_trans hB h.size) hb, Nat.le_trans h.size hg.size, fun a ha => ?_⟩
  · have h1 := h.kc p v hv
    refine (World.cell?_of_block (hg.block p.block (World.block_lt_of_cell? _ _ h1) ?_)).trans h1
    intro e
    cases S with
    | none => simp [Value.ownBlock] at e
    | some a =>
      have e1 : a.block = p.block := by simpa [Value.ownBlock] using e.symm
      rcases h.own a rfl with e2 | e2
      · have hp : p.block = B := by omega
        unfold World.cell? at hv
        rw [hp, hE] at hv
        simp at hv
      · have := World.block_lt_of_cell? _ _ hv
        omega
  · cases ha
    rcases hl with hl | hl
    · cases S with
      | none => simp [Value.ownBlock] at hl
      | some a =>
        have e1 : a.block = g := by simpa [Value.ownBlock] using hl
        rcases h.own a rfl with e2 | e2
        · left; simp only; omega
        · right; simp only; omega
    · right
      simp only
      have := h.size
      omega
theorem TabR.kc {w w' : World} {A : Option Addr} {l : List Ev} (h : TabR w A l) (hk : ∀ p v, w.cell? p = some v → w'.cell? p = some v) : TabR w' A l := fun j hj => by
  obtain ⟨a, g, c, h1, h2, h3⟩ := h j hj
  exact ⟨a, g, c, h1, hk _ _ h2, fun x hx => hk _ _ (h3 x hx)⟩
theorem all_calls (l : List Ev) (hr : rtB l = true) (hl : l.length ≤ 2000) (A : Option Addr) (c : Nat) (w : World) (hA : Rd encE 11 w A l) :
    Calls Try.prog 53 #[.slice A l.length c] w fun e w' => ∃ S cS, e = .returned (.slice S (racesF l).length cS) ∧ Own encRC 2 74 w' w.heap.size (.slice S (racesF l).length cS) (racesF l) ∧ Below w.heap.size w w' := by
  have hsm := hA.small
  obtain ⟨W0, hW0⟩ : ∃ W0, w.alloc (.cells #[] 74) = W0 := ⟨_, rfl⟩
  have hb0 : Below w.heap.size w W0 := by rw [← hW0]; exact (Below.refl _ _).alloc (Nat.le_refl _) _
  have ho0 : Own encRC 2 74 W0 w.heap.size (.slice (some ⟨w.heap.size, 0, none⟩) 0 0) [] := by rw [← hW0]; exact Own.empty encRC 2 74 w w.heap.size (Nat.le_refl _)
  have hah := ahead_calls l hr hl A c W0 (hA.below hb0)
  obtain ⟨B, hB⟩ : ∃ B, w.heap.size = B := ⟨_, rfl⟩
  rw [hB] at ho0 hb0
  have HA := Lib.hid (And.intro hA hr)
  have H0 := Lib.hid (And.intro hb0 ho0)
  have HW := Lib.hid (And.intro hW0 hB)
  have HAH := Lib.hid hah
  clear hA hr hW0 hb0 ho0 hB hah
  go_enter Try.func53, Try.ntmps53
  go_upto_region 2 with fail
  rw [HW.out.1, HW.out.2]
  go_wp2_with fail
  (with_reducible refine (HAH.out).mono ?_); rintro e w1 ⟨ST, cT, rfl, htab, hb1⟩
  have hb01 : Below B w w1 := H0.out.1.trans (hb1.mono (by have := H0.out.1.size; have := HW.out.2; omega))
  have hE1 : w1.heap[B]? = some (.cells #[] 74 (0, 0)) := by
    have h0 : W0.heap[B]? = some (.cells #[] 74 (0, 0)) := by
      rw [← HW.out.1, ← HW.out.2]; exact Go.heap_alloc_new w _
    exact (hb1.block _ (Array.getElem?_eq_some_iff.1 h0).1).trans h0
  have hB1 : B ≤ w1.heap.size := by have := hb01.size; have := HW.out.2; omega
  have H1 := Lib.hid (And.intro (H0.out.2.rest hb1) (And.intro hb01 (And.intro htab (And.intro hE1 hB1))))
  clear hb1 hb01 htab hE1 hB1
  go_wp2_with fail
  go_loopg [3, 5, 6, 10, 11, 12, 13, 14, 15, 16, 17, 18, 19, 20, 21, 22, 23, 24, 25, 26, 27, 28, 29, 30, 31, 32, 33, 34, 35, 36, 37, 38, 39, 40, 41, 42, 43, 44, 45, 46, 47, 48, 49, 50, 51, 52, 53, 54, 55, 56, 57, 58, 59, 60, 61, 62, 63] l.length (fun gk v3 v5 v6 v10 v11 v12 v13 v14 v15 v16 v17 v18 v19 v20 v21 v22 v23 v24 v25 v26 v27 v28 v29 v30 v31 v32 v33 v34 v35 v36 v37 v38 v39 v40 v41 v42 v43 v44 v45 v46 v47 v48 v49 v50 v51 v52 v53 v54 v55 v56 v57 v58 v59 v60 v61 v62 v63 wr => ∃ (j : Nat) (S : Option Addr) (cS : Nat), j + gk = l.length ∧ v5 = .int .i64 (j : Int) ∧ v3 = .slice S (rU l j).length cS ∧ Own encRC 2 74 wr B (.slice S (rU l j).length cS) (rU l j) ∧ KA w w1 B S wr)
  case atStart => exact ⟨0, some ⟨B, 0, none⟩, 0, by omega, rfl, rfl, H1.out.1, fun _ _ h => h, H1.out.2.1, Nat.le_refl _, fun a ha => by cases ha; exact .inl rfl⟩
  case round =>
    obtain ⟨j, S, cS, hj, rfl, rfl, hown, hbl⟩ := hrel
    obtain ⟨g1, hg1⟩ : ∃ g1, g1 = gk := ⟨_, rfl⟩
    subst hg1
    obtain ⟨wj, hwj⟩ : ∃ wj, wj = wr := ⟨_, rfl⟩
    subst hwj
    by_cases hjl : j < l.length
    · have hd : decide (j < l.length) = true := decide_eq_true hjl
      have HJ := Lib.hid (And.intro hown hbl)
      clear hown hbl
      go_upto_region 7 with fail
      go_wp2_with fail
      go_loopg [3, 6, 16, 17, 18, 19, 20, 21, 22, 23, 24, 25, 26, 27, 28, 29, 30, 31, 32, 33, 34, 35, 36, 37, 38, 39, 40, 41, 42, 43, 44, 45, 46, 47, 48, 49, 50, 51, 52, 53, 54, 55, 56, 57, 58, 59, 60, 61, 62, 63] j (fun gk v3 v6 v16 v17 v18 v19 v20 v21 v22 v23 v24 v25 v26 v27 v28 v29 v30 v31 v32 v33 v34 v35 v36 v37 v38 v39 v40 v41 v42 v43 v44 v45 v46 v47 v48 v49 v50 v51 v52 v53 v54 v55 v56 v57 v58 v59 v60 v61 v62 v63 wr => ∃ (i : Nat) (S : Option Addr) (cS : Nat), i + gk = j ∧ v6 = .int .i64 (i : Int) ∧ v3 = .slice S (rU l j ++ wU l j i).length cS ∧ Own encRC 2 74 wr B (.slice S (rU l j ++ wU l j i).length cS) (rU l j ++ wU l j i) ∧ KA w w1 B S wr)
      case atStart => exact ⟨0, S, cS, by omega, rfl, by rw [wU_zero, List.append_nil], by rw [wU_zero, List.append_nil]; exact HJ.out.1, HJ.out.2⟩
      case round =>
        obtain ⟨i, S2, c2, hi, rfl, rfl, hown, hbl⟩ := hrel
        obtain ⟨zs, hZ⟩ : ∃ zs, rU l j ++ wU l j i = zs := ⟨_, rfl⟩
        rw [hZ] at hown
        rw [hZ]
        have HZ := Lib.hid hZ
        clear hZ
        obtain ⟨wi, hwi⟩ : ∃ wi, wi = wr := ⟨_, rfl⟩
        subst hwi
        by_cases hij : i < j
        · have hd : decide (i < j) = true := decide_eq_true hij
          have hil : i < l.length := by omega
          have hlowi : Below w.heap.size w wi := by rw [HW.out.2]; exact hbl.low
          have hRi := HA.out.1.below hlowi
          cases A with
          | none =>
            exfalso
            obtain ⟨a, ha, _⟩ := hRi.cell i hil
            cases ha
          | some a =>
          have hci := ev_cells hRi i hil
          have hcj := ev_cells hRi j hjl
          rw [← evA_eq l i hil] at hci
          rw [← evA_eq l j hjl] at hcj
          obtain ⟨aT, gj, cj, rfl, hT1, hT2⟩ := (H1.out.2.2.1.kc hbl.kc) j hjl
          have hT3 := hT2 i hil
          have hws := wU_succ l j i
          have hra : raB l i j = (decide ((evA l i).k = 1) && decide ((evA l j).k = 1) && cfB (evA l i) (evA l j) && !bfB l i j) := rfl
          obtain ⟨bb, hbb⟩ : ∃ b, bfB l i j = b := ⟨_, rfl⟩
          rw [hbb] at hT3 hra
          obtain ⟨ei, hei⟩ : ∃ e, evA l i = e := ⟨_, rfl⟩
          obtain ⟨ej, hej⟩ : ∃ e, evA l j = e := ⟨_, rfl⟩
          rw [hei] at hci hra
          rw [hej] at hcj hra
          have hS : ∀ w', Below wi.heap.size wi w' → (w'.cell? (a.add (i * 11)) = some (.int .i64 ei.k) ∧ w'.cell? ⟨(a.add (i * 11)).block, (a.add (i * 11)).off + 1, none⟩ = some (.int .i64 ei.t) ∧ w'.cell? ⟨(a.add (i * 11)).block, (a.add (i * 11)).off + 2, none⟩ = some (.int .i64 ei.p) ∧ w'.cell? ⟨(a.add (i * 11)).block, (a.add (i * 11)).off + 3, none⟩ = some (.int .i64 ei.q) ∧ w'.cell? ⟨(a.add (i * 11)).block, (a.add (i * 11)).off + 4, none⟩ = some (.int .i64 ei.r) ∧ w'.cell? ⟨(a.add (i * 11)).block, (a.add (i * 11)).off + 5, none⟩ = some (.int .i64 ei.m) ∧ w'.cell? ⟨(a.add (i * 11)).block, (a.add (i * 11)).off + 6, none⟩ = some (.int .i64 ei.f) ∧ w'.cell? ⟨(a.add (i * 11)).block, (a.add (i * 11)).off + 7, none⟩ = some (.int .i64 ei.a) ∧ w'.cell? (a.add (j * 11)) = some (.int .i64 ej.k) ∧ w'.cell? ⟨(a.add (j * 11)).block, (a.add (j * 11)).off + 1, none⟩ = some (.int .i64 ej.t) ∧ w'.cell? ⟨(a.add (j * 11)).block, (a.add (j * 11)).off + 2, none⟩ = some (.int .i64 ej.p) ∧ w'.cell? ⟨(a.add (j * 11)).block, (a.add (j * 11)).off + 3, none⟩ = some (.int .i64 ej.q) ∧ w'.cell? ⟨(a.add (j * 11)).block, (a.add (j * 11)).off + 4, none⟩ = some (.int .i64 ej.r) ∧ w'.cell? ⟨(a.add (j * 11)).block, (a.add (j * 11)).off + 5, none⟩ = some (.int .i64 ej.m) ∧ w'.cell? ⟨(a.add (j * 11)).block, (a.add (j * 11)).off + 6, none⟩ = some (.int .i64 ej.f) ∧ w'.cell? ⟨(a.add (j * 11)).block, (a.add (j * 11)).off + 7, none⟩ = some (.int .i64 ej.a) ∧ w'.cell? (aT.add j) = some (.slice (some ⟨gj, 0, none⟩) l.length cj) ∧ w'.cell? ⟨gj, i, none⟩ = some (.bool bb)) := fun w' hb => by
            have kc := fun (p : Addr) (v : Value) (h : wi.cell? p = some v) => (hb.cell (World.block_lt_of_cell? _ _ h)).trans h
            obtain ⟨p0, p1, p2, p3, p4, p5, p6, p7, p8, p9, p10⟩ := ev_eleven hci
            obtain ⟨q0, q1, q2, q3, q4, q5, q6, q7, q8, q9, q10⟩ := ev_eleven hcj
            exact ⟨kc _ _ p0, kc _ _ p1, kc _ _ p2, kc _ _ p3, kc _ _ p4, kc _ _ p5, kc _ _ p6, kc _ _ p7, kc _ _ q0, kc _ _ q1, kc _ _ q2, kc _ _ q3, kc _ _ q4, kc _ _ q5, kc _ _ q6, kc _ _ q7, kc _ _ hT1, kc _ _ hT3⟩
          have HSK := Lib.hid hS
          have hcf := conflictR_calls ei ej wi.drew
          have HCF := Lib.hid hcf
          have HI := Lib.hid (And.intro hown (And.intro hbl (And.intro hws hra)))
          have hii : (i : Int) < (l.length : Int) := by omega
          have hjj : (j : Int) < (l.length : Int) := by omega
          clear hS hci hcj hRi hlowi hei hej hbb hcf hT1 hT2 hT3 hown hbl hws hra
          go_upto_region 9 with fail
          go_cut [57] (fun s57 wx => s57 = .bool (raB l i j) ∧ Below wi.heap.size wi wx)
          case first =>
            by_cases h1 : ei.k = 1
            · have g1 : (ei.k == 1) = true := by simpa using h1
              have K1 := Lib.hid h1
              by_cases h2 : ej.k = 1
              · have g2 : (ej.k == 1) = true := by simpa using h2
                have K2 := Lib.hid h2
                clear h1 h2
                obtain ⟨cf, hcf⟩ : ∃ b, cfB ei ej = b := ⟨_, rfl⟩
                rw [hcf] at HCF
                have KC := Lib.hid hcf
                clear hcf
                cases cf with
                | true =>
                  refine wp_region_held_drew (S := (fun w' => w'.cell? (a.add (i * 11)) = some (.int .i64 ei.k) ∧ w'.cell? ⟨(a.add (i * 11)).block, (a.add (i * 11)).off + 1, none⟩ = some (.int .i64 ei.t) ∧ w'.cell? ⟨(a.add (i * 11)).block, (a.add (i * 11)).off + 2, none⟩ = some (.int .i64 ei.p) ∧ w'.cell? ⟨(a.add (i * 11)).block, (a.add (i * 11)).off + 3, none⟩ = some (.int .i64 ei.q) ∧ w'.cell? ⟨(a.add (i * 11)).block, (a.add (i * 11)).off + 4, none⟩ = some (.int .i64 ei.r) ∧ w'.cell? ⟨(a.add (i * 11)).block, (a.add (i * 11)).off + 5, none⟩ = some (.int .i64 ei.m) ∧ w'.cell? ⟨(a.add (i * 11)).block, (a.add (i * 11)).off + 6, none⟩ = some (.int .i64 ei.f) ∧ w'.cell? ⟨(a.add (i * 11)).block, (a.add (i * 11)).off + 7, none⟩ = some (.int .i64 ei.a) ∧ w'.cell? (a.add (j * 11)) = some (.int .i64 ej.k) ∧ w'.cell? ⟨(a.add (j * 11)).block, (a.add (j * 11)).off + 1, none⟩ = some (.int .i64 ej.t) ∧ w'.cell? ⟨(a.add (j * 11)).block, (a.add (j * 11)).off + 2, none⟩ = some (.int .i64 ej.p) ∧ w'.cell? ⟨(a.add (j * 11)).block, (a.add (j * 11)).off + 3, none⟩ = some (.int .i64 ej.q) ∧ w'.cell? ⟨(a.add (j * 11)).block, (a.add (j * 11)).off + 4, none⟩ = some (.int .i64 ej.r) ∧ w'.cell? ⟨(a.add (j * 11)).block, (a.add (j * 11)).off + 5, none⟩ = some (.int .i64 ej.m) ∧ w'.cell? ⟨(a.add (j * 11)).block, (a.add (j * 11)).off + 6, none⟩ = some (.int .i64 ej.f) ∧ w'.cell? ⟨(a.add (j * 11)).block, (a.add (j * 11)).off + 7, none⟩ = some (.int .i64 ej.a) ∧ w'.cell? (aT.add j) = some (.slice (some ⟨gj, 0, none⟩) l.length cj) ∧ w'.cell? ⟨gj, i, none⟩ = some (.bool bb))) (by kernel_rfl) ?_ (fun hHelda0 => ?_)
                  · (try dsimp only); (first | with_reducible exact HSK.out _ (Below.refl _ _) | with_reducible exact HSK.out _ (bb_drew (Below.refl _ _)) | with_reducible exact HSK.out _ HB5.out)
                  refine wpAnyH_take (i := 0) (oi := _) (v := ?av0) rfl (by kernel_rfl) (by kernel_rfl) (by kernel_rfl) (fun _ _ _ h => h) (Or.inl ⟨by rfl, ?ahy0⟩) (by assumption) ?arest0
                  case ahy0 => (intro w hSw; (try dsimp only at hSw); go_simp; all_goals with_reducible rfl)
                  try simp only [Act.put, List.getElem_toArray, List.getElem_cons_zero, List.getElem_cons_succ, List.setIfInBounds_toArray, List.set_cons_zero, List.set_cons_succ]
                  refine wpAnyH_take (i := 1) (oi := _) (v := ?av1) rfl (by kernel_rfl) (by kernel_rfl) (by kernel_rfl) (fun _ _ _ h => h) (Or.inl ⟨by rfl, ?ahy1⟩) (by assumption) ?arest1
                  case ahy1 => (intro w hSw; (try dsimp only at hSw); go_simp; all_goals with_reducible rfl)
                  try simp only [Act.put, List.getElem_toArray, List.getElem_cons_zero, List.getElem_cons_succ, List.setIfInBounds_toArray, List.set_cons_zero, List.set_cons_succ]
                  refine wpAnyH_take (i := 2) (oi := _) (v := ?av2) rfl (by kernel_rfl) (by kernel_rfl) (by kernel_rfl) (fun _ _ _ h => h) (Or.inl ⟨by rfl, ?ahy2⟩) (by assumption) ?arest2
                  case ahy2 => (intro w hSw; (try dsimp only at hSw); go_simp; all_goals with_reducible rfl)
                  try simp only [Act.put, List.getElem_toArray, List.getElem_cons_zero, List.getElem_cons_succ, List.setIfInBounds_toArray, List.set_cons_zero, List.set_cons_succ]
                  refine wpAnyH_take (i := 3) (oi := _) (v := ?av3) rfl (by kernel_rfl) (by kernel_rfl) (by kernel_rfl) (fun _ _ _ h => h) (Or.inl ⟨by rfl, ?ahy3⟩) (by assumption) ?arest3
                  case ahy3 => (intro w hSw; (try dsimp only at hSw); go_simp; all_goals with_reducible rfl)
                  try simp only [Act.put, List.getElem_toArray, List.getElem_cons_zero, List.getElem_cons_succ, List.setIfInBounds_toArray, List.set_cons_zero, List.set_cons_succ]
                  refine wpAnyH_take (i := 4) (oi := _) (v := ?av4) rfl (by kernel_rfl) (by kernel_rfl) (by kernel_rfl) (fun _ _ _ h => h) (Or.inl ⟨by rfl, ?ahy4⟩) (by assumption) ?arest4
                  case ahy4 => (intro w hSw; (try dsimp only at hSw); go_simp; all_goals with_reducible rfl)
                  try simp only [Act.put, List.getElem_toArray, List.getElem_cons_zero, List.getElem_cons_succ, List.setIfInBounds_toArray, List.set_cons_zero, List.set_cons_succ]
                  refine wpAnyH_take (i := 5) (oi := _) (v := ?av5) rfl (by kernel_rfl) (by kernel_rfl) (by kernel_rfl) (fun _ _ _ h => h) (Or.inl ⟨by rfl, ?ahy5⟩) (by assumption) ?arest5
                  case ahy5 => (intro w hSw; (try dsimp only at hSw); go_simp; all_goals with_reducible rfl)
                  try simp only [Act.put, List.getElem_toArray, List.getElem_cons_zero, List.getElem_cons_succ, List.setIfInBounds_toArray, List.set_cons_zero, List.set_cons_succ]
                  refine wpAnyH_take (i := 6) (oi := _) (v := ?av6) rfl (by kernel_rfl) (by kernel_rfl) (by kernel_rfl) (fun _ _ _ h => h) (Or.inl ⟨by rfl, ?ahy6⟩) (by assumption) ?arest6
                  case ahy6 => (intro w hSw; (try dsimp only at hSw); go_simp; all_goals with_reducible rfl)
                  try simp only [Act.put, List.getElem_toArray, List.getElem_cons_zero, List.getElem_cons_succ, List.setIfInBounds_toArray, List.set_cons_zero, List.set_cons_succ]
                  refine wpAnyH_take (i := 7) (oi := _) (v := ?av7) rfl (by kernel_rfl) (by kernel_rfl) (by kernel_rfl) (fun _ _ _ h => h) (Or.inl ⟨by rfl, ?ahy7⟩) (by assumption) ?arest7
                  case ahy7 => (intro w hSw; (try dsimp only at hSw); go_simp; all_goals with_reducible rfl)
                  try simp only [Act.put, List.getElem_toArray, List.getElem_cons_zero, List.getElem_cons_succ, List.setIfInBounds_toArray, List.set_cons_zero, List.set_cons_succ]
                  refine wpAnyH_take (i := 8) (oi := _) (v := ?av8) rfl (by kernel_rfl) (by kernel_rfl) (by kernel_rfl) (fun _ _ _ h => h) (Or.inl ⟨by rfl, ?ahy8⟩) (by assumption) ?arest8
                  case ahy8 => (intro w hSw; (try dsimp only at hSw); go_simp; all_goals with_reducible rfl)
                  try simp only [Act.put, List.getElem_toArray, List.getElem_cons_zero, List.getElem_cons_succ, List.setIfInBounds_toArray, List.set_cons_zero, List.set_cons_succ]
                  refine wpAnyH_take (i := 9) (oi := _) (v := ?av9) rfl (by kernel_rfl) (by kernel_rfl) (by kernel_rfl) (fun _ _ _ h => h) (Or.inl ⟨by rfl, ?ahy9⟩) (by assumption) ?arest9
                  case ahy9 => (intro w hSw; (try dsimp only at hSw); go_simp; all_goals with_reducible rfl)
                  try simp only [Act.put, List.getElem_toArray, List.getElem_cons_zero, List.getElem_cons_succ, List.setIfInBounds_toArray, List.set_cons_zero, List.set_cons_succ]
                  refine wpAnyH_take (i := 10) (oi := _) (v := ?av10) rfl (by kernel_rfl) (by kernel_rfl) (by kernel_rfl) (fun _ _ _ h => h) (Or.inl ⟨by rfl, ?ahy10⟩) (by assumption) ?arest10
                  case ahy10 => (intro w hSw; (try dsimp only at hSw); go_simp; all_goals with_reducible rfl)
                  try simp only [Act.put, List.getElem_toArray, List.getElem_cons_zero, List.getElem_cons_succ, List.setIfInBounds_toArray, List.set_cons_zero, List.set_cons_succ]
                  refine wpAnyH_take (i := 11) (oi := _) (v := ?av11) rfl (by kernel_rfl) (by kernel_rfl) (by kernel_rfl) (fun _ _ _ h => h) (Or.inl ⟨by rfl, ?ahy11⟩) (by assumption) ?arest11
                  case ahy11 => (intro w hSw; (try dsimp only at hSw); go_simp; all_goals with_reducible rfl)
                  try simp only [Act.put, List.getElem_toArray, List.getElem_cons_zero, List.getElem_cons_succ, List.setIfInBounds_toArray, List.set_cons_zero, List.set_cons_succ]
                  refine wpAnyH_take (i := 12) (oi := _) (v := ?av12) rfl (by kernel_rfl) (by kernel_rfl) (by kernel_rfl) (fun _ _ _ h => h) (Or.inl ⟨by rfl, ?ahy12⟩) (by assumption) ?arest12
                  case ahy12 => (intro w hSw; (try dsimp only at hSw); go_simp; all_goals with_reducible rfl)
                  try simp only [Act.put, List.getElem_toArray, List.getElem_cons_zero, List.getElem_cons_succ, List.setIfInBounds_toArray, List.set_cons_zero, List.set_cons_succ]
                  refine wpAnyH_take (i := 13) (oi := _) (v := ?av13) rfl (by kernel_rfl) (by kernel_rfl) (by kernel_rfl) (fun _ _ _ h => h) (Or.inl ⟨by rfl, ?ahy13⟩) (by assumption) ?arest13
                  case ahy13 => (intro w hSw; (try dsimp only at hSw); go_simp; all_goals with_reducible rfl)
                  try simp only [Act.put, List.getElem_toArray, List.getElem_cons_zero, List.getElem_cons_succ, List.setIfInBounds_toArray, List.set_cons_zero, List.set_cons_succ]
                  refine wpAnyH_take (i := 14) (oi := _) (v := ?av14) rfl (by kernel_rfl) (by kernel_rfl) (by kernel_rfl) (fun _ _ _ h => h) (Or.inl ⟨by rfl, ?ahy14⟩) (by assumption) ?arest14
                  case ahy14 => (intro w hSw; (try dsimp only at hSw); go_simp; all_goals with_reducible rfl)
                  try simp only [Act.put, List.getElem_toArray, List.getElem_cons_zero, List.getElem_cons_succ, List.setIfInBounds_toArray, List.set_cons_zero, List.set_cons_succ]
                  refine wpAnyH_take (i := 15) (oi := _) (v := ?av15) rfl (by kernel_rfl) (by kernel_rfl) (by kernel_rfl) (fun _ _ _ h => h) (Or.inl ⟨by rfl, ?ahy15⟩) (by assumption) ?arest15
                  case ahy15 => (intro w hSw; (try dsimp only at hSw); go_simp; all_goals with_reducible rfl)
                  try simp only [Act.put, List.getElem_toArray, List.getElem_cons_zero, List.getElem_cons_succ, List.setIfInBounds_toArray, List.set_cons_zero, List.set_cons_succ]
                  refine wpAnyH_take (i := 16) (oi := _) (v := ?av16) rfl (by kernel_rfl) (by kernel_rfl) (by kernel_rfl) (fun _ _ _ h => h) (Or.inl ⟨by rfl, ?ahy16⟩) (by assumption) ?arest16
                  case ahy16 => (intro w hSw; (try dsimp only at hSw); go_simp; all_goals with_reducible rfl)
                  try simp only [Act.put, List.getElem_toArray, List.getElem_cons_zero, List.getElem_cons_succ, List.setIfInBounds_toArray, List.set_cons_zero, List.set_cons_succ]
                  refine wpAnyH_take (i := 17) (oi := _) (v := ?av17) rfl (by kernel_rfl) (by kernel_rfl) (by kernel_rfl) (fun _ _ _ h => h) (Or.inl ⟨by rfl, ?ahy17⟩) (by assumption) ?arest17
                  case ahy17 => (intro w hSw; (try dsimp only at hSw); go_simp; all_goals with_reducible rfl)
                  try simp only [Act.put, List.getElem_toArray, List.getElem_cons_zero, List.getElem_cons_succ, List.setIfInBounds_toArray, List.set_cons_zero, List.set_cons_succ]
                  refine wpAnyH_take (i := 18) (oi := _) (v := ?av18) rfl (by kernel_rfl) (by kernel_rfl) (by kernel_rfl) (fun _ _ _ h => h) (Or.inl ⟨by rfl, ?ahy18⟩) (by assumption) ?arest18
                  case ahy18 => (intro w hSw; (try dsimp only at hSw); go_simp; all_goals with_reducible rfl)
                  try simp only [Act.put, List.getElem_toArray, List.getElem_cons_zero, List.getElem_cons_succ, List.setIfInBounds_toArray, List.set_cons_zero, List.set_cons_succ]
                  refine wpAnyH_take (i := 19) (oi := _) (v := ?av19) rfl (by kernel_rfl) (by kernel_rfl) (by kernel_rfl) (fun _ _ _ h => h) (Or.inl ⟨by rfl, ?ahy19⟩) (by assumption) ?arest19
                  case ahy19 => (intro w hSw; (try dsimp only at hSw); go_simp; all_goals with_reducible rfl)
                  try simp only [Act.put, List.getElem_toArray, List.getElem_cons_zero, List.getElem_cons_succ, List.setIfInBounds_toArray, List.set_cons_zero, List.set_cons_succ]
                  refine wpAnyH_take (i := 20) (oi := _) (v := ?av20) rfl (by kernel_rfl) (by kernel_rfl) (by kernel_rfl) (fun _ _ _ h => h) (Or.inl ⟨by rfl, ?ahy20⟩) (by assumption) ?arest20
                  case ahy20 => (intro w hSw; (try dsimp only at hSw); go_simp; all_goals with_reducible rfl)
                  try simp only [Act.put, List.getElem_toArray, List.getElem_cons_zero, List.getElem_cons_succ, List.setIfInBounds_toArray, List.set_cons_zero, List.set_cons_succ]
                  refine wpAnyH_take (i := 21) (oi := _) (v := ?av21) rfl (by kernel_rfl) (by kernel_rfl) (by kernel_rfl) (fun _ _ _ h => h) (Or.inl ⟨by rfl, ?ahy21⟩) (by assumption) ?arest21
                  case ahy21 => (intro w hSw; (try dsimp only at hSw); go_simp; all_goals with_reducible rfl)
                  try simp only [Act.put, List.getElem_toArray, List.getElem_cons_zero, List.getElem_cons_succ, List.setIfInBounds_toArray, List.set_cons_zero, List.set_cons_succ]
                  refine wpAnyH_take (i := 22) (oi := _) (v := ?av22) rfl (by kernel_rfl) (by kernel_rfl) (by kernel_rfl) (fun _ _ _ h => h) (Or.inl ⟨by rfl, ?ahy22⟩) (by assumption) ?arest22
                  case ahy22 => (intro w hSw; (try dsimp only at hSw); go_simp; all_goals with_reducible rfl)
                  try simp only [Act.put, List.getElem_toArray, List.getElem_cons_zero, List.getElem_cons_succ, List.setIfInBounds_toArray, List.set_cons_zero, List.set_cons_succ]
                  refine wpAnyH_take (i := 23) (oi := _) (v := ?av23) rfl (by kernel_rfl) (by kernel_rfl) (by kernel_rfl) (fun _ _ _ h => h) (Or.inl ⟨by rfl, ?ahy23⟩) (by assumption) ?arest23
                  case ahy23 => (intro w hSw; (try dsimp only at hSw); go_simp; all_goals with_reducible rfl)
                  try simp only [Act.put, List.getElem_toArray, List.getElem_cons_zero, List.getElem_cons_succ, List.setIfInBounds_toArray, List.set_cons_zero, List.set_cons_succ]
                  refine wpAnyH_take (i := 24) (oi := _) (v := ?av24) rfl (by kernel_rfl) (by kernel_rfl) (by kernel_rfl) (fun _ _ _ h => h) (Or.inl ⟨by rfl, ?ahy24⟩) (by assumption) ?arest24
                  case ahy24 => (intro w hSw; (try dsimp only at hSw); go_simp; all_goals with_reducible rfl)
                  try simp only [Act.put, List.getElem_toArray, List.getElem_cons_zero, List.getElem_cons_succ, List.setIfInBounds_toArray, List.set_cons_zero, List.set_cons_succ]
                  refine wpAnyH_ready (rs := [25]) (by kernel_rfl) (by simp) ?_
                  refine AllReadyH.cons (o := _) rfl (fun K hK => ?_) AllReadyH.nil
                  go_simp
                  ((with_reducible refine (HCF.out).mono ?_); rintro e w5 ⟨rfl, hb5⟩; have HB5 := Lib.hid (show Below wi.heap.size wi w5 from (bb_drew (Below.refl wi.heap.size wi)).trans hb5); clear hb5)
                  try go_wp2_with fail
                  refine hK.out _ _ ?_ (fun hHelda25 => ?_)
                  · (try dsimp only); (first | with_reducible exact HSK.out _ (Below.refl _ _) | with_reducible exact HSK.out _ (bb_drew (Below.refl _ _)) | with_reducible exact HSK.out _ HB5.out)
                  clear hK K hHelda0
                  try simp only [Act.put, List.getElem_toArray, List.getElem_cons_zero, List.getElem_cons_succ, List.setIfInBounds_toArray, List.set_cons_zero, List.set_cons_succ]
                  refine wpAnyH_take (i := 26) (oi := _) (v := ?av26) rfl (by kernel_rfl) (by kernel_rfl) (by kernel_rfl) (fun _ _ _ h => h) (Or.inl ⟨by rfl, ?ahy26⟩) (by assumption) ?arest26
                  case ahy26 => (intro w hSw; (try dsimp only at hSw); go_simp; all_goals with_reducible rfl)
                  try simp only [Act.put, List.getElem_toArray, List.getElem_cons_zero, List.getElem_cons_succ, List.setIfInBounds_toArray, List.set_cons_zero, List.set_cons_succ]
                  refine wpAnyH_take (i := 27) (oi := _) (v := ?av27) rfl (by kernel_rfl) (by kernel_rfl) (by kernel_rfl) (fun _ _ _ h => h) (Or.inl ⟨by rfl, ?ahy27⟩) (by assumption) ?arest27
                  case ahy27 => (intro w hSw; (try dsimp only at hSw); go_simp; all_goals with_reducible rfl)
                  try simp only [Act.put, List.getElem_toArray, List.getElem_cons_zero, List.getElem_cons_succ, List.setIfInBounds_toArray, List.set_cons_zero, List.set_cons_succ]
                  refine wpAnyH_take (i := 28) (oi := _) (v := ?av28) rfl (by kernel_rfl) (by kernel_rfl) (by kernel_rfl) (fun _ _ _ h => h) (Or.inl ⟨by rfl, ?ahy28⟩) (by assumption) ?arest28
                  case ahy28 => (intro w hSw; (try dsimp only at hSw); go_simp; all_goals with_reducible rfl)
                  try simp only [Act.put, List.getElem_toArray, List.getElem_cons_zero, List.getElem_cons_succ, List.setIfInBounds_toArray, List.set_cons_zero, List.set_cons_succ]
                  refine wpAnyH_take (i := 29) (oi := _) (v := ?av29) rfl (by kernel_rfl) (by kernel_rfl) (by kernel_rfl) (fun _ _ _ h => h) (Or.inl ⟨by rfl, ?ahy29⟩) (by assumption) ?arest29
                  case ahy29 => (intro w hSw; (try dsimp only at hSw); go_simp; all_goals with_reducible rfl)
                  try simp only [Act.put, List.getElem_toArray, List.getElem_cons_zero, List.getElem_cons_succ, List.setIfInBounds_toArray, List.set_cons_zero, List.set_cons_succ]
                  refine wpAnyH_take (i := 30) (oi := _) (v := ?av30) rfl (by kernel_rfl) (by kernel_rfl) (by kernel_rfl) (fun _ _ _ h => h) (Or.inl ⟨by rfl, ?ahy30⟩) (by assumption) ?arest30
                  case ahy30 => (intro w hSw; (try dsimp only at hSw); go_simp; all_goals with_reducible rfl)
                  try simp only [Act.put, List.getElem_toArray, List.getElem_cons_zero, List.getElem_cons_succ, List.setIfInBounds_toArray, List.set_cons_zero, List.set_cons_succ]
                  refine wpAnyH_take (i := 31) (oi := _) (v := ?av31) rfl (by kernel_rfl) (by kernel_rfl) (by kernel_rfl) (fun _ _ _ h => h) (Or.inl ⟨by rfl, ?ahy31⟩) (by assumption) ?arest31
                  case ahy31 => (intro w hSw; (try dsimp only at hSw); go_simp; all_goals with_reducible rfl)
                  try simp only [Act.put, List.getElem_toArray, List.getElem_cons_zero, List.getElem_cons_succ, List.setIfInBounds_toArray, List.set_cons_zero, List.set_cons_succ]
                  refine wpAnyH_take (i := 32) (oi := _) (v := ?av32) rfl (by kernel_rfl) (by kernel_rfl) (by kernel_rfl) (fun _ _ _ h => h) (Or.inl ⟨by rfl, ?ahy32⟩) (by assumption) ?arest32
                  case ahy32 => (intro w hSw; (try dsimp only at hSw); go_simp; all_goals with_reducible rfl)
                  try simp only [Act.put, List.getElem_toArray, List.getElem_cons_zero, List.getElem_cons_succ, List.setIfInBounds_toArray, List.set_cons_zero, List.set_cons_succ]
                  refine wpAnyH_take (i := 33) (oi := _) (v := ?av33) rfl (by kernel_rfl) (by kernel_rfl) (by kernel_rfl) (fun _ _ _ h => h) (Or.inl ⟨by rfl, ?ahy33⟩) (by assumption) ?arest33
                  case ahy33 => (intro w hSw; (try dsimp only at hSw); go_simp; all_goals with_reducible rfl)
                  try simp only [Act.put, List.getElem_toArray, List.getElem_cons_zero, List.getElem_cons_succ, List.setIfInBounds_toArray, List.set_cons_zero, List.set_cons_succ]
                  refine wpAnyH_take (i := 34) (oi := _) (v := ?av34) rfl (by kernel_rfl) (by kernel_rfl) (by kernel_rfl) (fun _ _ _ h => h) (Or.inl ⟨by rfl, ?ahy34⟩) (by assumption) ?arest34
                  case ahy34 => (intro w hSw; (try dsimp only at hSw); go_simp; all_goals with_reducible rfl)
                  try simp only [Act.put, List.getElem_toArray, List.getElem_cons_zero, List.getElem_cons_succ, List.setIfInBounds_toArray, List.set_cons_zero, List.set_cons_succ]
                  refine wpAnyH_take (i := 35) (oi := _) (v := ?av35) rfl (by kernel_rfl) (by kernel_rfl) (by kernel_rfl) (fun _ _ _ h => h) (Or.inl ⟨by rfl, ?ahy35⟩) (by assumption) ?arest35
                  case ahy35 => (intro w hSw; (try dsimp only at hSw); go_simp; all_goals with_reducible rfl)
                  try simp only [Act.put, List.getElem_toArray, List.getElem_cons_zero, List.getElem_cons_succ, List.setIfInBounds_toArray, List.set_cons_zero, List.set_cons_succ]
                  refine wpAnyH_take (i := 36) (oi := _) (v := ?av36) rfl (by kernel_rfl) (by kernel_rfl) (by kernel_rfl) (fun _ _ _ h => h) (Or.inl ⟨by rfl, ?ahy36⟩) (by assumption) ?arest36
                  case ahy36 => (intro w hSw; (try dsimp only at hSw); go_simp; all_goals with_reducible rfl)
                  try simp only [Act.put, List.getElem_toArray, List.getElem_cons_zero, List.getElem_cons_succ, List.setIfInBounds_toArray, List.set_cons_zero, List.set_cons_succ]
                  refine wpAnyH_done (by kernel_rfl) ?_ _
                  go_wp2_with fail
                  go_meet
                  exact ⟨by rw [HI.out.2.2.2, decide_eq_true K1.out, decide_eq_true K2.out, KC.out]; simp, HB5.out⟩
                | false =>
                  refine wp_region_held_drew (S := (fun w' => w'.cell? (a.add (i * 11)) = some (.int .i64 ei.k) ∧ w'.cell? ⟨(a.add (i * 11)).block, (a.add (i * 11)).off + 1, none⟩ = some (.int .i64 ei.t) ∧ w'.cell? ⟨(a.add (i * 11)).block, (a.add (i * 11)).off + 2, none⟩ = some (.int .i64 ei.p) ∧ w'.cell? ⟨(a.add (i * 11)).block, (a.add (i * 11)).off + 3, none⟩ = some (.int .i64 ei.q) ∧ w'.cell? ⟨(a.add (i * 11)).block, (a.add (i * 11)).off + 4, none⟩ = some (.int .i64 ei.r) ∧ w'.cell? ⟨(a.add (i * 11)).block, (a.add (i * 11)).off + 5, none⟩ = some (.int .i64 ei.m) ∧ w'.cell? ⟨(a.add (i * 11)).block, (a.add (i * 11)).off + 6, none⟩ = some (.int .i64 ei.f) ∧ w'.cell? ⟨(a.add (i * 11)).block, (a.add (i * 11)).off + 7, none⟩ = some (.int .i64 ei.a) ∧ w'.cell? (a.add (j * 11)) = some (.int .i64 ej.k) ∧ w'.cell? ⟨(a.add (j * 11)).block, (a.add (j * 11)).off + 1, none⟩ = some (.int .i64 ej.t) ∧ w'.cell? ⟨(a.add (j * 11)).block, (a.add (j * 11)).off + 2, none⟩ = some (.int .i64 ej.p) ∧ w'.cell? ⟨(a.add (j * 11)).block, (a.add (j * 11)).off + 3, none⟩ = some (.int .i64 ej.q) ∧ w'.cell? ⟨(a.add (j * 11)).block, (a.add (j * 11)).off + 4, none⟩ = some (.int .i64 ej.r) ∧ w'.cell? ⟨(a.add (j * 11)).block, (a.add (j * 11)).off + 5, none⟩ = some (.int .i64 ej.m) ∧ w'.cell? ⟨(a.add (j * 11)).block, (a.add (j * 11)).off + 6, none⟩ = some (.int .i64 ej.f) ∧ w'.cell? ⟨(a.add (j * 11)).block, (a.add (j * 11)).off + 7, none⟩ = some (.int .i64 ej.a) ∧ w'.cell? (aT.add j) = some (.slice (some ⟨gj, 0, none⟩) l.length cj) ∧ w'.cell? ⟨gj, i, none⟩ = some (.bool bb))) (by kernel_rfl) ?_ (fun hHeldb0 => ?_)
                  · (try dsimp only); (first | with_reducible exact HSK.out _ (Below.refl _ _) | with_reducible exact HSK.out _ (bb_drew (Below.refl _ _)) | with_reducible exact HSK.out _ HB5.out)
                  refine wpAnyH_take (i := 0) (oi := _) (v := ?bv0) rfl (by kernel_rfl) (by kernel_rfl) (by kernel_rfl) (fun _ _ _ h => h) (Or.inl ⟨by rfl, ?bhy0⟩) (by assumption) ?brest0
                  case bhy0 => (intro w hSw; (try dsimp only at hSw); go_simp; all_goals with_reducible rfl)
                  try simp only [Act.put, List.getElem_toArray, List.getElem_cons_zero, List.getElem_cons_succ, List.setIfInBounds_toArray, List.set_cons_zero, List.set_cons_succ]
                  refine wpAnyH_take (i := 1) (oi := _) (v := ?bv1) rfl (by kernel_rfl) (by kernel_rfl) (by kernel_rfl) (fun _ _ _ h => h) (Or.inl ⟨by rfl, ?bhy1⟩) (by assumption) ?brest1
                  case bhy1 => (intro w hSw; (try dsimp only at hSw); go_simp; all_goals with_reducible rfl)
                  try simp only [Act.put, List.getElem_toArray, List.getElem_cons_zero, List.getElem_cons_succ, List.setIfInBounds_toArray, List.set_cons_zero, List.set_cons_succ]
                  refine wpAnyH_take (i := 2) (oi := _) (v := ?bv2) rfl (by kernel_rfl) (by kernel_rfl) (by kernel_rfl) (fun _ _ _ h => h) (Or.inl ⟨by rfl, ?bhy2⟩) (by assumption) ?brest2
                  case bhy2 => (intro w hSw; (try dsimp only at hSw); go_simp; all_goals with_reducible rfl)
                  try simp only [Act.put, List.getElem_toArray, List.getElem_cons_zero, List.getElem_cons_succ, List.setIfInBounds_toArray, List.set_cons_zero, List.set_cons_succ]
                  refine wpAnyH_take (i := 3) (oi := _) (v := ?bv3) rfl (by kernel_rfl) (by kernel_rfl) (by kernel_rfl) (fun _ _ _ h => h) (Or.inl ⟨by rfl, ?bhy3⟩) (by assumption) ?brest3
                  case bhy3 => (intro w hSw; (try dsimp only at hSw); go_simp; all_goals with_reducible rfl)
                  try simp only [Act.put, List.getElem_toArray, List.getElem_cons_zero, List.getElem_cons_succ, List.setIfInBounds_toArray, List.set_cons_zero, List.set_cons_succ]
                  refine wpAnyH_take (i := 4) (oi := _) (v := ?bv4) rfl (by kernel_rfl) (by kernel_rfl) (by kernel_rfl) (fun _ _ _ h => h) (Or.inl ⟨by rfl, ?bhy4⟩) (by assumption) ?brest4
                  case bhy4 => (intro w hSw; (try dsimp only at hSw); go_simp; all_goals with_reducible rfl)
                  try simp only [Act.put, List.getElem_toArray, List.getElem_cons_zero, List.getElem_cons_succ, List.setIfInBounds_toArray, List.set_cons_zero, List.set_cons_succ]
                  refine wpAnyH_take (i := 5) (oi := _) (v := ?bv5) rfl (by kernel_rfl) (by kernel_rfl) (by kernel_rfl) (fun _ _ _ h => h) (Or.inl ⟨by rfl, ?bhy5⟩) (by assumption) ?brest5
                  case bhy5 => (intro w hSw; (try dsimp only at hSw); go_simp; all_goals with_reducible rfl)
                  try simp only [Act.put, List.getElem_toArray, List.getElem_cons_zero, List.getElem_cons_succ, List.setIfInBounds_toArray, List.set_cons_zero, List.set_cons_succ]
                  refine wpAnyH_take (i := 6) (oi := _) (v := ?bv6) rfl (by kernel_rfl) (by kernel_rfl) (by kernel_rfl) (fun _ _ _ h => h) (Or.inl ⟨by rfl, ?bhy6⟩) (by assumption) ?brest6
                  case bhy6 => (intro w hSw; (try dsimp only at hSw); go_simp; all_goals with_reducible rfl)
                  try simp only [Act.put, List.getElem_toArray, List.getElem_cons_zero, List.getElem_cons_succ, List.setIfInBounds_toArray, List.set_cons_zero, List.set_cons_succ]
                  refine wpAnyH_take (i := 7) (oi := _) (v := ?bv7) rfl (by kernel_rfl) (by kernel_rfl) (by kernel_rfl) (fun _ _ _ h => h) (Or.inl ⟨by rfl, ?bhy7⟩) (by assumption) ?brest7
                  case bhy7 => (intro w hSw; (try dsimp only at hSw); go_simp; all_goals with_reducible rfl)
                  try simp only [Act.put, List.getElem_toArray, List.getElem_cons_zero, List.getElem_cons_succ, List.setIfInBounds_toArray, List.set_cons_zero, List.set_cons_succ]
                  refine wpAnyH_take (i := 8) (oi := _) (v := ?bv8) rfl (by kernel_rfl) (by kernel_rfl) (by kernel_rfl) (fun _ _ _ h => h) (Or.inl ⟨by rfl, ?bhy8⟩) (by assumption) ?brest8
                  case bhy8 => (intro w hSw; (try dsimp only at hSw); go_simp; all_goals with_reducible rfl)
                  try simp only [Act.put, List.getElem_toArray, List.getElem_cons_zero, List.getElem_cons_succ, List.setIfInBounds_toArray, List.set_cons_zero, List.set_cons_succ]
                  refine wpAnyH_take (i := 9) (oi := _) (v := ?bv9) rfl (by kernel_rfl) (by kernel_rfl) (by kernel_rfl) (fun _ _ _ h => h) (Or.inl ⟨by rfl, ?bhy9⟩) (by assumption) ?brest9
                  case bhy9 => (intro w hSw; (try dsimp only at hSw); go_simp; all_goals with_reducible rfl)
                  try simp only [Act.put, List.getElem_toArray, List.getElem_cons_zero, List.getElem_cons_succ, List.setIfInBounds_toArray, List.set_cons_zero, List.set_cons_succ]
                  refine wpAnyH_take (i := 10) (oi := _) (v := ?bv10) rfl (by kernel_rfl) (by kernel_rfl) (by kernel_rfl) (fun _ _ _ h => h) (Or.inl ⟨by rfl, ?bhy10⟩) (by assumption) ?brest10
                  case bhy10 => (intro w hSw; (try dsimp only at hSw); go_simp; all_goals with_reducible rfl)
                  try simp only [Act.put, List.getElem_toArray, List.getElem_cons_zero, List.getElem_cons_succ, List.setIfInBounds_toArray, List.set_cons_zero, List.set_cons_succ]
                  refine wpAnyH_take (i := 11) (oi := _) (v := ?bv11) rfl (by kernel_rfl) (by kernel_rfl) (by kernel_rfl) (fun _ _ _ h => h) (Or.inl ⟨by rfl, ?bhy11⟩) (by assumption) ?brest11
                  case bhy11 => (intro w hSw; (try dsimp only at hSw); go_simp; all_goals with_reducible rfl)
                  try simp only [Act.put, List.getElem_toArray, List.getElem_cons_zero, List.getElem_cons_succ, List.setIfInBounds_toArray, List.set_cons_zero, List.set_cons_succ]
                  refine wpAnyH_take (i := 12) (oi := _) (v := ?bv12) rfl (by kernel_rfl) (by kernel_rfl) (by kernel_rfl) (fun _ _ _ h => h) (Or.inl ⟨by rfl, ?bhy12⟩) (by assumption) ?brest12
                  case bhy12 => (intro w hSw; (try dsimp only at hSw); go_simp; all_goals with_reducible rfl)
                  try simp only [Act.put, List.getElem_toArray, List.getElem_cons_zero, List.getElem_cons_succ, List.setIfInBounds_toArray, List.set_cons_zero, List.set_cons_succ]
                  refine wpAnyH_take (i := 13) (oi := _) (v := ?bv13) rfl (by kernel_rfl) (by kernel_rfl) (by kernel_rfl) (fun _ _ _ h => h) (Or.inl ⟨by rfl, ?bhy13⟩) (by assumption) ?brest13
                  case bhy13 => (intro w hSw; (try dsimp only at hSw); go_simp; all_goals with_reducible rfl)
                  try simp only [Act.put, List.getElem_toArray, List.getElem_cons_zero, List.getElem_cons_succ, List.setIfInBounds_toArray, List.set_cons_zero, List.set_cons_succ]
                  refine wpAnyH_take (i := 14) (oi := _) (v := ?bv14) rfl (by kernel_rfl) (by kernel_rfl) (by kernel_rfl) (fun _ _ _ h => h) (Or.inl ⟨by rfl, ?bhy14⟩) (by assumption) ?brest14
                  case bhy14 => (intro w hSw; (try dsimp only at hSw); go_simp; all_goals with_reducible rfl)
                  try simp only [Act.put, List.getElem_toArray, List.getElem_cons_zero, List.getElem_cons_succ, List.setIfInBounds_toArray, List.set_cons_zero, List.set_cons_succ]
                  refine wpAnyH_take (i := 15) (oi := _) (v := ?bv15) rfl (by kernel_rfl) (by kernel_rfl) (by kernel_rfl) (fun _ _ _ h => h) (Or.inl ⟨by rfl, ?bhy15⟩) (by assumption) ?brest15
                  case bhy15 => (intro w hSw; (try dsimp only at hSw); go_simp; all_goals with_reducible rfl)
                  try simp only [Act.put, List.getElem_toArray, List.getElem_cons_zero, List.getElem_cons_succ, List.setIfInBounds_toArray, List.set_cons_zero, List.set_cons_succ]
                  refine wpAnyH_take (i := 16) (oi := _) (v := ?bv16) rfl (by kernel_rfl) (by kernel_rfl) (by kernel_rfl) (fun _ _ _ h => h) (Or.inl ⟨by rfl, ?bhy16⟩) (by assumption) ?brest16
                  case bhy16 => (intro w hSw; (try dsimp only at hSw); go_simp; all_goals with_reducible rfl)
                  try simp only [Act.put, List.getElem_toArray, List.getElem_cons_zero, List.getElem_cons_succ, List.setIfInBounds_toArray, List.set_cons_zero, List.set_cons_succ]
                  refine wpAnyH_take (i := 17) (oi := _) (v := ?bv17) rfl (by kernel_rfl) (by kernel_rfl) (by kernel_rfl) (fun _ _ _ h => h) (Or.inl ⟨by rfl, ?bhy17⟩) (by assumption) ?brest17
                  case bhy17 => (intro w hSw; (try dsimp only at hSw); go_simp; all_goals with_reducible rfl)
                  try simp only [Act.put, List.getElem_toArray, List.getElem_cons_zero, List.getElem_cons_succ, List.setIfInBounds_toArray, List.set_cons_zero, List.set_cons_succ]
                  refine wpAnyH_take (i := 18) (oi := _) (v := ?bv18) rfl (by kernel_rfl) (by kernel_rfl) (by kernel_rfl) (fun _ _ _ h => h) (Or.inl ⟨by rfl, ?bhy18⟩) (by assumption) ?brest18
                  case bhy18 => (intro w hSw; (try dsimp only at hSw); go_simp; all_goals with_reducible rfl)
                  try simp only [Act.put, List.getElem_toArray, List.getElem_cons_zero, List.getElem_cons_succ, List.setIfInBounds_toArray, List.set_cons_zero, List.set_cons_succ]
                  refine wpAnyH_take (i := 19) (oi := _) (v := ?bv19) rfl (by kernel_rfl) (by kernel_rfl) (by kernel_rfl) (fun _ _ _ h => h) (Or.inl ⟨by rfl, ?bhy19⟩) (by assumption) ?brest19
                  case bhy19 => (intro w hSw; (try dsimp only at hSw); go_simp; all_goals with_reducible rfl)
                  try simp only [Act.put, List.getElem_toArray, List.getElem_cons_zero, List.getElem_cons_succ, List.setIfInBounds_toArray, List.set_cons_zero, List.set_cons_succ]
                  refine wpAnyH_take (i := 20) (oi := _) (v := ?bv20) rfl (by kernel_rfl) (by kernel_rfl) (by kernel_rfl) (fun _ _ _ h => h) (Or.inl ⟨by rfl, ?bhy20⟩) (by assumption) ?brest20
                  case bhy20 => (intro w hSw; (try dsimp only at hSw); go_simp; all_goals with_reducible rfl)
                  try simp only [Act.put, List.getElem_toArray, List.getElem_cons_zero, List.getElem_cons_succ, List.setIfInBounds_toArray, List.set_cons_zero, List.set_cons_succ]
                  refine wpAnyH_take (i := 21) (oi := _) (v := ?bv21) rfl (by kernel_rfl) (by kernel_rfl) (by kernel_rfl) (fun _ _ _ h => h) (Or.inl ⟨by rfl, ?bhy21⟩) (by assumption) ?brest21
                  case bhy21 => (intro w hSw; (try dsimp only at hSw); go_simp; all_goals with_reducible rfl)
                  try simp only [Act.put, List.getElem_toArray, List.getElem_cons_zero, List.getElem_cons_succ, List.setIfInBounds_toArray, List.set_cons_zero, List.set_cons_succ]
                  refine wpAnyH_take (i := 22) (oi := _) (v := ?bv22) rfl (by kernel_rfl) (by kernel_rfl) (by kernel_rfl) (fun _ _ _ h => h) (Or.inl ⟨by rfl, ?bhy22⟩) (by assumption) ?brest22
                  case bhy22 => (intro w hSw; (try dsimp only at hSw); go_simp; all_goals with_reducible rfl)
                  try simp only [Act.put, List.getElem_toArray, List.getElem_cons_zero, List.getElem_cons_succ, List.setIfInBounds_toArray, List.set_cons_zero, List.set_cons_succ]
                  refine wpAnyH_take (i := 23) (oi := _) (v := ?bv23) rfl (by kernel_rfl) (by kernel_rfl) (by kernel_rfl) (fun _ _ _ h => h) (Or.inl ⟨by rfl, ?bhy23⟩) (by assumption) ?brest23
                  case bhy23 => (intro w hSw; (try dsimp only at hSw); go_simp; all_goals with_reducible rfl)
                  try simp only [Act.put, List.getElem_toArray, List.getElem_cons_zero, List.getElem_cons_succ, List.setIfInBounds_toArray, List.set_cons_zero, List.set_cons_succ]
                  refine wpAnyH_take (i := 24) (oi := _) (v := ?bv24) rfl (by kernel_rfl) (by kernel_rfl) (by kernel_rfl) (fun _ _ _ h => h) (Or.inl ⟨by rfl, ?bhy24⟩) (by assumption) ?brest24
                  case bhy24 => (intro w hSw; (try dsimp only at hSw); go_simp; all_goals with_reducible rfl)
                  try simp only [Act.put, List.getElem_toArray, List.getElem_cons_zero, List.getElem_cons_succ, List.setIfInBounds_toArray, List.set_cons_zero, List.set_cons_succ]
                  refine wpAnyH_ready (rs := [25]) (by kernel_rfl) (by simp) ?_
                  refine AllReadyH.cons (o := _) rfl (fun K hK => ?_) AllReadyH.nil
                  go_simp
                  ((with_reducible refine (HCF.out).mono ?_); rintro e w5 ⟨rfl, hb5⟩; have HB5 := Lib.hid (show Below wi.heap.size wi w5 from (bb_drew (Below.refl wi.heap.size wi)).trans hb5); clear hb5)
                  try go_wp2_with fail
                  refine hK.out _ _ ?_ (fun hHeldb25 => ?_)
                  · (try dsimp only); (first | with_reducible exact HSK.out _ (Below.refl _ _) | with_reducible exact HSK.out _ (bb_drew (Below.refl _ _)) | with_reducible exact HSK.out _ HB5.out)
                  clear hK K hHeldb0
                  try simp only [Act.put, List.getElem_toArray, List.getElem_cons_zero, List.getElem_cons_succ, List.setIfInBounds_toArray, List.set_cons_zero, List.set_cons_succ]
                  refine wpAnyH_take (i := 26) (oi := _) (v := ?bv26) rfl (by kernel_rfl) (by kernel_rfl) (by kernel_rfl) (fun _ _ _ h => h) (Or.inl ⟨by rfl, ?bhy26⟩) (by assumption) ?brest26
                  case bhy26 => (intro w hSw; (try dsimp only at hSw); go_simp; all_goals with_reducible rfl)
                  try simp only [Act.put, List.getElem_toArray, List.getElem_cons_zero, List.getElem_cons_succ, List.setIfInBounds_toArray, List.set_cons_zero, List.set_cons_succ]
                  refine wpAnyH_take (i := 27) (oi := _) (v := ?bv27) rfl (by kernel_rfl) (by kernel_rfl) (by kernel_rfl) (fun _ _ _ h => h) (Or.inl ⟨by rfl, ?bhy27⟩) (by assumption) ?brest27
                  case bhy27 => (intro w hSw; (try dsimp only at hSw); go_simp; all_goals with_reducible rfl)
                  try simp only [Act.put, List.getElem_toArray, List.getElem_cons_zero, List.getElem_cons_succ, List.setIfInBounds_toArray, List.set_cons_zero, List.set_cons_succ]
                  refine wpAnyH_take (i := 28) (oi := _) (v := undef) rfl (by kernel_rfl) (by kernel_rfl) (by kernel_rfl) (fun _ _ _ h => h) (Or.inr ⟨by rfl, rfl⟩) (by assumption) ?_
                  try simp only [Act.put, List.getElem_toArray, List.getElem_cons_zero, List.getElem_cons_succ, List.setIfInBounds_toArray, List.set_cons_zero, List.set_cons_succ]
                  refine wpAnyH_take (i := 29) (oi := _) (v := undef) rfl (by kernel_rfl) (by kernel_rfl) (by kernel_rfl) (fun _ _ _ h => h) (Or.inr ⟨by rfl, rfl⟩) (by assumption) ?_
                  try simp only [Act.put, List.getElem_toArray, List.getElem_cons_zero, List.getElem_cons_succ, List.setIfInBounds_toArray, List.set_cons_zero, List.set_cons_succ]
                  refine wpAnyH_take (i := 30) (oi := _) (v := undef) rfl (by kernel_rfl) (by kernel_rfl) (by kernel_rfl) (fun _ _ _ h => h) (Or.inr ⟨by rfl, rfl⟩) (by assumption) ?_
                  try simp only [Act.put, List.getElem_toArray, List.getElem_cons_zero, List.getElem_cons_succ, List.setIfInBounds_toArray, List.set_cons_zero, List.set_cons_succ]
                  refine wpAnyH_take (i := 31) (oi := _) (v := undef) rfl (by kernel_rfl) (by kernel_rfl) (by kernel_rfl) (fun _ _ _ h => h) (Or.inr ⟨by rfl, rfl⟩) (by assumption) ?_
                  try simp only [Act.put, List.getElem_toArray, List.getElem_cons_zero, List.getElem_cons_succ, List.setIfInBounds_toArray, List.set_cons_zero, List.set_cons_succ]
                  refine wpAnyH_take (i := 32) (oi := _) (v := undef) rfl (by kernel_rfl) (by kernel_rfl) (by kernel_rfl) (fun _ _ _ h => h) (Or.inr ⟨by rfl, rfl⟩) (by assumption) ?_
                  try simp only [Act.put, List.getElem_toArray, List.getElem_cons_zero, List.getElem_cons_succ, List.setIfInBounds_toArray, List.set_cons_zero, List.set_cons_succ]
                  refine wpAnyH_take (i := 33) (oi := _) (v := undef) rfl (by kernel_rfl) (by kernel_rfl) (by kernel_rfl) (fun _ _ _ h => h) (Or.inr ⟨by rfl, rfl⟩) (by assumption) ?_
                  try simp only [Act.put, List.getElem_toArray, List.getElem_cons_zero, List.getElem_cons_succ, List.setIfInBounds_toArray, List.set_cons_zero, List.set_cons_succ]
                  refine wpAnyH_take (i := 34) (oi := _) (v := undef) rfl (by kernel_rfl) (by kernel_rfl) (by kernel_rfl) (fun _ _ _ h => h) (Or.inr ⟨by rfl, rfl⟩) (by assumption) ?_
                  try simp only [Act.put, List.getElem_toArray, List.getElem_cons_zero, List.getElem_cons_succ, List.setIfInBounds_toArray, List.set_cons_zero, List.set_cons_succ]
                  refine wpAnyH_take (i := 35) (oi := _) (v := undef) rfl (by kernel_rfl) (by kernel_rfl) (by kernel_rfl) (fun _ _ _ h => h) (Or.inr ⟨by rfl, rfl⟩) (by assumption) ?_
                  try simp only [Act.put, List.getElem_toArray, List.getElem_cons_zero, List.getElem_cons_succ, List.setIfInBounds_toArray, List.set_cons_zero, List.set_cons_succ]
                  refine wpAnyH_take (i := 36) (oi := _) (v := ?bv36) rfl (by kernel_rfl) (by kernel_rfl) (by kernel_rfl) (fun _ _ _ h => h) (Or.inl ⟨by rfl, ?bhy36⟩) (by assumption) ?brest36
                  case bhy36 => (intro w hSw; (try dsimp only at hSw); go_simp; all_goals with_reducible rfl)
                  try simp only [Act.put, List.getElem_toArray, List.getElem_cons_zero, List.getElem_cons_succ, List.setIfInBounds_toArray, List.set_cons_zero, List.set_cons_succ]
                  refine wpAnyH_done (by kernel_rfl) ?_ _
                  go_wp2_with fail
                  go_meet
                  exact ⟨by rw [HI.out.2.2.2, decide_eq_true K1.out, decide_eq_true K2.out, KC.out]; simp, HB5.out⟩
              · have g2 : (ej.k == 1) = false := by simpa using h2
                have K2 := Lib.hid h2
                clear h1 h2
                obtain ⟨p0, p1, p2, p3, p4, p5, p6, p7, q0, q1, q2, q3, q4, q5, q6, q7, x1, x2⟩ := HSK.out wi (Below.refl _ _)
                go_quiet (fail)
                go_wp2_with fail
                go_meet
                exact ⟨by rw [HI.out.2.2.2, decide_eq_false K2.out]; simp, drewN_below (Below.refl _ _) _⟩
            · have g1 : (ei.k == 1) = false := by simpa using h1
              have K1 := Lib.hid h1
              clear h1
              obtain ⟨p0, p1, p2, p3, p4, p5, p6, p7, q0, q1, q2, q3, q4, q5, q6, q7, x1, x2⟩ := HSK.out wi (Below.refl _ _)
              go_quiet (fail)
              go_wp2_with fail
              go_meet
              exact ⟨by rw [HI.out.2.2.2, decide_eq_false K1.out]; simp, drewN_below (Below.refl _ _) _⟩
          case rest =>
            obtain ⟨rfl, hbc⟩ := hcut
            have hszc : w1.heap.size ≤ wi.heap.size := HI.out.2.1.size
            have hB1 : B ≤ w1.heap.size := H1.out.2.2.2.2
            have hoc := HI.out.1.rest hbc
            have hbw := HI.out.2.1.rest hB1 hbc
            have hws := HI.out.2.2.1
            obtain ⟨rr, hrr⟩ : ∃ r, raB l i j = r := ⟨_, rfl⟩
            rw [hrr] at hws ⊢
            have HR := Lib.hid hrr
            clear hrr
            cases rr with
            | false =>
              rw [if_neg (by simp), List.append_nil] at hws
              have HK := Lib.hid (And.intro hoc (And.intro hbw hws))
              clear hoc hbw hws hbc hszc hB1
              go_wp2_with fail
              go_roundg (gk - 1)
              case measure => omega
              case rel => exact ⟨i + 1, _, _, by omega, by go_num, by rw [HK.out.2.2, HZ.out], by rw [HK.out.2.2, HZ.out]; exact HK.out.1, HK.out.2.1⟩
            | true =>
              rw [if_pos rfl] at hws
              have hle1 := wU_le l j i
              have hle2 := rU_le l j
              have hjj2 : j * j ≤ 2000 * 2000 := Nat.mul_le_mul (by omega) (by omega)
              have hlen : zs.length ≤ 5000000 := by rw [← HZ.out, List.length_append]; omega
              clear hle1 hle2 hjj2
              have hbl8 : Below wc.heap.size wc (wc.alloc (.cells #[.int .i64 (i : Int), .int .i64 (j : Int)] 74)) := (Below.refl _ _).alloc (Nat.le_refl _) _
              have HK := Lib.hid (And.intro (hoc.rest hbl8) (And.intro (hbw.rest hB1 hbl8) (And.intro hws (And.intro (Nat.le_trans (Nat.le_trans hB1 (Nat.le_trans hszc hbc.size)) hbl8.size) (And.intro (show (zs.length + 1) * 16 ≤ 140737488355328 by omega) (And.intro hB1 (Nat.le_trans (Nat.le_trans hszc hbc.size) hbl8.size)))))))
              clear hoc hbw hws hbc hszc hB1 hbl8
              go_wp2_with (at_builtin; go_must (refine wpList_append_told lenRC oneRC _ rfl (.tmp 58) (.tmp 62) 75 rfl B 74 _ 16 Try.underlying75 info74 rfl (by decide) (by decide) (.slice S2 zs.length c2) zs zs.length rfl rfl HK.out.1 ⟨wc.heap.size, 0, none⟩ 1 1 [(i, j)] rfl rfl (by decide) (rd_one encRC 2 _ (i, j) 74 _ rfl _ rfl) HK.out.2.2.2.2.1 HK.out.2.2.2.1 ?_); intro g3 cap3 w9 hown9 hgr9 hl9; have HGG := Lib.hid (And.intro hown9 (And.intro hgr9 hl9)); clear hown9 hgr9 hl9)
              go_roundg (gk - 1)
              case measure => omega
              case rel =>
                have e1 : rU l j ++ wU l j (i + 1) = zs ++ [(i, j)] := by rw [HK.out.2.2.1, ← List.append_assoc, HZ.out]
                refine ⟨i + 1, some ⟨g3, 0, none⟩, cap3, by omega, by go_num, by rw [e1, List.length_append]; rfl, ?_, ?_⟩
                · rw [e1, List.length_append]; exact HGG.out.1
                · exact HK.out.2.1.push HK.out.2.2.2.2.2.1 H1.out.2.2.2.1 HGG.out.2.1 HGG.out.2.2 (fun b hb => (HK.out.1.blk b hb).1)
        · have hd : decide (i < j) = false := decide_eq_false hij
          obtain rfl : i = j := by omega
          rw [← HZ.out] at hown
          rw [← HZ.out]
          have hru := rU_succ l i
          have HE := Lib.hid (And.intro hown (And.intro hbl hru))
          clear hown hbl hru
          go_wp2_with fail
          go_roundg (g1 - 1)
          case measure => omega
          case rel => exact ⟨i + 1, _, _, by omega, by go_num, by rw [HE.out.2.2], by rw [HE.out.2.2]; exact HE.out.1, HE.out.2.1⟩
    · have hd : decide (j < l.length) = false := decide_eq_false hjl
      obtain rfl : j = l.length := by omega
      have h1 : Below w.heap.size w wj := by rw [HW.out.2]; exact hbl.low
      have HE := Lib.hid (And.intro hown h1)
      clear hown hbl h1
      go_wp2_with fail
      go_ret
      refine ⟨S, cS, rfl, ?_, HE.out.2⟩
      rw [HW.out.2]
      exact HE.out.1
end Go.Proofs.Ythebembnlmddoaa
