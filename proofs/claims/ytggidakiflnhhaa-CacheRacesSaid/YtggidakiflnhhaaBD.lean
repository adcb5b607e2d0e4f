import Derived.Test.YtggidakiflnhhaaBC
namespace Go.Proofs.Ytggidakiflnhhaa
open Go.RowKit
set_option maxHeartbeats 16000000
set_option maxRecDepth 100000
set_option linter.unusedSimpArgs false
set_option linter.unusedVariables false

theorem add_calls (P : Nat → Prop) (bf base : Nat) (s : Fo) (o : Op) (w : World) (hP : ∀ k, P k → k < w.heap.size) (hs : Fol P bf base s w) (hl : s.re.length = s.tr.length) (hn : s.tr.length ≤ 100000) (ho : 0 ≤ o.a ∧ o.a < 8) :
    Calls Try.prog 41 #[ptr bf, o.val] w fun e w' => e = .returned (.tuple #[]) ∧ Fol P bf base (addF s o) w' ∧ Ke P w w' := by
  obtain ⟨va, vb, hF⟩ := hs
  obtain ⟨ia, ik, ip, iv⟩ := o
  obtain ⟨W1, hW1⟩ : ∃ W1, w.alloc (.cells #[.int .i64 ia, .int .i64 ik, .int .i64 ip, .int .i64 iv] 38) = W1 := ⟨_, rfl⟩
  have hb1 : Below w.heap.size w W1 := by rw [← hW1]; exact (Below.refl _ w).alloc (Nat.le_refl _) _
  have hx1 : W1.heap[w.heap.size]? = some (.cells #[.int .i64 ia, .int .i64 ik, .int .i64 ip, .int .i64 iv] 38 (0, 0)) := by rw [← hW1]; exact Go.heap_alloc_new w _
  obtain ⟨b3, hb3⟩ : ∃ b, w.heap.size = b := ⟨_, rfl⟩
  rw [hb3] at hx1
  obtain ⟨P1, hP1⟩ : ∃ P1 : Nat → Prop, P1 = fun k => P k ∨ k = b3 := ⟨_, rfl⟩
  have hF1 : Fw P1 bf base va vb va vb s.tr s.re s.ac W1 := (hF.imp (fun k h => by rw [hP1] at h; rcases h with h | h; exact Or.inl h; exact Or.inr (by omega))).rest hb1
  have hp1 : ∀ k, P1 k → k < W1.heap.size := fun k h => by
    have := blk_lt hx1
    rw [hP1] at h
    rcases h with h | h
    · have := hP k h; omega
    · omega
  have hp3 : P1 b3 := by rw [hP1]; exact Or.inr rfl
  have hk1 : ∀ w', Ke P1 W1 w' → Ke P w w' := fun w' h => (Ke.of hb1).trans (h.mono (fun k p => by rw [hP1]; exact Or.inl p))
  have hbx : ∀ w', Ke P1 W1 w' → w'.heap[b3]? = some (.cells #[.int .i64 ia, .int .i64 ik, .int .i64 ip, .int .i64 iv] 38 (0, 0)) := fun w' h => (h.block _ (blk_lt hx1) hp3).trans hx1
  have hbc : ∀ w', Ke P1 W1 w' → w'.cell? ⟨b3, 0, none⟩ = some (.int .i64 ia) ∧ w'.cell? ⟨b3, 1, none⟩ = some (.int .i64 ik) ∧ w'.cell? ⟨b3, 2, none⟩ = some (.int .i64 ip) ∧ w'.cell? ⟨b3, 3, none⟩ = some (.int .i64 iv) := fun w' h => by
    have hx := hbx w' h
    refine ⟨?_, ?_, ?_, ?_⟩ <;> (rw [cell_of_row _ _ _ _ _ _ hx]; rfl)
  have HPP := Lib.hid (show ∀ k, P k → P1 k from fun k h => by rw [hP1]; exact Or.inl h)
  have HF := Lib.hid (And.intro hF1 (And.intro hp1 (And.intro hk1 hbc)))
  have HW := Lib.hid (And.intro hW1 hb3)
  simp only at ho
  obtain ⟨A, cA, rfl, _, hrA, hAb⟩ := hF1.tr.form lenP
  obtain ⟨B, cB, rfl, _, hrB, hBb⟩ := hF1.re.form lenI
  obtain ⟨t0, -⟩ := hF1.at 0 _ rfl
  obtain ⟨x0, x1, x2, x3⟩ := hbc W1 (Ke.refl _)
  clear hF hW1 hb1 hx1 hF1 hp1 hk1 hbc hbx hb3 hrA hrB
  go_enter Try.func41, Try.ntmps41
  go_upto_region 1 with fail
  rw [HW.out.1]
  try rw [HW.out.2]
  go_upto_block 0 with fail
  clear t0 x0 x1 x2 x3
  go_cut [14] (fun _ wx => ∃ va vb, Fw P1 bf base va vb va vb s.tr (if ik = 4 then addR s.tr s.re ia (s.tr.length : Int) else s.re) (if ik = 3 then upd s.ac ia.toNat (s.tr.length : Int) else s.ac) wx ∧ Ke P1 W1 wx)
  case first =>
    obtain ⟨na, rfl⟩ : ∃ na : Nat, ia = (na : Int) := ⟨ia.toNat, by omega⟩
    have hna : na < 8 := by omega
    have hnaI : (na : Int) < 8 := by omega
    by_cases h3 : ik = 3
    · subst h3
      have HD := Lib.hid (And.intro (HF.out.1.rest (bb_drew (Below.refl _ _))) (Ke.drew (P := P1) W1))
      go_upto_region 4 with fail
      skip
      refine wp_region_held_drew (S := (fun w' => w'.cell? ⟨b3, 0, none⟩ = some (.int .i64 (na : Int)))) (by kernel_rfl) ?_ (fun hHeldq => ?_)
      · (try dsimp only); exact (HF.out.2.2.2 _ HD.out.2).1
      refine wpAnyH_take (i := 0) (oi := _) (v := ?vq1) rfl (by kernel_rfl) (by kernel_rfl) (by kernel_rfl) (fun _ _ _ h => h) (Or.inl ⟨by rfl, ?hyq1⟩) (by assumption) ?restq1
      case hyq1 => (intro w hSw; (try dsimp only at hSw); go_simp; all_goals with_reducible rfl)
      try simp only [Act.put, List.getElem_toArray, List.getElem_cons_zero, List.getElem_cons_succ, List.setIfInBounds_toArray, List.set_cons_zero, List.set_cons_succ]
      refine wpAnyH_take (i := 1) (oi := _) (v := ?vq2) rfl (by kernel_rfl) (by kernel_rfl) (by kernel_rfl) (fun _ _ _ h => h) (Or.inl ⟨by rfl, ?hyq2⟩) (by assumption) ?restq2
      case hyq2 => (intro w hSw; (try dsimp only at hSw); go_simp; all_goals with_reducible rfl)
      try simp only [Act.put, List.getElem_toArray, List.getElem_cons_zero, List.getElem_cons_succ, List.setIfInBounds_toArray, List.set_cons_zero, List.set_cons_succ]
      refine wpAnyH_take (i := 2) (oi := _) (v := ?vq3) rfl (by kernel_rfl) (by kernel_rfl) (by kernel_rfl) (fun _ _ _ h => h) (Or.inl ⟨by rfl, ?hyq3⟩) (by assumption) ?restq3
      case hyq3 => (intro w hSw; (try dsimp only at hSw); go_simp; all_goals with_reducible rfl)
      try simp only [Act.put, List.getElem_toArray, List.getElem_cons_zero, List.getElem_cons_succ, List.setIfInBounds_toArray, List.set_cons_zero, List.set_cons_succ]
      refine wpAnyH_take (i := 3) (oi := _) (v := ?vq4) rfl (by kernel_rfl) (by kernel_rfl) (by kernel_rfl) (fun _ _ _ h => h) (Or.inl ⟨by rfl, ?hyq4⟩) (by assumption) ?restq4
      case hyq4 => (intro w hSw; (try dsimp only at hSw); go_simp; all_goals with_reducible rfl)
      try simp only [Act.put, List.getElem_toArray, List.getElem_cons_zero, List.getElem_cons_succ, List.setIfInBounds_toArray, List.set_cons_zero, List.set_cons_succ]
      refine wpAnyH_take (i := 4) (oi := _) (v := ?vq5) rfl (by kernel_rfl) (by kernel_rfl) (by kernel_rfl) (fun _ _ _ h => h) (Or.inl ⟨by rfl, ?hyq5⟩) (by assumption) ?restq5
      case hyq5 => (intro w hSw; (try dsimp only at hSw); go_simp; all_goals with_reducible rfl)
      try simp only [Act.put, List.getElem_toArray, List.getElem_cons_zero, List.getElem_cons_succ, List.setIfInBounds_toArray, List.set_cons_zero, List.set_cons_succ]
      refine wpAnyH_take (i := 5) (oi := _) (v := ?vq6) rfl (by kernel_rfl) (by kernel_rfl) (by kernel_rfl) (fun _ _ _ h => h) (Or.inl ⟨by rfl, ?hyq6⟩) (by assumption) ?restq6
      case hyq6 => (intro w hSw; (try dsimp only at hSw); go_simp; all_goals with_reducible rfl)
      try simp only [Act.put, List.getElem_toArray, List.getElem_cons_zero, List.getElem_cons_succ, List.setIfInBounds_toArray, List.set_cons_zero, List.set_cons_succ]
      refine wpAnyH_take (i := 6) (oi := _) (v := ?vq7) rfl (by kernel_rfl) (by kernel_rfl) (by kernel_rfl) (fun _ _ _ h => h) (Or.inl ⟨by rfl, ?hyq7⟩) (by assumption) ?restq7
      case hyq7 => (intro w hSw; (try dsimp only at hSw); go_simp; all_goals with_reducible rfl)
      try simp only [Act.put, List.getElem_toArray, List.getElem_cons_zero, List.getElem_cons_succ, List.setIfInBounds_toArray, List.set_cons_zero, List.set_cons_succ]
      refine wpAnyH_ready (rs := [7]) (by kernel_rfl) (by simp) ?_
      refine AllReadyH.cons (o := _) rfl (fun K hK => ?_) AllReadyH.nil
      obtain ⟨t9, t8⟩ := HD.out.1.at (2 + na) (.int .i64 (s.ac na)) (foC_at _ _ _ hna)
      go_simp
      clear t9 t8
      have hz := HD.out.1.setTop (2 + na) (.int .i64 (s.tr.length : Int)) _ _ (upd s.ac na (s.tr.length : Int)) (foC_set _ _ _ hna _)
      have HS4 := Lib.hid (And.intro hz.1 (HD.out.2.trans (Ke.grown hz.2 (fun k e => by obtain rfl := Option.some.inj e; exact HD.out.1.pf))))
      clear hz
      refine hK.out _ _ ?_ (fun hHeldq8 => ?_)
      · (try dsimp only); exact (HF.out.2.2.2 _ HS4.out.2).1
      clear hK K hHeldq
      try simp only [Act.put, List.getElem_toArray, List.getElem_cons_zero, List.getElem_cons_succ, List.setIfInBounds_toArray, List.set_cons_zero, List.set_cons_succ]
      refine wpAnyH_done (by kernel_rfl) ?_ _
      go_wp2_with fail
      go_meet
      refine ⟨.slice A s.tr.length cA, .slice B s.re.length cB, ?_, HS4.out.2⟩
      rw [if_neg (by decide)]
      simp only [if_true, Int.toNat_natCast]
      exact HS4.out.1
    · by_cases h4 : ik = 4
      · subst h4
        obtain ⟨t0, -⟩ := HF.out.1.at 0 _ rfl
        have hle0 : (0 : Int) ≤ 0 := by omega
        go_wp2_with fail
        go_loopg [5, 6, 30, 31, 32, 33, 34, 35, 36, 37, 38, 39, 40, 41, 42, 43, 44, 45, 46, 47, 48, 49, 50, 51, 52, 53, 54, 55, 56, 57] s.tr.length (fun gk v5 v6 v30 v31 v32 v33 v34 v35 v36 v37 v38 v39 v40 v41 v42 v43 v44 v45 v46 v47 v48 v49 v50 v51 v52 v53 v54 v55 v56 v57 wr => ∃ i : Nat, i + gk = s.tr.length ∧ v30 = .int .i64 (i : Int) ∧ Fw P1 bf base (.slice A s.tr.length cA) (.slice B s.re.length cB) (.slice A s.tr.length cA) (.slice B s.re.length cB) s.tr (addI s.tr s.re (na : Int) (s.tr.length : Int) i) s.ac wr ∧ Ke P1 W1 wr)
        case atStart => exact ⟨0, by omega, rfl, by rw [addI_zero]; exact HF.out.1, Ke.refl _⟩
        case round =>
          obtain ⟨i, hi, rfl, hf, hk⟩ := hrel
          by_cases hlt : i < s.tr.length
          · have hd : decide (i < s.tr.length) = true := decide_eq_true hlt
            have hltI : (i : Int) < (s.tr.length : Int) := by omega
            have hlr : i < s.re.length := by omega
            have hlrI : (i : Int) < (s.re.length : Int) := by omega
            obtain ⟨-, hcA, hrA, -⟩ := own_slice lenP hf.tr
            obtain ⟨-, hcB, -, hbB⟩ := own_slice lenI hf.re
            have hal : (addI s.tr s.re (na : Int) (s.tr.length : Int) i).length = s.re.length := by rw [addI_len hl (by omega), hl]
            obtain ⟨a, rfl, hca⟩ := hrA.cell i hlt
            cases hBe : B with
            | none =>
              exfalso
              have h2 := hf.re.rd lenI
              obtain ⟨A', c', he, hr'⟩ := h2
              obtain ⟨e1, e2, e3⟩ := Value.slice.inj he
              rw [← e1, hBe] at hr'
              have := hr'.none
              rw [this] at hal
              simp at hal
              omega
            | some gB =>
            obtain ⟨g, hg, hg1, hg2⟩ := hbB gB hBe
            subst hg
            subst hBe
            have hbc := hf.re.cell lenI hal i (by omega) 0 _ rfl
            rw [Nat.mul_one, Nat.add_zero, ← getD_at _ (-1), addI_at hl hlt] at hbc
            obtain ⟨r, hr⟩ : ∃ r, s.re.getD i (-1) = r := ⟨_, rfl⟩
            rw [hr] at hbc
            obtain ⟨o, ho⟩ : ∃ o, s.tr[i] = o := ⟨_, rfl⟩
            rw [ho] at hca
            obtain ⟨xa, xk, xp, xv⟩ := o
            have y0 := hca 0 _ rfl
            have y1 := hca 1 _ rfl
            have y2 := hca 2 _ rfl
            have y3 := hca 3 _ rfl
            rw [Nat.add_zero] at y0
            rw [add_field _ _ _ (by decide)] at y1 y2 y3
            have hstep := addI_step (a := (na : Int)) (n := (s.tr.length : Int)) hl hlt
            rw [getD_at _ opZ hlt, ho, hr] at hstep
            simp only at hstep
            obtain ⟨W8, hW8⟩ : ∃ W8, wr.alloc (.cells #[.int .i64 xa, .int .i64 xk, .int .i64 xp, .int .i64 xv] 38) = W8 := ⟨_, rfl⟩
            obtain ⟨b8, hb8e⟩ : ∃ b, wr.heap.size = b := ⟨_, rfl⟩
            have hb8 : Below wr.heap.size wr W8 := by rw [← hW8]; exact (Below.refl _ _).alloc (Nat.le_refl _) _
            have hx8 : W8.heap[b8]? = some (.cells #[.int .i64 xa, .int .i64 xk, .int .i64 xp, .int .i64 xv] 38 (0, 0)) := by rw [← hW8, ← hb8e]; exact Go.heap_alloc_new _ _
            have hf8 := hf.rest hb8
            have hk8 := hk.trans (Ke.of hb8)
            have z0 : W8.cell? ⟨b8, 0, none⟩ = some (.int .i64 xa) := by rw [cell_of_row _ _ _ _ _ _ hx8]; rfl
            obtain ⟨x0, -, -, -⟩ := HF.out.2.2.2 W8 hk8
            obtain ⟨t1, -⟩ := hf8.at 1 _ rfl
            obtain ⟨t4, t5⟩ := hbc
            have t4 := (hb8.cell (p := ⟨g, i, none⟩) hg2).trans t4
            have hset := hf8.reSet hal i (by omega) (s.tr.length : Int)
            have t5 : W8.frozen? ⟨g, i, none⟩ = false := by
              have := (hf8.re.cell lenI hal i (by omega) 0 _ rfl).2
              rwa [Nat.mul_one, Nat.add_zero] at this
            have HQ := Lib.hid (And.intro hf8 (And.intro hk8 (And.intro hstep hset)))
            have HW8 := Lib.hid (And.intro hW8 hb8e)
            clear hW8 hb8e hb8 hx8 hf8 hk8 hf hk hstep hset hca hrA ho hr hbB hg1 hg2 hal hl
            go_upto_region 9 with fail
            rw [HW8.out.1]
            try rw [HW8.out.2]
            clear y0 y1 y2 y3
            by_cases ha : xa = (na : Int)
            · have hab : (xa == (na : Int)) = true := by rw [ha]; simp
              by_cases hr0 : r < 0
              · have hrb : decide (r < 0) = true := decide_eq_true hr0
                have he := HQ.out.2.2.1.trans (if_pos ⟨ha, hr0⟩)
                have HE := Lib.hid he
                clear he ha hr0
                go_wp2_with fail
                go_roundg (s.tr.length - (i + 1))
                case measure => omega
                case rel => exact ⟨i + 1, by omega, by go_num, by rw [HE.out]; exact HQ.out.2.2.2.1, HQ.out.2.1.trans HQ.out.2.2.2.2⟩
              · have hrb : decide (r < 0) = false := decide_eq_false hr0
                have he := HQ.out.2.2.1.trans (if_neg (fun q => hr0 q.2))
                have HE := Lib.hid he
                clear he ha hr0
                go_wp2_with fail
                go_roundg (s.tr.length - (i + 1))
                case measure => omega
                case rel => exact ⟨i + 1, by omega, by go_num, by rw [HE.out]; exact HQ.out.1, HQ.out.2.1⟩
            · have hab : (xa == (na : Int)) = false := by simpa using ha
              have he := HQ.out.2.2.1.trans (if_neg (fun q => ha q.1))
              have HE := Lib.hid he
              clear he ha
              go_wp2_with fail
              go_roundg (s.tr.length - (i + 1))
              case measure => omega
              case rel => exact ⟨i + 1, by omega, by go_num, by rw [HE.out]; exact HQ.out.1, HQ.out.2.1⟩
          · have hd : decide (i < s.tr.length) = false := decide_eq_false hlt
            obtain rfl : i = s.tr.length := by omega
            have HQ := Lib.hid (And.intro hf hk)
            rw [addI_end hl] at HQ
            clear hf hk
            go_wp2_with fail
            go_meet
            exact ⟨_, _, by simpa using HQ.out.1, HQ.out.2⟩
      · have h3b : (ik == 3) = false := by simpa using h3
        have h4b : (ik == 4) = false := by simpa using h4
        go_wp2_with fail
        go_meet
        rw [if_neg h4, if_neg h3]
        exact ⟨_, _, HF.out.1, Ke.refl _⟩
  case rest =>
    obtain ⟨va, vb, hf, hk⟩ := hcut
    obtain ⟨ys, hys⟩ : ∃ ys, (if ik = 4 then addR s.tr s.re ia (s.tr.length : Int) else s.re) = ys := ⟨_, rfl⟩
    obtain ⟨ff, hff⟩ : ∃ f, (if ik = 3 then upd s.ac ia.toNat (s.tr.length : Int) else s.ac) = f := ⟨_, rfl⟩
    rw [hys, hff] at hf
    have hyl : ys.length ≤ 100000 := by
      rw [← hys]
      split
      · rw [addR_len _ _ _ _ hl]; exact hn
      · omega
    have hsd : ({ tr := s.tr ++ [⟨ia, ik, ip, iv⟩], re := ys ++ [-1], ac := ff } : Fo) = addF s ⟨ia, ik, ip, iv⟩ := by
      unfold addF; simp only; rw [hys, hff]
    obtain ⟨A', cA', rfl, _, _, _⟩ := hf.tr.form lenP
    obtain ⟨B', cB', rfl, _, _, _⟩ := hf.re.form lenI
    have HY := Lib.hid (And.intro hyl hsd)
    have F0 := Lib.hid (And.intro (hf.rest (bb_drew (Below.refl _ _))) (hk.trans (Ke.drew _)))
    clear hf hk hys hff hyl hsd
    go_upto_region 12 with fail
    skip
    refine wp_region_ph 17 (fun w' => w'.cell? ⟨bf, 0, none⟩ = some (.slice A' s.tr.length cA') ∧ w'.cell? ⟨bf, 1, none⟩ = some (.slice B' ys.length cB')) (fun w' => w'.cell? ⟨b3, 0, none⟩ = some (.int .i64 ia) ∧ w'.cell? ⟨b3, 1, none⟩ = some (.int .i64 ik) ∧ w'.cell? ⟨b3, 2, none⟩ = some (.int .i64 ip) ∧ w'.cell? ⟨b3, 3, none⟩ = some (.int .i64 iv)) (by kernel_rfl) ?_ ?_ (fun hHeldr => ?_)
    · (try dsimp only)
      exact ⟨(F0.out.1.at 0 _ rfl).1, (F0.out.1.at 1 _ rfl).1⟩
    · (try dsimp only)
      exact HF.out.2.2.2 _ F0.out.2
    obtain ⟨wd, hwd⟩ : ∃ u, wc.drew = u := ⟨_, rfl⟩
    rw [hwd]
    rw [hwd] at F0 hHeldr
    clear hwd
    refine wpPh_take (i := 0) (oi := _) (v := ?vr1) rfl (by kernel_rfl) (by kernel_rfl) (by kernel_rfl) (by kernel_rfl) (fun _ _ _ h => h) (Or.inl ⟨by rfl, ?hyr1⟩) (by assumption) ?restr1
    case hyr1 => (intro w hSw; (try dsimp only at hSw); go_simp; all_goals with_reducible rfl)
    try simp only [Act.put, List.getElem_toArray, List.getElem_cons_zero, List.getElem_cons_succ, List.setIfInBounds_toArray, List.set_cons_zero, List.set_cons_succ]
    refine wpPh_take2 (i := 1) (oi := _) (v := ?vr2) rfl (by kernel_rfl) (by kernel_rfl) (by kernel_rfl) (by kernel_rfl) (fun _ _ _ h => h) (Or.inl ⟨by rfl, ?hyr2⟩) (by assumption) ?restr2
    case hyr2 => (intro w hSw; (try dsimp only at hSw); go_simp; all_goals with_reducible rfl)
    try simp only [Act.put, List.getElem_toArray, List.getElem_cons_zero, List.getElem_cons_succ, List.setIfInBounds_toArray, List.set_cons_zero, List.set_cons_succ]
    refine wpPh_take (i := 2) (oi := _) (v := ?vr3) rfl (by kernel_rfl) (by kernel_rfl) (by kernel_rfl) (by kernel_rfl) (fun _ _ _ h => h) (Or.inl ⟨by rfl, ?hyr3⟩) (by assumption) ?restr3
    case hyr3 => (intro w hSw; (try dsimp only at hSw); go_simp; all_goals with_reducible rfl)
    try simp only [Act.put, List.getElem_toArray, List.getElem_cons_zero, List.getElem_cons_succ, List.setIfInBounds_toArray, List.set_cons_zero, List.set_cons_succ]
    refine wpPh_take (i := 3) (oi := _) (v := ?vr4) rfl (by kernel_rfl) (by kernel_rfl) (by kernel_rfl) (by kernel_rfl) (fun _ _ _ h => h) (Or.inl ⟨by rfl, ?hyr4⟩) (by assumption) ?restr4
    case hyr4 => (intro w hSw; (try dsimp only at hSw); go_simp; all_goals with_reducible rfl)
    try simp only [Act.put, List.getElem_toArray, List.getElem_cons_zero, List.getElem_cons_succ, List.setIfInBounds_toArray, List.set_cons_zero, List.set_cons_succ]
    refine wpPh_take (i := 4) (oi := _) (v := ?vr5) rfl (by kernel_rfl) (by kernel_rfl) (by kernel_rfl) (by kernel_rfl) (fun _ _ _ h => h) (Or.inl ⟨by rfl, ?hyr5⟩) (by assumption) ?restr5
    case hyr5 => (intro w hSw; (try dsimp only at hSw); go_simp; all_goals with_reducible rfl)
    try simp only [Act.put, List.getElem_toArray, List.getElem_cons_zero, List.getElem_cons_succ, List.setIfInBounds_toArray, List.set_cons_zero, List.set_cons_succ]
    refine wpPh_take (i := 5) (oi := _) (v := ?vr6) rfl (by kernel_rfl) (by kernel_rfl) (by kernel_rfl) (by kernel_rfl) (fun _ _ _ h => h) (Or.inl ⟨by rfl, ?hyr6⟩) (by assumption) ?restr6
    case hyr6 => (intro w hSw; (try dsimp only at hSw); go_simp; all_goals with_reducible rfl)
    try simp only [Act.put, List.getElem_toArray, List.getElem_cons_zero, List.getElem_cons_succ, List.setIfInBounds_toArray, List.set_cons_zero, List.set_cons_succ]
    refine wpPh_take (i := 6) (oi := _) (v := ?vr7) rfl (by kernel_rfl) (by kernel_rfl) (by kernel_rfl) (by kernel_rfl) (fun _ _ _ h => h) (Or.inl ⟨by rfl, ?hyr7⟩) (by assumption) ?restr7
    case hyr7 => (intro w hSw; (try dsimp only at hSw); go_simp; all_goals with_reducible rfl)
    try simp only [Act.put, List.getElem_toArray, List.getElem_cons_zero, List.getElem_cons_succ, List.setIfInBounds_toArray, List.set_cons_zero, List.set_cons_succ]
    refine wpPh_take2 (i := 9) (oi := _) (v := ?vr8) rfl (by kernel_rfl) (by kernel_rfl) (by kernel_rfl) (by kernel_rfl) (fun _ _ _ h => h) (Or.inl ⟨by rfl, ?hyr8⟩) (by assumption) ?restr8
    case hyr8 => (intro w hSw; (try dsimp only at hSw); go_simp; all_goals with_reducible rfl)
    try simp only [Act.put, List.getElem_toArray, List.getElem_cons_zero, List.getElem_cons_succ, List.setIfInBounds_toArray, List.set_cons_zero, List.set_cons_succ]
    refine wpPh_take2 (i := 10) (oi := _) (v := ?vr9) rfl (by kernel_rfl) (by kernel_rfl) (by kernel_rfl) (by kernel_rfl) (fun _ _ _ h => h) (Or.inl ⟨by rfl, ?hyr9⟩) (by assumption) ?restr9
    case hyr9 => (intro w hSw; (try dsimp only at hSw); go_simp; all_goals with_reducible rfl)
    try simp only [Act.put, List.getElem_toArray, List.getElem_cons_zero, List.getElem_cons_succ, List.setIfInBounds_toArray, List.set_cons_zero, List.set_cons_succ]
    refine wpPh_take2 (i := 11) (oi := _) (v := ?vr10) rfl (by kernel_rfl) (by kernel_rfl) (by kernel_rfl) (by kernel_rfl) (fun _ _ _ h => h) (Or.inl ⟨by rfl, ?hyr10⟩) (by assumption) ?restr10
    case hyr10 => (intro w hSw; (try dsimp only at hSw); go_simp; all_goals with_reducible rfl)
    try simp only [Act.put, List.getElem_toArray, List.getElem_cons_zero, List.getElem_cons_succ, List.setIfInBounds_toArray, List.set_cons_zero, List.set_cons_succ]
    refine wpPh_take (i := 12) (oi := _) (v := ?vr11) rfl (by kernel_rfl) (by kernel_rfl) (by kernel_rfl) (by kernel_rfl) (fun _ _ _ h => h) (Or.inl ⟨by rfl, ?hyr11⟩) (by assumption) ?restr11
    case hyr11 => (intro w hSw; (try dsimp only at hSw); go_simp; all_goals with_reducible rfl)
    try simp only [Act.put, List.getElem_toArray, List.getElem_cons_zero, List.getElem_cons_succ, List.setIfInBounds_toArray, List.set_cons_zero, List.set_cons_succ]
    refine wpPh_ready (rs := [7, 13]) (by kernel_rfl) (by simp) ?_
    refine AllPh.cons (o := _) rfl (fun K hK => ?_) ?_
    · go_simp
      obtain ⟨ub, hu⟩ : ∃ u, wd.alloc (.cells #[.int .i64 ia, .int .i64 ik, .int .i64 ip, .int .i64 iv] 38) = u := ⟨_, rfl⟩
      have hbu : Below wd.heap.size wd ub := by rw [← hu]; exact (Below.refl _ _).alloc (Nat.le_refl _) _
      have hnx : ub.heap[wd.heap.size]? = some (.cells #[.int .i64 ia, .int .i64 ik, .int .i64 ip, .int .i64 iv] 38 (0, 0)) := by rw [← hu]; exact Go.heap_alloc_new _ _
      obtain ⟨nb7, hnb⟩ : ∃ nb, wd.heap.size = nb := ⟨_, rfl⟩
      rw [hu]
      try rw [hnb]
      rw [hnb] at hnx
      have Fb := Lib.hid (And.intro (F0.out.1.rest hbu) (And.intro (F0.out.2.trans (Ke.of hbu)) (hnx)))
      clear hu hbu hnx hnb
      refine hK.out _ _ (Ph.pre ?_ ?_) (fun hHeldr12 => ?_)
      · (try dsimp only)
        exact ⟨(Fb.out.1.at 0 _ rfl).1, (Fb.out.1.at 1 _ rfl).1⟩
      · (try dsimp only)
        exact HF.out.2.2.2 _ (Fb.out.2.1)
      clear hK K hHeldr
      try simp only [Act.put, List.getElem_toArray, List.getElem_cons_zero, List.getElem_cons_succ, List.setIfInBounds_toArray, List.set_cons_zero, List.set_cons_succ]
      refine wpPh_ready (rs := [8, 13]) (by kernel_rfl) (by simp) ?_
      refine AllPh.cons (o := _) rfl (fun K hK => ?_) ?_
      · refine step_append_typed lenP oneP rfl (.tmp 63) (.tmp 65) 27 rfl base 38 (.agg #[.int .i64 0, .int .i64 0, .int .i64 0, .int .i64 0]) 32 Try.underlying27 info38 rfl (by decide) (by decide) (.slice A' s.tr.length cA') s.tr (by simp [Act.eval, Act.put]) Fb.out.1.tr ⟨nb7, 0, none⟩ 1 1 [⟨ia, ik, ip, iv⟩] (by simp [Act.eval, Act.put]) rfl (by decide) (rd_blk encP 4 _ ⟨ia, ik, ip, iv⟩ Fb.out.2.2) (by omega) Fb.out.1.bw ?_
        intro g8 c8 uba hA hB hL
        have hz := Fb.out.1.trNew hA hB (hL.elim Or.inl (fun e => Or.inr (by omega))) (fun k p => Nat.lt_of_lt_of_le (HF.out.2.1 k p) Fb.out.2.1.size)
        have Fba := Lib.hid (And.intro (hz.1) (Fb.out.2.1.trans hz.2))
        clear hA hB hL hz
        refine hK.out _ _ (Ph.pre ?_ ?_) (fun hHeldr13 => ?_)
        · (try dsimp only)
          exact ⟨(Fba.out.1.at 0 _ rfl).1, (Fba.out.1.at 1 _ rfl).1⟩
        · (try dsimp only)
          exact HF.out.2.2.2 _ (Fba.out.2)
        clear hK K hHeldr12
        try simp only [Act.put, List.getElem_toArray, List.getElem_cons_zero, List.getElem_cons_succ, List.setIfInBounds_toArray, List.set_cons_zero, List.set_cons_succ]
        refine wpPh_ready (rs := [13]) (by kernel_rfl) (by simp) ?_
        refine AllPh.cons (o := _) rfl (fun K hK => ?_) AllPh.nil
        go_simp
        obtain ⟨ubac, hu⟩ : ∃ u, uba.alloc (.cells #[.int .i64 (-1)] 3) = u := ⟨_, rfl⟩
        have hbu : Below uba.heap.size uba ubac := by rw [← hu]; exact (Below.refl _ _).alloc (Nat.le_refl _) _
        have hnx : ubac.heap[uba.heap.size]? = some (.cells #[.int .i64 (-1)] 3 (0, 0)) := by rw [← hu]; exact Go.heap_alloc_new _ _
        obtain ⟨nb13, hnb⟩ : ∃ nb, uba.heap.size = nb := ⟨_, rfl⟩
        rw [hu]
        try rw [hnb]
        rw [hnb] at hnx
        have Fbac := Lib.hid (And.intro (Fba.out.1.rest hbu) (And.intro (Fba.out.2.trans (Ke.of hbu)) (hnx)))
        clear hu hbu hnx hnb
        refine hK.out _ _ (Ph.pre ?_ ?_) (fun hHeldr14 => ?_)
        · (try dsimp only)
          exact ⟨(Fbac.out.1.at 0 _ rfl).1, (Fbac.out.1.at 1 _ rfl).1⟩
        · (try dsimp only)
          exact HF.out.2.2.2 _ (Fbac.out.2.1)
        clear hK K hHeldr13
        try simp only [Act.put, List.getElem_toArray, List.getElem_cons_zero, List.getElem_cons_succ, List.setIfInBounds_toArray, List.set_cons_zero, List.set_cons_succ]
        refine wpPh_ready (rs := [14]) (by kernel_rfl) (by simp) ?_
        refine AllPh.cons (o := _) rfl (fun K hK => ?_) AllPh.nil
        refine step_append_typed lenI oneI rfl (.tmp 70) (.tmp 71) 32 rfl base 3 (.int .i64 0) 8 Try.underlying32 info3 rfl (by decide) (by decide) (.slice B' ys.length cB') ys (by simp [Act.eval, Act.put]) Fbac.out.1.re ⟨nb13, 0, none⟩ 1 1 [-1] (by simp [Act.eval, Act.put]) rfl (by decide) (rd_blk encI 1 _ (-1) Fbac.out.2.2) (by have := HY.out.1; omega) Fbac.out.1.bw ?_
        intro g14 c14 ubacd hA hB hL
        have hz := Fbac.out.1.reNew hA hB (hL.elim Or.inl (fun e => Or.inr (by omega))) (fun k p => Nat.lt_of_lt_of_le (HF.out.2.1 k p) Fbac.out.2.1.size)
        have Fbacd := Lib.hid (And.intro (hz.1) (Fbac.out.2.1.trans hz.2))
        clear hA hB hL hz
        refine hK.out _ _ (Ph.pre ?_ ?_) (fun hHeldr15 => ?_)
        · (try dsimp only)
          exact ⟨(Fbacd.out.1.at 0 _ rfl).1, (Fbacd.out.1.at 1 _ rfl).1⟩
        · (try dsimp only)
          exact HF.out.2.2.2 _ (Fbacd.out.2)
        clear hK K hHeldr14
        try simp only [Act.put, List.getElem_toArray, List.getElem_cons_zero, List.getElem_cons_succ, List.setIfInBounds_toArray, List.set_cons_zero, List.set_cons_succ]
        refine wpPh_take2 (i := 15) (oi := _) (v := ?vr16) rfl (by kernel_rfl) (by kernel_rfl) (by kernel_rfl) (by kernel_rfl) (fun _ _ _ h => h) (Or.inl ⟨by rfl, ?hyr16⟩) (by assumption) ?restr16
        case hyr16 => (intro w hSw; (try dsimp only at hSw); go_simp; all_goals with_reducible rfl)
        try simp only [Act.put, List.getElem_toArray, List.getElem_cons_zero, List.getElem_cons_succ, List.setIfInBounds_toArray, List.set_cons_zero, List.set_cons_succ]
        refine wpPh_take (i := 16) (oi := _) (v := ?vr17) rfl (by kernel_rfl) (by kernel_rfl) (by kernel_rfl) (by kernel_rfl) (fun _ _ _ h => h) (Or.inl ⟨by rfl, ?hyr17⟩) (by assumption) ?restr17
        case hyr17 => (intro w hSw; (try dsimp only at hSw); go_simp; all_goals with_reducible rfl)
        try simp only [Act.put, List.getElem_toArray, List.getElem_cons_zero, List.getElem_cons_succ, List.setIfInBounds_toArray, List.set_cons_zero, List.set_cons_succ]
        refine wpPh_ready (rs := [17]) (by kernel_rfl) (by simp) ?_
        refine AllPh.cons (o := _) rfl (fun K hK => ?_) AllPh.nil
        obtain ⟨t9, t8⟩ := Fbacd.out.1.at 0 _ rfl
        go_simp
        clear t9 t8
        have hz := Fbacd.out.1.setTop 0 (.slice (some ⟨g8, 0, none⟩) (s.tr.length + 1) c8) _ _ _ rfl
        obtain ⟨ubacds, hu⟩ : ∃ u, ubacd.setCell ⟨bf, 0, none⟩ (.slice (some ⟨g8, 0, none⟩) (s.tr.length + 1) c8) = u := ⟨_, rfl⟩
        rw [hu]
        rw [hu] at hz
        have Fbacds := Lib.hid (And.intro hz.1 (Fbacd.out.2.trans (Ke.grown hz.2 (fun k e => by obtain rfl := Option.some.inj e; exact Fbacd.out.1.pf))))
        clear hz hu
        refine hK.out _ _ (Ph.post (by kernel_rfl) ?_) (fun hHeldr18 => ?_)
        · (try dsimp only)
          exact HF.out.2.2.2 _ (Fbacds.out.2)
        clear hK K hHeldr15
        try simp only [Act.put, List.getElem_toArray, List.getElem_cons_zero, List.getElem_cons_succ, List.setIfInBounds_toArray, List.set_cons_zero, List.set_cons_succ]
        refine wpPh_take2 (i := 18) (oi := _) (v := ?vr19) rfl (by kernel_rfl) (by kernel_rfl) (by kernel_rfl) (by kernel_rfl) (fun _ _ _ h => h) (Or.inl ⟨by rfl, ?hyr19⟩) (by assumption) ?restr19
        case hyr19 => (intro w hSw; (try dsimp only at hSw); go_simp; all_goals with_reducible rfl)
        try simp only [Act.put, List.getElem_toArray, List.getElem_cons_zero, List.getElem_cons_succ, List.setIfInBounds_toArray, List.set_cons_zero, List.set_cons_succ]
        refine wpPh_take2 (i := 19) (oi := _) (v := ?vr20) rfl (by kernel_rfl) (by kernel_rfl) (by kernel_rfl) (by kernel_rfl) (fun _ _ _ h => h) (Or.inl ⟨by rfl, ?hyr20⟩) (by assumption) ?restr20
        case hyr20 => (intro w hSw; (try dsimp only at hSw); go_simp; all_goals with_reducible rfl)
        try simp only [Act.put, List.getElem_toArray, List.getElem_cons_zero, List.getElem_cons_succ, List.setIfInBounds_toArray, List.set_cons_zero, List.set_cons_succ]
        refine wpPh_ready (rs := [20]) (by kernel_rfl) (by simp) ?_
        refine AllPh.cons (o := _) rfl (fun K hK => ?_) AllPh.nil
        obtain ⟨t9, t8⟩ := Fbacds.out.1.at 1 _ rfl
        go_simp
        clear t9 t8
        have hz := Fbacds.out.1.setTop 1 (.slice (some ⟨g14, 0, none⟩) (ys.length + 1) c14) _ _ _ rfl
        obtain ⟨ubacdst, hu⟩ : ∃ u, ubacds.setCell ⟨bf, 1, none⟩ (.slice (some ⟨g14, 0, none⟩) (ys.length + 1) c14) = u := ⟨_, rfl⟩
        rw [hu]
        rw [hu] at hz
        have Fbacdst := Lib.hid (And.intro hz.1 (Fbacds.out.2.trans (Ke.grown hz.2 (fun k e => by obtain rfl := Option.some.inj e; exact Fbacds.out.1.pf))))
        clear hz hu
        refine hK.out _ _ (Ph.post (by kernel_rfl) ?_) (fun hHeldr21 => ?_)
        · (try dsimp only)
          exact HF.out.2.2.2 _ (Fbacdst.out.2)
        clear hK K hHeldr18
        try simp only [Act.put, List.getElem_toArray, List.getElem_cons_zero, List.getElem_cons_succ, List.setIfInBounds_toArray, List.set_cons_zero, List.set_cons_succ]
        refine wpPh_done (by kernel_rfl) ?_ _
        go_wp2_with fail
        go_end0
        refine ⟨rfl, ?_, HF.out.2.2.1 _ Fbacdst.out.2⟩
        rw [← HY.out.2]
        exact ⟨_, _, Fbacdst.out.1.imp (fun k h => Or.inl (HPP.out k h))⟩
      refine AllPh.cons (o := _) rfl (fun K hK => ?_) AllPh.nil
      go_simp
      obtain ⟨ubc, hu⟩ : ∃ u, ub.alloc (.cells #[.int .i64 (-1)] 3) = u := ⟨_, rfl⟩
      have hbu : Below ub.heap.size ub ubc := by rw [← hu]; exact (Below.refl _ _).alloc (Nat.le_refl _) _
      have hnx : ubc.heap[ub.heap.size]? = some (.cells #[.int .i64 (-1)] 3 (0, 0)) := by rw [← hu]; exact Go.heap_alloc_new _ _
      obtain ⟨nb13, hnb⟩ : ∃ nb, ub.heap.size = nb := ⟨_, rfl⟩
      rw [hu]
      try rw [hnb]
      rw [hnb] at hnx
      have Fbc := Lib.hid (And.intro (Fb.out.1.rest hbu) (And.intro (Fb.out.2.1.trans (Ke.of hbu)) (And.intro ((hbu.block _ (blk_lt Fb.out.2.2)).trans Fb.out.2.2) (hnx))))
      clear hu hbu hnx hnb
      refine hK.out _ _ (Ph.pre ?_ ?_) (fun hHeldr22 => ?_)
      · (try dsimp only)
        exact ⟨(Fbc.out.1.at 0 _ rfl).1, (Fbc.out.1.at 1 _ rfl).1⟩
      · (try dsimp only)
        exact HF.out.2.2.2 _ (Fbc.out.2.1)
      clear hK K hHeldr12
      try simp only [Act.put, List.getElem_toArray, List.getElem_cons_zero, List.getElem_cons_succ, List.setIfInBounds_toArray, List.set_cons_zero, List.set_cons_succ]
      refine wpPh_ready (rs := [8]) (by kernel_rfl) (by simp) ?_
      refine AllPh.cons (o := _) rfl (fun K hK => ?_) AllPh.nil
      refine step_append_typed lenP oneP rfl (.tmp 63) (.tmp 65) 27 rfl base 38 (.agg #[.int .i64 0, .int .i64 0, .int .i64 0, .int .i64 0]) 32 Try.underlying27 info38 rfl (by decide) (by decide) (.slice A' s.tr.length cA') s.tr (by simp [Act.eval, Act.put]) Fbc.out.1.tr ⟨nb7, 0, none⟩ 1 1 [⟨ia, ik, ip, iv⟩] (by simp [Act.eval, Act.put]) rfl (by decide) (rd_blk encP 4 _ ⟨ia, ik, ip, iv⟩ Fbc.out.2.2.1) (by omega) Fbc.out.1.bw ?_
      intro g8 c8 ubca hA hB hL
      have hz := Fbc.out.1.trNew hA hB (hL.elim Or.inl (fun e => Or.inr (by omega))) (fun k p => Nat.lt_of_lt_of_le (HF.out.2.1 k p) Fbc.out.2.1.size)
      have Fbca := Lib.hid (And.intro (hz.1) (And.intro (Fbc.out.2.1.trans hz.2) (keep_other hB Fbc.out.2.2.2 (own_ty Fbc.out.1.tr Fbc.out.2.2.2 (by decide)))))
      clear hA hB hL hz
      refine hK.out _ _ (Ph.pre ?_ ?_) (fun hHeldr23 => ?_)
      · (try dsimp only)
        exact ⟨(Fbca.out.1.at 0 _ rfl).1, (Fbca.out.1.at 1 _ rfl).1⟩
      · (try dsimp only)
        exact HF.out.2.2.2 _ (Fbca.out.2.1)
      clear hK K hHeldr22
      try simp only [Act.put, List.getElem_toArray, List.getElem_cons_zero, List.getElem_cons_succ, List.setIfInBounds_toArray, List.set_cons_zero, List.set_cons_succ]
      refine wpPh_ready (rs := [14]) (by kernel_rfl) (by simp) ?_
      refine AllPh.cons (o := _) rfl (fun K hK => ?_) AllPh.nil
      refine step_append_typed lenI oneI rfl (.tmp 70) (.tmp 71) 32 rfl base 3 (.int .i64 0) 8 Try.underlying32 info3 rfl (by decide) (by decide) (.slice B' ys.length cB') ys (by simp [Act.eval, Act.put]) Fbca.out.1.re ⟨nb13, 0, none⟩ 1 1 [-1] (by simp [Act.eval, Act.put]) rfl (by decide) (rd_blk encI 1 _ (-1) Fbca.out.2.2) (by have := HY.out.1; omega) Fbca.out.1.bw ?_
      intro g14 c14 ubcad hA hB hL
      have hz := Fbca.out.1.reNew hA hB (hL.elim Or.inl (fun e => Or.inr (by omega))) (fun k p => Nat.lt_of_lt_of_le (HF.out.2.1 k p) Fbca.out.2.1.size)
      have Fbcad := Lib.hid (And.intro (hz.1) (Fbca.out.2.1.trans hz.2))
      clear hA hB hL hz
      refine hK.out _ _ (Ph.pre ?_ ?_) (fun hHeldr24 => ?_)
      · (try dsimp only)
        exact ⟨(Fbcad.out.1.at 0 _ rfl).1, (Fbcad.out.1.at 1 _ rfl).1⟩
      · (try dsimp only)
        exact HF.out.2.2.2 _ (Fbcad.out.2)
      clear hK K hHeldr23
      try simp only [Act.put, List.getElem_toArray, List.getElem_cons_zero, List.getElem_cons_succ, List.setIfInBounds_toArray, List.set_cons_zero, List.set_cons_succ]
      refine wpPh_take2 (i := 15) (oi := _) (v := ?vr25) rfl (by kernel_rfl) (by kernel_rfl) (by kernel_rfl) (by kernel_rfl) (fun _ _ _ h => h) (Or.inl ⟨by rfl, ?hyr25⟩) (by assumption) ?restr25
      case hyr25 => (intro w hSw; (try dsimp only at hSw); go_simp; all_goals with_reducible rfl)
      try simp only [Act.put, List.getElem_toArray, List.getElem_cons_zero, List.getElem_cons_succ, List.setIfInBounds_toArray, List.set_cons_zero, List.set_cons_succ]
      refine wpPh_take (i := 16) (oi := _) (v := ?vr26) rfl (by kernel_rfl) (by kernel_rfl) (by kernel_rfl) (by kernel_rfl) (fun _ _ _ h => h) (Or.inl ⟨by rfl, ?hyr26⟩) (by assumption) ?restr26
      case hyr26 => (intro w hSw; (try dsimp only at hSw); go_simp; all_goals with_reducible rfl)
      try simp only [Act.put, List.getElem_toArray, List.getElem_cons_zero, List.getElem_cons_succ, List.setIfInBounds_toArray, List.set_cons_zero, List.set_cons_succ]
      refine wpPh_ready (rs := [17]) (by kernel_rfl) (by simp) ?_
      refine AllPh.cons (o := _) rfl (fun K hK => ?_) AllPh.nil
      obtain ⟨t9, t8⟩ := Fbcad.out.1.at 0 _ rfl
      go_simp
      clear t9 t8
      have hz := Fbcad.out.1.setTop 0 (.slice (some ⟨g8, 0, none⟩) (s.tr.length + 1) c8) _ _ _ rfl
      obtain ⟨ubcads, hu⟩ : ∃ u, ubcad.setCell ⟨bf, 0, none⟩ (.slice (some ⟨g8, 0, none⟩) (s.tr.length + 1) c8) = u := ⟨_, rfl⟩
      rw [hu]
      rw [hu] at hz
      have Fbcads := Lib.hid (And.intro hz.1 (Fbcad.out.2.trans (Ke.grown hz.2 (fun k e => by obtain rfl := Option.some.inj e; exact Fbcad.out.1.pf))))
      clear hz hu
      refine hK.out _ _ (Ph.post (by kernel_rfl) ?_) (fun hHeldr27 => ?_)
      · (try dsimp only)
        exact HF.out.2.2.2 _ (Fbcads.out.2)
      clear hK K hHeldr24
      try simp only [Act.put, List.getElem_toArray, List.getElem_cons_zero, List.getElem_cons_succ, List.setIfInBounds_toArray, List.set_cons_zero, List.set_cons_succ]
      refine wpPh_take2 (i := 18) (oi := _) (v := ?vr28) rfl (by kernel_rfl) (by kernel_rfl) (by kernel_rfl) (by kernel_rfl) (fun _ _ _ h => h) (Or.inl ⟨by rfl, ?hyr28⟩) (by assumption) ?restr28
      case hyr28 => (intro w hSw; (try dsimp only at hSw); go_simp; all_goals with_reducible rfl)
      try simp only [Act.put, List.getElem_toArray, List.getElem_cons_zero, List.getElem_cons_succ, List.setIfInBounds_toArray, List.set_cons_zero, List.set_cons_succ]
      refine wpPh_take2 (i := 19) (oi := _) (v := ?vr29) rfl (by kernel_rfl) (by kernel_rfl) (by kernel_rfl) (by kernel_rfl) (fun _ _ _ h => h) (Or.inl ⟨by rfl, ?hyr29⟩) (by assumption) ?restr29
      case hyr29 => (intro w hSw; (try dsimp only at hSw); go_simp; all_goals with_reducible rfl)
      try simp only [Act.put, List.getElem_toArray, List.getElem_cons_zero, List.getElem_cons_succ, List.setIfInBounds_toArray, List.set_cons_zero, List.set_cons_succ]
      refine wpPh_ready (rs := [20]) (by kernel_rfl) (by simp) ?_
      refine AllPh.cons (o := _) rfl (fun K hK => ?_) AllPh.nil
      obtain ⟨t9, t8⟩ := Fbcads.out.1.at 1 _ rfl
      go_simp
      clear t9 t8
      have hz := Fbcads.out.1.setTop 1 (.slice (some ⟨g14, 0, none⟩) (ys.length + 1) c14) _ _ _ rfl
      obtain ⟨ubcadst, hu⟩ : ∃ u, ubcads.setCell ⟨bf, 1, none⟩ (.slice (some ⟨g14, 0, none⟩) (ys.length + 1) c14) = u := ⟨_, rfl⟩
      rw [hu]
      rw [hu] at hz
      have Fbcadst := Lib.hid (And.intro hz.1 (Fbcads.out.2.trans (Ke.grown hz.2 (fun k e => by obtain rfl := Option.some.inj e; exact Fbcads.out.1.pf))))
      clear hz hu
      refine hK.out _ _ (Ph.post (by kernel_rfl) ?_) (fun hHeldr30 => ?_)
      · (try dsimp only)
        exact HF.out.2.2.2 _ (Fbcadst.out.2)
      clear hK K hHeldr27
      try simp only [Act.put, List.getElem_toArray, List.getElem_cons_zero, List.getElem_cons_succ, List.setIfInBounds_toArray, List.set_cons_zero, List.set_cons_succ]
      refine wpPh_done (by kernel_rfl) ?_ _
      go_wp2_with fail
      go_end0
      refine ⟨rfl, ?_, HF.out.2.2.1 _ Fbcadst.out.2⟩
      rw [← HY.out.2]
      exact ⟨_, _, Fbcadst.out.1.imp (fun k h => Or.inl (HPP.out k h))⟩
    refine AllPh.cons (o := _) rfl (fun K hK => ?_) AllPh.nil
    go_simp
    obtain ⟨uc, hu⟩ : ∃ u, wd.alloc (.cells #[.int .i64 (-1)] 3) = u := ⟨_, rfl⟩
    have hbu : Below wd.heap.size wd uc := by rw [← hu]; exact (Below.refl _ _).alloc (Nat.le_refl _) _
    have hnx : uc.heap[wd.heap.size]? = some (.cells #[.int .i64 (-1)] 3 (0, 0)) := by rw [← hu]; exact Go.heap_alloc_new _ _
    obtain ⟨nb13, hnb⟩ : ∃ nb, wd.heap.size = nb := ⟨_, rfl⟩
    rw [hu]
    try rw [hnb]
    rw [hnb] at hnx
    have Fc := Lib.hid (And.intro (F0.out.1.rest hbu) (And.intro (F0.out.2.trans (Ke.of hbu)) (hnx)))
    clear hu hbu hnx hnb
    refine hK.out _ _ (Ph.pre ?_ ?_) (fun hHeldr31 => ?_)
    · (try dsimp only)
      exact ⟨(Fc.out.1.at 0 _ rfl).1, (Fc.out.1.at 1 _ rfl).1⟩
    · (try dsimp only)
      exact HF.out.2.2.2 _ (Fc.out.2.1)
    clear hK K hHeldr
    try simp only [Act.put, List.getElem_toArray, List.getElem_cons_zero, List.getElem_cons_succ, List.setIfInBounds_toArray, List.set_cons_zero, List.set_cons_succ]
    refine wpPh_ready (rs := [7]) (by kernel_rfl) (by simp) ?_
    refine AllPh.cons (o := _) rfl (fun K hK => ?_) AllPh.nil
    go_simp
    obtain ⟨ucb, hu⟩ : ∃ u, uc.alloc (.cells #[.int .i64 ia, .int .i64 ik, .int .i64 ip, .int .i64 iv] 38) = u := ⟨_, rfl⟩
    have hbu : Below uc.heap.size uc ucb := by rw [← hu]; exact (Below.refl _ _).alloc (Nat.le_refl _) _
    have hnx : ucb.heap[uc.heap.size]? = some (.cells #[.int .i64 ia, .int .i64 ik, .int .i64 ip, .int .i64 iv] 38 (0, 0)) := by rw [← hu]; exact Go.heap_alloc_new _ _
    obtain ⟨nb7, hnb⟩ : ∃ nb, uc.heap.size = nb := ⟨_, rfl⟩
    rw [hu]
    try rw [hnb]
    rw [hnb] at hnx
    have Fcb := Lib.hid (And.intro (Fc.out.1.rest hbu) (And.intro (Fc.out.2.1.trans (Ke.of hbu)) (And.intro (hnx) ((hbu.block _ (blk_lt Fc.out.2.2)).trans Fc.out.2.2))))
    clear hu hbu hnx hnb
    refine hK.out _ _ (Ph.pre ?_ ?_) (fun hHeldr32 => ?_)
    · (try dsimp only)
      exact ⟨(Fcb.out.1.at 0 _ rfl).1, (Fcb.out.1.at 1 _ rfl).1⟩
    · (try dsimp only)
      exact HF.out.2.2.2 _ (Fcb.out.2.1)
    clear hK K hHeldr31
    try simp only [Act.put, List.getElem_toArray, List.getElem_cons_zero, List.getElem_cons_succ, List.setIfInBounds_toArray, List.set_cons_zero, List.set_cons_succ]
    refine wpPh_ready (rs := [8]) (by kernel_rfl) (by simp) ?_
    refine AllPh.cons (o := _) rfl (fun K hK => ?_) AllPh.nil
    refine step_append_typed lenP oneP rfl (.tmp 63) (.tmp 65) 27 rfl base 38 (.agg #[.int .i64 0, .int .i64 0, .int .i64 0, .int .i64 0]) 32 Try.underlying27 info38 rfl (by decide) (by decide) (.slice A' s.tr.length cA') s.tr (by simp [Act.eval, Act.put]) Fcb.out.1.tr ⟨nb7, 0, none⟩ 1 1 [⟨ia, ik, ip, iv⟩] (by simp [Act.eval, Act.put]) rfl (by decide) (rd_blk encP 4 _ ⟨ia, ik, ip, iv⟩ Fcb.out.2.2.1) (by omega) Fcb.out.1.bw ?_
    intro g8 c8 ucba hA hB hL
    have hz := Fcb.out.1.trNew hA hB (hL.elim Or.inl (fun e => Or.inr (by omega))) (fun k p => Nat.lt_of_lt_of_le (HF.out.2.1 k p) Fcb.out.2.1.size)
    have Fcba := Lib.hid (And.intro (hz.1) (And.intro (Fcb.out.2.1.trans hz.2) (keep_other hB Fcb.out.2.2.2 (own_ty Fcb.out.1.tr Fcb.out.2.2.2 (by decide)))))
    clear hA hB hL hz
    refine hK.out _ _ (Ph.pre ?_ ?_) (fun hHeldr33 => ?_)
    · (try dsimp only)
      exact ⟨(Fcba.out.1.at 0 _ rfl).1, (Fcba.out.1.at 1 _ rfl).1⟩
    · (try dsimp only)
      exact HF.out.2.2.2 _ (Fcba.out.2.1)
    clear hK K hHeldr32
    try simp only [Act.put, List.getElem_toArray, List.getElem_cons_zero, List.getElem_cons_succ, List.setIfInBounds_toArray, List.set_cons_zero, List.set_cons_succ]
    refine wpPh_ready (rs := [14]) (by kernel_rfl) (by simp) ?_
    refine AllPh.cons (o := _) rfl (fun K hK => ?_) AllPh.nil
    refine step_append_typed lenI oneI rfl (.tmp 70) (.tmp 71) 32 rfl base 3 (.int .i64 0) 8 Try.underlying32 info3 rfl (by decide) (by decide) (.slice B' ys.length cB') ys (by simp [Act.eval, Act.put]) Fcba.out.1.re ⟨nb13, 0, none⟩ 1 1 [-1] (by simp [Act.eval, Act.put]) rfl (by decide) (rd_blk encI 1 _ (-1) Fcba.out.2.2) (by have := HY.out.1; omega) Fcba.out.1.bw ?_
    intro g14 c14 ucbad hA hB hL
    have hz := Fcba.out.1.reNew hA hB (hL.elim Or.inl (fun e => Or.inr (by omega))) (fun k p => Nat.lt_of_lt_of_le (HF.out.2.1 k p) Fcba.out.2.1.size)
    have Fcbad := Lib.hid (And.intro (hz.1) (Fcba.out.2.1.trans hz.2))
    clear hA hB hL hz
    refine hK.out _ _ (Ph.pre ?_ ?_) (fun hHeldr34 => ?_)
    · (try dsimp only)
      exact ⟨(Fcbad.out.1.at 0 _ rfl).1, (Fcbad.out.1.at 1 _ rfl).1⟩
    · (try dsimp only)
      exact HF.out.2.2.2 _ (Fcbad.out.2)
    clear hK K hHeldr33
    try simp only [Act.put, List.getElem_toArray, List.getElem_cons_zero, List.getElem_cons_succ, List.setIfInBounds_toArray, List.set_cons_zero, List.set_cons_succ]
    refine wpPh_take2 (i := 15) (oi := _) (v := ?vr35) rfl (by kernel_rfl) (by kernel_rfl) (by kernel_rfl) (by kernel_rfl) (fun _ _ _ h => h) (Or.inl ⟨by rfl, ?hyr35⟩) (by assumption) ?restr35
    case hyr35 => (intro w hSw; (try dsimp only at hSw); go_simp; all_goals with_reducible rfl)
    try simp only [Act.put, List.getElem_toArray, List.getElem_cons_zero, List.getElem_cons_succ, List.setIfInBounds_toArray, List.set_cons_zero, List.set_cons_succ]
    refine wpPh_take (i := 16) (oi := _) (v := ?vr36) rfl (by kernel_rfl) (by kernel_rfl) (by kernel_rfl) (by kernel_rfl) (fun _ _ _ h => h) (Or.inl ⟨by rfl, ?hyr36⟩) (by assumption) ?restr36
    case hyr36 => (intro w hSw; (try dsimp only at hSw); go_simp; all_goals with_reducible rfl)
    try simp only [Act.put, List.getElem_toArray, List.getElem_cons_zero, List.getElem_cons_succ, List.setIfInBounds_toArray, List.set_cons_zero, List.set_cons_succ]
    refine wpPh_ready (rs := [17]) (by kernel_rfl) (by simp) ?_
    refine AllPh.cons (o := _) rfl (fun K hK => ?_) AllPh.nil
    obtain ⟨t9, t8⟩ := Fcbad.out.1.at 0 _ rfl
    go_simp
    clear t9 t8
    have hz := Fcbad.out.1.setTop 0 (.slice (some ⟨g8, 0, none⟩) (s.tr.length + 1) c8) _ _ _ rfl
    obtain ⟨ucbads, hu⟩ : ∃ u, ucbad.setCell ⟨bf, 0, none⟩ (.slice (some ⟨g8, 0, none⟩) (s.tr.length + 1) c8) = u := ⟨_, rfl⟩
    rw [hu]
    rw [hu] at hz
    have Fcbads := Lib.hid (And.intro hz.1 (Fcbad.out.2.trans (Ke.grown hz.2 (fun k e => by obtain rfl := Option.some.inj e; exact Fcbad.out.1.pf))))
    clear hz hu
    refine hK.out _ _ (Ph.post (by kernel_rfl) ?_) (fun hHeldr37 => ?_)
    · (try dsimp only)
      exact HF.out.2.2.2 _ (Fcbads.out.2)
    clear hK K hHeldr34
    try simp only [Act.put, List.getElem_toArray, List.getElem_cons_zero, List.getElem_cons_succ, List.setIfInBounds_toArray, List.set_cons_zero, List.set_cons_succ]
    refine wpPh_take2 (i := 18) (oi := _) (v := ?vr38) rfl (by kernel_rfl) (by kernel_rfl) (by kernel_rfl) (by kernel_rfl) (fun _ _ _ h => h) (Or.inl ⟨by rfl, ?hyr38⟩) (by assumption) ?restr38
    case hyr38 => (intro w hSw; (try dsimp only at hSw); go_simp; all_goals with_reducible rfl)
    try simp only [Act.put, List.getElem_toArray, List.getElem_cons_zero, List.getElem_cons_succ, List.setIfInBounds_toArray, List.set_cons_zero, List.set_cons_succ]
    refine wpPh_take2 (i := 19) (oi := _) (v := ?vr39) rfl (by kernel_rfl) (by kernel_rfl) (by kernel_rfl) (by kernel_rfl) (fun _ _ _ h => h) (Or.inl ⟨by rfl, ?hyr39⟩) (by assumption) ?restr39
    case hyr39 => (intro w hSw; (try dsimp only at hSw); go_simp; all_goals with_reducible rfl)
    try simp only [Act.put, List.getElem_toArray, List.getElem_cons_zero, List.getElem_cons_succ, List.setIfInBounds_toArray, List.set_cons_zero, List.set_cons_succ]
    refine wpPh_ready (rs := [20]) (by kernel_rfl) (by simp) ?_
    refine AllPh.cons (o := _) rfl (fun K hK => ?_) AllPh.nil
    obtain ⟨t9, t8⟩ := Fcbads.out.1.at 1 _ rfl
    go_simp
    clear t9 t8
    have hz := Fcbads.out.1.setTop 1 (.slice (some ⟨g14, 0, none⟩) (ys.length + 1) c14) _ _ _ rfl
    obtain ⟨ucbadst, hu⟩ : ∃ u, ucbads.setCell ⟨bf, 1, none⟩ (.slice (some ⟨g14, 0, none⟩) (ys.length + 1) c14) = u := ⟨_, rfl⟩
    rw [hu]
    rw [hu] at hz
    have Fcbadst := Lib.hid (And.intro hz.1 (Fcbads.out.2.trans (Ke.grown hz.2 (fun k e => by obtain rfl := Option.some.inj e; exact Fcbads.out.1.pf))))
    clear hz hu
    refine hK.out _ _ (Ph.post (by kernel_rfl) ?_) (fun hHeldr40 => ?_)
    · (try dsimp only)
      exact HF.out.2.2.2 _ (Fcbadst.out.2)
    clear hK K hHeldr37
    try simp only [Act.put, List.getElem_toArray, List.getElem_cons_zero, List.getElem_cons_succ, List.setIfInBounds_toArray, List.set_cons_zero, List.set_cons_succ]
    refine wpPh_done (by kernel_rfl) ?_ _
    go_wp2_with fail
    go_end0
    refine ⟨rfl, ?_, HF.out.2.2.1 _ Fcbadst.out.2⟩
    rw [← HY.out.2]
    exact ⟨_, _, Fcbadst.out.1.imp (fun k h => Or.inl (HPP.out k h))⟩
end Go.Proofs.Ytggidakiflnhhaa
