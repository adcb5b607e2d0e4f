import Derived.Test.YtggidakiflnhhaaAE
import Derived.Test.YtggidakiflnhhaaY
namespace Go.Proofs.Ytggidakiflnhhaa
open Go.RowKit
set_option maxHeartbeats 16000000
set_option maxRecDepth 100000
set_option linter.unusedSimpArgs false
set_option linter.unusedVariables false

theorem direct_calls (c : Cf) (l : List Op) (A : Option Addr) (cp : Nat) (w : World) (hA : Rd encP 4 w A l) :
    Calls Try.prog 19 #[c.val, .slice A l.length cp] w (DiPost c l w) := by
  have hsm := hA.small
  obtain ⟨W1, hW1⟩ : ∃ W1, w.alloc (.cells c.cells 25) = W1 := ⟨_, rfl⟩
  have hb1 : Below w.heap.size w W1 := by rw [← hW1]; exact (Below.refl _ w).alloc (Nat.le_refl _) _
  have hx1 : W1.heap[w.heap.size]? = some (.cells c.cells 25 (0, 0)) := by rw [← hW1]; exact Go.heap_alloc_new w _
  obtain ⟨bx, hbx⟩ : ∃ b, w.heap.size = b := ⟨_, rfl⟩
  rw [hbx] at hx1
  have hz : ∀ w', Below W1.heap.size W1 w' → w'.cell? ⟨bx, 0, none⟩ = some (.int .i64 c.L) ∧ w'.cell? ⟨bx, 1, none⟩ = some (.int .i64 c.W) ∧ w'.cell? ⟨bx, 2, none⟩ = some (.int .i64 c.N) ∧ w'.cell? ⟨bx, 3, none⟩ = some (.int .i64 c.H) := fun w' hb => by
    have hx := (hb.block _ (blk_lt hx1)).trans hx1
    refine ⟨?_, ?_, ?_, ?_⟩ <;> (rw [cell_of_row _ _ _ _ _ _ hx]; rfl)
  have HZ := Lib.hid hz
  have HR := Lib.hid (check_calls c l A cp W1 (hA.below hb1))
  have HW := Lib.hid (And.intro hW1 (And.intro hbx hb1))
  have HA := Lib.hid hA
  obtain ⟨z0, z1, z2, z3⟩ := HZ.out W1 (Below.refl _ _)
  clear hW1 hbx hb1 hx1 hz hA
  go_enter Try.func19, Try.ntmps19
  go_upto_region 1 with fail
  rw [HW.out.1]
  try rw [HW.out.2.1]
  by_cases hk : chkF c l = 0
  rotate_left
  · have d1 : decide (chkF c l = 0) = false := decide_eq_false hk
    have HK := Lib.hid hk
    obtain ⟨m, hm⟩ : ∃ m, chkF c l = m := ⟨_, rfl⟩
    rw [hm] at HR d1 hk
    have HM := Lib.hid hm
    clear hm
    go_wp2_with ((with_reducible refine (HR.out).mono ?_); rintro e w5 ⟨rfl, hb5⟩; have HB5 := Lib.hid (HW.out.2.2.trans (hb5.mono HW.out.2.2.size)); clear hb5)
    refine bodyPost_ret (v := .tuple #[.slice none 0 0, .slice none 0 0, .int .i64 m]) (by simp [results, Try.results19, go_sem]; try rfl) rfl ?_
    unfold DiPost
    rw [if_neg HK.out, HM.out]
    exact ⟨rfl, HB5.out⟩
  obtain ⟨hcf, hops⟩ := chk_parts hk
  obtain ⟨o1, o2, o3, o4, o5, o6, o7, o8, o9⟩ := hcf
  have hl2 : l.length ≤ 2000 := by
    have := hk
    unfold chkF at this
    rw [if_neg (fun h => h ⟨o1, o2, o3, o4, o5, o6, o7, o8, o9⟩)] at this
    apply Classical.byContradiction
    intro g
    rw [if_pos (by omega)] at this
    cases this
  rw [hk] at HR
  have HK := Lib.hid (And.intro hk hops)
  clear hk hops
  go_upto_region 4 with ((with_reducible refine (HR.out).mono ?_); rintro e w5 ⟨rfl, hb5⟩)
  clear z0 z1 z2 z3
  obtain ⟨z0, z1, z2, z3⟩ := HZ.out w5 hb5
  have hlo5 := HW.out.2.2.trans (hb5.mono HW.out.2.2.size)
  obtain ⟨bm, um, hmk, hrow, hbu, hge⟩ := made_row Try.underlying32 info3 rfl (by decide) c.W.toNat (by omega) c.W (by omega) w5
  have hwn : (c.W.toNat : Int) = c.W := by omega
  have H5 := Lib.hid (And.intro hlo5 (And.intro hbu (And.intro hrow (And.intro hge hb5))))
  clear hb5 hlo5 hrow hbu hge
  go_upto_region 5 with fail
  clear hmk z0 z1 z2 z3
  have hst : DiAt w5.heap.size bm (.slice none 0 0) (drF c l 0) um := ⟨⟨by simp [drF], Or.inl ⟨rfl, rfl⟩⟩, by simpa [drF] using H5.out.2.2.1, by simp [Value.ownBlock], H5.out.2.2.2.1, H5.out.2.1.size⟩
  have HS := Lib.hid (And.intro hst H5.out.2.1)
  clear hst
  go_wp2_with fail
  go_loopg [9, 11, 23, 24, 25, 26, 27, 28, 29, 30, 31, 32, 33, 34, 35, 36, 37, 38, 39, 40, 41, 42, 43, 44, 45, 46, 47] l.length (fun gk v9 v11 v23 v24 v25 v26 v27 v28 v29 v30 v31 v32 v33 v34 v35 v36 v37 v38 v39 v40 v41 v42 v43 v44 v45 v46 v47 wr => ∃ i : Nat, i + gk = l.length ∧ v23 = .int .i64 (i : Int) ∧ DiAt w5.heap.size bm v9 (drF c l i) wr ∧ Below w5.heap.size w5 wr)
  case atStart => exact ⟨0, by omega, rfl, HS.out.1, HS.out.2⟩
  case round =>
    obtain ⟨i, hi, rfl, hdi, hb⟩ := hrel
    obtain ⟨V, cV, rfl, _, _, _⟩ := hdi.val.form lenI
    have hDl := drF_len c l i (by omega)
    by_cases hlt : i < l.length
    · have hd : decide (i < l.length) = true := decide_eq_true hlt
      have hii : (i : Int) < (l.length : Int) := by omega
      have hDs := drF_succ c l i hlt
      have hb1 := H5.out.2.2.2.2.trans (hb.mono H5.out.2.2.2.2.size)
      have hop := HK.out.2 _ (List.getElem_mem hlt)
      obtain ⟨a, rfl, hca⟩ := (HA.out.below (HW.out.2.2.trans (hb1.mono HW.out.2.2.size))).cell i hlt
      obtain ⟨⟨ia, ik, ip, iv⟩, hoe⟩ : ∃ o, l[i] = o := ⟨_, rfl⟩
      rw [hoe] at hca hDs hop
      have x0 := hca 0 _ rfl
      have x1 := hca 1 _ rfl
      have x2 := hca 2 _ rfl
      have x3 := hca 3 _ rfl
      rw [Nat.add_zero] at x0
      rw [add_field _ _ _ (by decide)] at x1 x2 x3
      obtain ⟨W8, hW8⟩ : ∃ W8, wr.alloc (.cells #[.int .i64 ia, .int .i64 ik, .int .i64 ip, .int .i64 iv] 38) = W8 := ⟨_, rfl⟩
      have hb8 : Below wr.heap.size wr W8 := by rw [← hW8]; exact (Below.refl _ _).alloc (Nat.le_refl _) _
      have hx8 : W8.heap[wr.heap.size]? = some (.cells #[.int .i64 ia, .int .i64 ik, .int .i64 ip, .int .i64 iv] 38 (0, 0)) := by rw [← hW8]; exact Go.heap_alloc_new _ _
      obtain ⟨b8, hb8e⟩ : ∃ b, wr.heap.size = b := ⟨_, rfl⟩
      rw [hb8e] at hx8
      obtain ⟨D, hD⟩ : ∃ D, drF c l i = D := ⟨_, rfl⟩
      rw [hD] at hdi hDl hDs ⊢
      have hdi8 := hdi.rest hb8
      have hb58 := hb.trans (hb8.mono hb.size)
      have p1 : W8.cell? ⟨b8, 1, none⟩ = some (.int .i64 ik) := by rw [cell_of_row _ _ _ _ _ _ hx8]; rfl
      have p2 : W8.cell? ⟨b8, 2, none⟩ = some (.int .i64 ip) := by rw [cell_of_row _ _ _ _ _ _ hx8]; rfl
      have p3 : W8.cell? ⟨b8, 3, none⟩ = some (.int .i64 iv) := by rw [cell_of_row _ _ _ _ _ _ hx8]; rfl
      have HW8 := Lib.hid (And.intro hW8 (And.intro hb8e (And.intro hdi8 (And.intro hb58 hDs))))
      have HL := Lib.hid hDl
      obtain ⟨q1, q2, q3, q4, q5, q6⟩ := hop
      simp only at q1 q2 q3 q4 q5 q6
      clear hca hb hW8 hb8 hx8 hb8e hD hdi hdi8 hb58 hDs hDl hb1 hoe
      go_upto_region 9 with fail
      rw [HW8.out.1]
      try rw [HW8.out.2.1]
      clear x0 x1 x2 x3
      by_cases hk1 : ik = 1
      · subst hk1
        obtain ⟨pp, rfl⟩ : ∃ pp : Nat, ip = (pp : Int) := ⟨ip.toNat, by omega⟩
        have hpl : pp < D.1.length := by have := HL.out.1; omega
        have hplI : (pp : Int) < (c.W.toNat : Int) := by omega
        obtain ⟨x, hx⟩ : ∃ x, D.1.getD pp 0 = x := ⟨_, rfl⟩
        have hw1 := (HW8.out.2.2.1.word pp hpl).1
        rw [hx] at hw1
        have hdi9 : DiAt w5.heap.size bm (.slice V D.2.length cV) D (W8.alloc (.cells #[.int .i64 x] 3)) := HW8.out.2.2.1.rest ((Below.refl _ _).alloc (Nat.le_refl _) _)
        have hb9 : Below w5.heap.size w5 (W8.alloc (.cells #[.int .i64 x] 3)) := HW8.out.2.2.2.1.trans (((Below.refl _ _).alloc (Nat.le_refl _) _ : Below W8.heap.size W8 _).mono HW8.out.2.2.2.1.size)
        have HU := Lib.hid (And.intro hdi9 (And.intro hb9 (And.intro (show (D.2.length + 1) * 8 ≤ 140737488355328 by have := HL.out.2; omega) hx)))
        clear hx hdi9 hb9
        go_wp2_with (at_builtin; go_must (refine wpList_append_told lenI oneI _ rfl (.tmp 31) (.tmp 37) 32 rfl w5.heap.size 3 _ 8 Try.underlying32 info3 rfl (by decide) (by decide) (.slice V D.2.length cV) D.2 D.2.length rfl rfl HU.out.1.val ⟨W8.heap.size, 0, none⟩ 1 1 [x] rfl rfl (by decide) (rd_one encI 1 _ x 3 _ rfl _ rfl) HU.out.2.2.1 HU.out.1.bw ?_); intro g3 cap3 w7 hown7 hgr7 hl7; have HG := Lib.hid (And.intro hown7 (And.intro hgr7 hl7)); clear hown7 hgr7 hl7)
        go_roundg (gk - 1)
        case measure => omega
        case rel =>
          refine ⟨i + 1, by omega, by go_num, ?_, ?_⟩
          · rw [HW8.out.2.2.2.2]
            unfold drS
            rw [if_pos rfl]
            simp only [Int.toNat_natCast]
            rw [HU.out.2.2.2]
            refine HU.out.1.tell HG.out.1 HG.out.2.1 (fun k hk => ?_)
            simp [Value.ownBlock] at hk
            subst hk
            exact HG.out.2.2
          · exact HU.out.2.1.grown HG.out.2.1 HU.out.1.bw (fun k hk => (HU.out.1.val.blk k hk).1)
      · have d1 : decide (ik = 1) = false := decide_eq_false hk1
        by_cases hk2 : ik = 2
        · subst hk2
          obtain ⟨pp, rfl⟩ : ∃ pp : Nat, ip = (pp : Int) := ⟨ip.toNat, by omega⟩
          have hpl : pp < D.1.length := by have := HL.out.1; omega
          have hplI : (pp : Int) < (c.W.toNat : Int) := by omega
          obtain ⟨hw1, hw2⟩ := HW8.out.2.2.1.word pp hpl
          go_wp2_with fail
          go_roundg (gk - 1)
          case measure => omega
          case rel =>
            refine ⟨i + 1, by omega, by go_num, ?_, ?_⟩
            · rw [HW8.out.2.2.2.2]
              unfold drS
              rw [if_neg (show ¬ (2 : Int) = 1 by decide), if_pos rfl]
              simp only [Int.toNat_natCast]
              exact HW8.out.2.2.1.set pp iv
            · exact HW8.out.2.2.2.1.setCell HW8.out.2.2.1.bm_ _
        · have d2 : decide (ik = 2) = false := decide_eq_false hk2
          go_wp2_with fail
          go_roundg (gk - 1)
          case measure => omega
          case rel =>
            refine ⟨i + 1, by omega, by go_num, ?_, HW8.out.2.2.2.1⟩
            rw [HW8.out.2.2.2.2]
            unfold drS
            simp only
            rw [if_neg hk1, if_neg hk2]
            exact HW8.out.2.2.1
    · have hd : decide (i < l.length) = false := decide_eq_false hlt
      obtain rfl : i = l.length := by omega
      have HE := Lib.hid (And.intro hdi (And.intro (H5.out.1.trans (hb.mono H5.out.1.size)) hDl))
      clear hdi hb hDl
      go_wp2_with fail
      refine bodyPost_ret (v := .tuple #[.slice V (drF c l l.length).2.length cV, .slice (some ⟨bm, 0, none⟩) c.W.toNat c.W.toNat, .int .i64 0]) (by simp [results, Try.results19, go_sem]; try rfl) rfl ?_
      unfold DiPost
      rw [if_pos HK.out.1]
      refine ⟨V, cV, ⟨bm, 0, none⟩, by rw [HE.out.2.2.1], ?_, HE.out.1.rd (by rw [HE.out.2.2.1]; omega), HE.out.2.1⟩
      obtain ⟨_, _, h, _, hrd, _⟩ := HE.out.1.val.form lenI
      cases h
      exact hrd
end Go.Proofs.Ytggidakiflnhhaa
