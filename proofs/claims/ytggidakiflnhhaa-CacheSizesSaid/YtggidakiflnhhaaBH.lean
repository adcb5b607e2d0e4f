import Derived.Test.YtggidakiflnhhaaBG
import Derived.Test.YtggidakiflnhhaaAC
namespace Go.Proofs.Ytggidakiflnhhaa
open Go.RowKit
set_option maxHeartbeats 16000000
set_option maxRecDepth 100000
set_option linter.unusedSimpArgs false
set_option linter.unusedVariables false

theorem drF_W {c c' : Cf} (h : c'.W = c.W) (l : List Op) (n : Nat) : drF c' l n = drF c l n := by unfold drF; rw [h]
theorem fenced_rfree {c : Cf} {l : List Op} (hk : chkF c l = 0) : rfree (fnF l).tr := by
  obtain ⟨hc, ho⟩ := chk_parts hk
  exact (fnF_all (fun o h => op_gd hc (ho o h))).2.1
theorem rn_dr {c : Cf} {l : List Op} (hk : chkF c l = 0) (hf : rfree l) : rnV c l = (drF c l l.length).2 ∧ rnM c l = (drF c l l.length).1 := by
  unfold rnV rnM
  rw [if_pos hk, if_pos hk]
  exact gi_end hk hf
theorem sizes_law {c c' : Cf} {l : List Op} (hk : chkF c l = 0) (hl : l.length ≤ 200) (h1 : c'.L = c.L) (h2 : c'.W = c.W) (h3 : 1 ≤ c'.N ∧ c'.N ≤ 16) (h4 : 0 ≤ c'.H ∧ c'.H ≤ 8) :
    chkF c (fnF l).tr = 0 ∧ chkF c' (fnF l).tr = 0 ∧ rnV c' (fnF l).tr = rnV c (fnF l).tr ∧ rnM c' (fnF l).tr = rnM c (fnF l).tr := by
  have hk1 := fn_chk hk hl
  have hk2 : chkF c' (fnF l).tr = 0 := by
    obtain ⟨⟨a1, a2, a3, a4, a5, a6, a7, a8, a9⟩, ho⟩ := chk_parts hk1
    have hlen := chk_len hk1
    have hc' : cfOk c' := ⟨by omega, by omega, by omega, by omega, by omega, by omega, by omega, by omega, by omega⟩
    have ho' : ∀ o ∈ (fnF l).tr, opOk c' o := fun o h => by
      have := ho o h
      unfold opOk at this ⊢
      rw [h1, h2]; exact this
    unfold chkF
    rw [if_neg (fun h => h hc'), if_neg (by omega), if_pos ho']
  obtain ⟨e1, e2⟩ := rn_dr hk1 (fenced_rfree hk)
  obtain ⟨e3, e4⟩ := rn_dr hk2 (fenced_rfree hk)
  exact ⟨hk1, hk2, by rw [e1, e3, drF_W h2], by rw [e2, e4, drF_W h2]⟩
theorem cacheSizes_calls (c : Cf) (l : List Op) (A : Option Addr) (cp : Nat) (k1 k2 : Int) (hk1 : 0 ≤ k1 ∧ k1 ≤ 255) (hk2 : 0 ≤ k2 ∧ k2 ≤ 255) (hbd : l.length * 32 ≤ 140737488351232) (w : World) (hA : Rd encP 4 w A l) :
    Calls Try.prog 5 #[c.val, .slice A l.length cp, .int .u8 k1, .int .u8 k2] w fun e w' => e = .returned (.bool true) ∧ Below w.heap.size w w' := by
  have hsm := hA.small
  obtain ⟨x1, hx1, hx1b⟩ : ∃ x, k1.tmod 16 = x ∧ 0 ≤ x ∧ x < 16 := ⟨_, rfl, Int.tmod_nonneg _ hk1.1, Int.tmod_lt_of_pos _ (by decide)⟩
  obtain ⟨x2, hx2, hx2b⟩ : ∃ x, k2.tmod 9 = x ∧ 0 ≤ x ∧ x < 9 := ⟨_, rfl, Int.tmod_nonneg _ hk2.1, Int.tmod_lt_of_pos _ (by decide)⟩
  have HT := Lib.hid (And.intro hx1 hx2)
  clear hx1 hx2
  obtain ⟨n0, hn0⟩ : ∃ n, w.heap.size = n := ⟨_, rfl⟩
  obtain ⟨W1, hW1⟩ : ∃ W1, w.alloc (.cells c.cells 23) = W1 := ⟨_, rfl⟩
  have hb1 : Below w.heap.size w W1 := by rw [← hW1]; exact (Below.refl _ w).alloc (Nat.le_refl _) _
  have hx1' : W1.heap[n0]? = some (.cells c.cells 23 (0, 0)) := by rw [← hW1, ← hn0]; exact Go.heap_alloc_new w _
  have H1 := Lib.hid (And.intro hx1' (And.intro hb1 (hA.below hb1)))
  have HW := Lib.hid (And.intro hW1 hn0)
  have HL := Lib.hid hbd
  clear hb1 hx1' hA hW1 hn0 hbd
  go_enter Try.func5, Try.ntmps5
  go_upto_region 1 with fail
  rw [HW.out.1]
  rw [HW.out.2]
  go_upto_region 2 with (first | (refine wpList_load_row rfl 23 (.tmp 4) rfl n0 rfl 23 _ (0, 0) _ H1.out.1 Try.underlying23 rfl info23s ?_) | ((with_reducible refine (config_calls c _).mono ?_); rintro e w6 ⟨rfl, hb6⟩; have H6 := Lib.hid (And.intro (H1.out.2.1.trans (hb6.mono H1.out.2.1.size)) (H1.out.2.2.below hb6)); clear hb6) | ((with_reducible refine (ops_copy l A cp _ H6.out.2 HL.out).mono ?_); rintro e w7 ⟨v7, rfl, ho7, hb7⟩; obtain ⟨A7, c7, rfl, _, hr7, _⟩ := ho7.form lenP; have H7 := Lib.hid (And.intro (H6.out.1.trans (hb7.mono H6.out.1.size)) hr7); clear hb7 ho7 hr7))
  obtain ⟨W8, hW8⟩ : ∃ W, w7.alloc (.cells c.cells 25) = W := ⟨_, rfl⟩
  obtain ⟨n9, hn9⟩ : ∃ n, w7.heap.size = n := ⟨_, rfl⟩
  have hb8 : Below w7.heap.size w7 W8 := by rw [← hW8]; exact (Below.refl _ _).alloc (Nat.le_refl _) _
  have hx8 : W8.heap[n9]? = some (.cells c.cells 25 (0, 0)) := by rw [← hW8, ← hn9]; exact Go.heap_alloc_new _ _
  have hall : ∀ u, Below W8.heap.size W8 u → u.heap[n9]? = some (.cells c.cells 25 (0, 0)) ∧ Rd encP 4 u A7 l ∧ Below w.heap.size w u := fun u hu => by
    have h1 := hb8.trans (hu.mono hb8.size)
    exact ⟨(hu.block _ (blk_lt hx8)).trans hx8, H7.out.2.below h1, H7.out.1.trans (h1.mono H7.out.1.size)⟩
  rw [hW8, hn9]
  have H8 := Lib.hid hall
  have hck := check_calls c l A7 c7 W8 (hall W8 (Below.refl _ _)).2.1
  have HC := Lib.hid hck
  have q0 : W8.cell? ⟨n9, 0, none⟩ = some (.int .i64 c.L) := by rw [cell_of_row _ _ _ _ _ _ hx8]; rfl
  have q1 : W8.cell? ⟨n9, 1, none⟩ = some (.int .i64 c.W) := by rw [cell_of_row _ _ _ _ _ _ hx8]; rfl
  have q2 : W8.cell? ⟨n9, 2, none⟩ = some (.int .i64 c.N) := by rw [cell_of_row _ _ _ _ _ _ hx8]; rfl
  have q3 : W8.cell? ⟨n9, 3, none⟩ = some (.int .i64 c.H) := by rw [cell_of_row _ _ _ _ _ _ hx8]; rfl
  clear hb8 hx8 hall hW8 hn9 hck
  by_cases hl : l.length ≤ 60
  case neg =>
    have hd : decide (60 < l.length) = true := decide_eq_true (by omega)
    have hdI : (60 : Int) < (l.length : Int) := by omega
    go_wp2_with ((with_reducible refine (awake_calls _).mono ?_); rintro e w9 ⟨rfl, hb⟩; have HV := Lib.hid hb; clear hb)
    go_ret
    exact ⟨rfl, (H8.out _ (Below.refl _ _)).2.2.trans (HV.out.mono (H8.out _ (Below.refl _ _)).2.2.size)⟩
  case pos =>
    have hd : decide (60 < l.length) = false := decide_eq_false (by omega)
    have hdI : ¬ (60 : Int) < (l.length : Int) := by omega
    by_cases hk : chkF c l = 0
    case neg =>
      have hkb : (chkF c l != 0) = true := by rw [bne_iff_ne]; exact hk
      clear hk
      go_wp2_with (first | ((with_reducible refine (HC.out).mono ?_); rintro e w9 ⟨rfl, hb⟩; have HV := Lib.hid hb; clear hb) | ((with_reducible refine (awake_calls _).mono ?_); rintro e w10 ⟨rfl, hb⟩; have HV2 := Lib.hid (HV.out.trans (hb.mono HV.out.size)); clear hb))
      go_ret
      exact ⟨rfl, (H8.out _ HV2.out).2.2⟩
    case pos =>
      have hkb : (chkF c l != 0) = false := by rw [bne_eq_false_iff_eq]; exact hk
      obtain ⟨s1, s2, s3, s4⟩ := sizes_law (c' := ⟨c.L, c.W, 1 + x1, x2⟩) hk (by omega) rfl rfl (by simp only; omega) (by simp only; omega)
      obtain ⟨L, hL⟩ : ∃ L, (fnF l).tr = L := ⟨_, rfl⟩
      rw [hL] at s1 s2 s3 s4
      obtain ⟨rv, hrv⟩ : ∃ rv, rnV c L = rv := ⟨_, rfl⟩
      obtain ⟨rm, hrm⟩ : ∃ rm, rnM c L = rm := ⟨_, rfl⟩
      obtain ⟨⟨c1, c2, c3⟩, hrc⟩ : ∃ rc, rnC c L = rc := ⟨_, rfl⟩
      obtain ⟨⟨d1, d2, d3⟩, hrd⟩ : ∃ rc, rnC ⟨c.L, c.W, 1 + x1, x2⟩ L = rc := ⟨_, rfl⟩
      have hrun1 := fun B cB u (h : Rd encP 4 u B L) => (run_calls c L B cB u h).mono (fun e w' h => run_one h)
      have hrun2 := fun B cB u (h : Rd encP 4 u B L) => (run_calls ⟨c.L, c.W, 1 + x1, x2⟩ L B cB u h).mono (fun e w' h => run_one h)
      rw [s1, hrv, hrm, hrc] at hrun1
      rw [s2, s3, s4, hrv, hrm, hrd] at hrun2
      have hfen := fun u (hu : Below W8.heap.size W8 u) => (fence_calls c l (fun _ => by omega) A7 c7 u (H8.out u hu).2.1).mono (fun e w' h => (show ∃ B cB, e = .returned (.tuple #[.slice B L.length cB, .int .i64 0]) ∧ Rd encP 4 w' B L ∧ Below u.heap.size u w' by
        obtain ⟨h1, _, h3⟩ := h
        obtain ⟨v, rfl, ho⟩ := h1 hk
        rw [hL] at ho
        obtain ⟨B, cB, rfl, _, hr, _⟩ := ho.form lenP
        exact ⟨B, cB, rfl, hr, h3⟩))
      have hii := fun (xs : List Int) (B C : Option Addr) (cb cc : Nat) (u : World) (h1 : Rd encI 1 u B xs) (h2 : Rd encI 1 u C xs) => ints_calls xs xs B C cb cc u h1 h2
      simp only [decide_true] at hii
      have HII := Lib.hid hii
      have HR1 := Lib.hid hrun1
      have HR2 := Lib.hid hrun2
      have HF := Lib.hid hfen
      clear hrun1 hrun2 hfen hii hrv hrm hrc hrd s1 s2 s3 s4 hk hL
      go_upto_region 4 with ((with_reducible refine (HC.out).mono ?_); rintro e v1 ⟨rfl, hb⟩; have HV1 := Lib.hid hb; clear hb)
      clear q0 q1 q2 q3
      go_upto_region 7 with (first | (refine wpList_load_row rfl 25 (.tmp 9) rfl n9 rfl 25 _ (0, 0) _ (H8.out _ HV1.out).1 Try.underlying25 rfl info25s ?_) | ((with_reducible refine (HF.out _ HV1.out).mono ?_); rintro e v2 ⟨B, cB, rfl, hr, hb⟩; have HV2 := Lib.hid (And.intro (HV1.out.trans (hb.mono HV1.out.size)) hr); clear hb hr))
      go_upto_region 8 with (refine wpList_load_row rfl 25 (.tmp 9) rfl n9 rfl 25 _ (0, 0) _ (H8.out _ HV2.out.1).1 Try.underlying25 rfl info25s ?_)
      obtain ⟨U, hU⟩ : ∃ U, v2.alloc (.cells c.cells 25) = U := ⟨_, rfl⟩
      obtain ⟨n12, hn12⟩ : ∃ n, v2.heap.size = n := ⟨_, rfl⟩
      rw [hU, hn12]
      have hbU : Below v2.heap.size v2 U := by rw [← hU]; exact (Below.refl _ _).alloc (Nat.le_refl _) _
      have hxU : U.heap[n12]? = some (.cells c.cells 25 (0, 0)) := by rw [← hU, ← hn12]; exact Go.heap_alloc_new _ _
      obtain ⟨Z, hZ⟩ : ∃ Z, (U.setCell ⟨n12, 2, none⟩ (.int .i64 (1 + x1))).setCell ⟨n12, 3, none⟩ (.int .i64 x2) = Z := ⟨_, rfl⟩
      have hxZ : Z.heap[n12]? = some (.cells (⟨c.L, c.W, 1 + x1, x2⟩ : Cf).cells 25 (0, 0)) := by
        rw [← hZ]
        exact heap_setCell_same _ n12 3 _ _ (.int .i64 x2) (heap_setCell_same U n12 2 _ _ (.int .i64 (1 + x1)) hxU)
      have hbZ : Below v2.heap.size v2 Z := by rw [← hZ]; exact (hbU.setCell (Nat.le_of_eq hn12) _).setCell (Nat.le_of_eq hn12) _
      have f2 := frozen_of_row U n12 2 _ _ hxU
      have f3 := frozen_of_row U n12 3 _ _ hxU
      have k2' : U.cell? ⟨n12, 2, none⟩ = some (.int .i64 c.N) := by rw [cell_of_row _ _ _ _ _ _ hxU]; rfl
      have k3' : U.cell? ⟨n12, 3, none⟩ = some (.int .i64 c.H) := by rw [cell_of_row _ _ _ _ _ _ hxU]; rfl
      have HZ := Lib.hid (And.intro hxZ (And.intro (HV2.out.1.trans (hbZ.mono HV2.out.1.size)) (HV2.out.2.below hbZ)))
      have HZe := Lib.hid hZ
      clear hbU hxU hxZ hbZ hU hn12 hZ
      have hx1 := HT.out.1
      have hx2 := HT.out.2
      go_upto_region 9 with fail
      rw [HZe.out]
      clear hx1 hx2 f2 f3 k2' k3'
      have hallZ : ∀ u, Below Z.heap.size Z u → u.heap[n12]? = some (.cells (⟨c.L, c.W, 1 + x1, x2⟩ : Cf).cells 25 (0, 0)) ∧ Below W8.heap.size W8 u ∧ Rd encP 4 u B L := fun u hu =>
        ⟨(hu.block _ (blk_lt HZ.out.1)).trans HZ.out.1, HZ.out.2.1.trans (hu.mono HZ.out.2.1.size), HZ.out.2.2.below hu⟩
      have HA := Lib.hid hallZ
      clear hallZ
      go_upto_region 10 with (first | (refine wpList_load_row rfl 25 (.tmp 9) rfl n9 rfl 25 _ (0, 0) _ (H8.out _ HZ.out.2.1).1 Try.underlying25 rfl info25s ?_) | ((with_reducible refine (HR1.out B cB _ HZ.out.2.2).mono ?_); rintro e v3 ⟨V1, e1, M1, g1, rfl, hv3, hm3, hb⟩; have HV3 := Lib.hid (And.intro hb (And.intro hv3 hm3)); clear hb hv3 hm3))
      obtain ⟨U3, hU3⟩ : ∃ U, v3.alloc (.cells #[.int .i64 (c1 : Int), .int .i64 (c2 : Int), .int .i64 (c3 : Int)] 34) = U := ⟨_, rfl⟩
      rw [hU3]
      have hb3 : Below v3.heap.size v3 U3 := by rw [← hU3]; exact (Below.refl _ _).alloc (Nat.le_refl _) _
      have HU3 := Lib.hid (And.intro (HV3.out.1.trans (hb3.mono HV3.out.1.size)) (And.intro (HV3.out.2.1.below hb3) (HV3.out.2.2.below hb3)))
      clear hU3 hb3
      go_upto_region 11 with (first | (refine wpList_load_row rfl 25 (.tmp 12) rfl n12 rfl 25 _ (0, 0) _ (HA.out _ HU3.out.1).1 Try.underlying25 rfl info25s ?_) | ((with_reducible refine (HR2.out B cB _ (HA.out _ HU3.out.1).2.2).mono ?_); rintro e v4 ⟨V2, e2, M2, g2, rfl, hv4, hm4, hb⟩; have HV4 := Lib.hid (And.intro (HU3.out.1.trans (hb.mono HU3.out.1.size)) (And.intro hv4 (And.intro hm4 (And.intro (HU3.out.2.1.below hb) (HU3.out.2.2.below hb))))); clear hb hv4 hm4))
      obtain ⟨U4, hU4⟩ : ∃ U, v4.alloc (.cells #[.int .i64 (d1 : Int), .int .i64 (d2 : Int), .int .i64 (d3 : Int)] 34) = U := ⟨_, rfl⟩
      rw [hU4]
      have hb4 : Below v4.heap.size v4 U4 := by rw [← hU4]; exact (Below.refl _ _).alloc (Nat.le_refl _) _
      have HU4 := Lib.hid (And.intro (HV4.out.1.trans (hb4.mono HV4.out.1.size)) (And.intro (HV4.out.2.1.below hb4) (And.intro (HV4.out.2.2.1.below hb4) (And.intro (HV4.out.2.2.2.1.below hb4) (HV4.out.2.2.2.2.below hb4)))))
      clear hU4 hb4
      go_wp2_with (first | ((with_reducible refine (HII.out rv V1 V2 e1 e2 _ HU4.out.2.2.2.1 HU4.out.2.1).mono ?_); rintro e v9 ⟨rfl, hb⟩; have HV9 := Lib.hid (And.intro hb (And.intro (HU4.out.2.2.2.2.below hb) (HU4.out.2.2.1.below hb))); clear hb) | ((with_reducible refine (HII.out rm M1 M2 g1 g2 _ HV9.out.2.1 HV9.out.2.2).mono ?_); rintro e v10 ⟨rfl, hb⟩; have HV10 := Lib.hid hb; clear hb) | ((with_reducible refine (awake_calls _).mono ?_); rintro e v11 ⟨rfl, hb⟩; have HV11 := Lib.hid hb; clear hb))
      go_ret
      refine ⟨rfl, ?_⟩
      have h1 := (H8.out _ (HA.out _ HU4.out.1).2.1).2.2
      have h2 := h1.trans (HV9.out.1.mono h1.size)
      have h3 := h2.trans (HV10.out.mono h2.size)
      exact h3.trans (HV11.out.mono h3.size)
end Go.Proofs.Ytggidakiflnhhaa
