import Derived.Test.YtggidakiflnhhaaK
namespace Go.Proofs.Ytggidakiflnhhaa
open Go.RowKit
set_option maxHeartbeats 8000000
set_option maxRecDepth 100000
set_option linter.unusedSimpArgs false
set_option linter.unusedVariables false

theorem arr104 (a : Option Addr) (cap : Nat) (w : World) : (Instr.arrayAt 104 (.slice a 4 cap)).run Try.prog w = .ok (.pointer a) w := by
  simp [Instr.arrayAt, run_underlying Try.underlying104]
theorem idx104 (x0 x1 x2 x3 : Value) (w : World) : (Instr.index 104 (.agg #[x0, x1, x2, x3]) (.int .i64 0)).run Try.prog w = .ok x0 w ∧ (Instr.index 104 (.agg #[x0, x1, x2, x3]) (.int .i64 1)).run Try.prog w = .ok x1 w ∧ (Instr.index 104 (.agg #[x0, x1, x2, x3]) (.int .i64 2)).run Try.prog w = .ok x2 w ∧ (Instr.index 104 (.agg #[x0, x1, x2, x3]) (.int .i64 3)).run Try.prog w = .ok x3 w := by
  refine ⟨?_, ?_, ?_, ?_⟩ <;> (simp [Instr.index, run_underlying Try.underlying104, asIntOf, go_sem]; try rfl)
def FtPost (c : Cf) (bs bm bc base : Nat) (hole : Option Nat) (sv : List Value) (vv : Value) (ps : List (List Nat)) (A : AS) (k i : Nat) (es : List En) (e : En) (w : World) (x : Ending) (w' : World) : Prop :=
  x = .returned (.tuple #[]) ∧ Sys c bs bm bc base hole sv vv ps { A with f := A.f + 1, cs := A.cs.set k (es.set i (ftE A.m e)) } w' ∧ Bel base w w'
theorem fetch_calls {c : Cf} {bs bm bc base : Nat} {hole : Option Nat} {sv : List Value} {vv : Value} {ps : List (List Nat)} {A : AS} {w : World} (h : Sys c bs bm bc base hole sv vv ps A w)
    {k i : Nat} {l : List Nat} {p : Nat} {es : List En} {e : En} (hk : ps[k]? = some l) (hi : l[i]? = some p) (hc : A.cs[k]? = some es) (he : es[i]? = some e) (hm : A.m.length ≤ 256) (hl : e.l * 4 + 4 ≤ A.m.length) (hw : A.f < 1000000000) :
    Calls Try.prog 59 #[ptr bs, ptr p] w (FtPost c bs bm bc base hole sv vv ps A k i es e w) := by
  have hen : EnAt w p e := h.ent _ _ _ _ _ _ hk hc hi he
  have hself : A.cs.set k (es.set i e) = A.cs := by rw [set_same he, set_same hc]
  obtain ⟨s0, s1, s2, s3, s4, s5, s6, s7, s8, s9, s10⟩ := h.ten
  have hf := s10 4
  obtain ⟨W1, hW1⟩ : ∃ W1, w.setCell ⟨bs, 4, none⟩ (.int .i64 ((A.f : Int) + 1)) = W1 := ⟨_, rfl⟩
  have hg1 : w.grownBy W1 (some bs) := by rw [← hW1]; exact grownBy_set _ _ _ _
  have h1 : Sys c bs bm bc base hole sv vv ps { A with f := A.f + 1 } W1 := h.count _ rfl rfl rfl hg1 (by rw [← hW1, heap_setCell_same w bs 4 _ 71 _ h.top]; rfl)
  have hen1 : EnAt W1 p e := h1.ent _ _ _ _ _ _ hk hc hi he
  have w1 : IntKind.i64.wrap ((e.l : Int) * 4) = (e.l : Int) * 4 := by rw [IntKind.wrap_i64]; omega
  have w2 : wrap64 ((e.l : Int) * 4) = (e.l : Int) * 4 := wrap64_fit _ (by omega)
  have w3 : ((e.l : Int) * 4).toNat = e.l * 4 := by omega
  have w4 : (0 : Int) ≤ (e.l : Int) * 4 := by omega
  have w5 : (e.l : Int) * 4 ≤ (A.m.length : Int) := by omega
  have w6 : (A.m.length = e.l * 4) = False := by simp; omega
  have w7 : 4 ≤ A.m.length - e.l * 4 := by omega
  have w8 : e.l * 4 ≤ A.m.length := by omega
  have w9 : (4 : Int) ≤ ((A.m.length - e.l * 4 : Nat) : Int) := by omega
  obtain ⟨m0, hm0⟩ : ∃ x, A.m.getD (e.l * 4) 0 = x := ⟨_, rfl⟩
  obtain ⟨m1, hm1⟩ : ∃ x, A.m.getD (e.l * 4 + 1) 0 = x := ⟨_, rfl⟩
  obtain ⟨m2, hm2⟩ : ∃ x, A.m.getD (e.l * 4 + 2) 0 = x := ⟨_, rfl⟩
  obtain ⟨m3, hm3⟩ : ∃ x, A.m.getD (e.l * 4 + 3) 0 = x := ⟨_, rfl⟩
  have x0 := (h1.word (e.l * 4) (by simp only; omega)).1
  have x1 := (h1.word (e.l * 4 + 1) (by simp only; omega)).1
  have x2 := (h1.word (e.l * 4 + 2) (by simp only; omega)).1
  have x3 := (h1.word (e.l * 4 + 3) (by simp only; omega)).1
  simp only [hm0, hm1, hm2, hm3] at x0 x1 x2 x3
  have HM := Lib.hid (And.intro hm0 (And.intro hm1 (And.intro hm2 hm3)))
  have HW := Lib.hid hW1
  have H1 := Lib.hid (And.intro h1 (And.intro hen1 hg1))
  have H0 := Lib.hid (And.intro h (And.intro hk (And.intro hi (And.intro hc he))))
  have HS := Lib.hid hself
  clear hself hk hi hc he hen hW1 h1 hen1 hg1 hm0 hm1 hm2 hm3 h
  go_enter Try.func59, Try.ntmps59
  go_upto_region 1 with fail
  rw [HW.out]
  have hs7 := H1.out.1.ten.2.2.2.2.2.2.2.1
  have he0 := H1.out.2.1.thirteen.1
  simp only at hs7
  clear s0 s1 s2 s3 s4 s5 s6 s7 s8 s9 s10 hf
  have har := fun a cap w => arr104 a cap w
  go_quiet (fail)
  clear x0 x1 x2 x3 hs7 he0
  go_wp2_with fail
  go_loopg [4, 5, 28, 29, 30, 31, 32, 33, 34, 35, 36, 37, 38, 39, 40, 41, 42, 43, 44, 45, 46, 47, 48, 49, 50] 4 (fun gk v4 v5 v28 v29 v30 v31 v32 v33 v34 v35 v36 v37 v38 v39 v40 v41 v42 v43 v44 v45 v46 v47 v48 v49 v50 wr => ∃ j : Nat, j + gk = 4 ∧ v28 = .int .i64 (j : Int) ∧ Sys c bs bm bc base hole sv vv ps { A with f := A.f + 1, cs := A.cs.set k (es.set i ((List.range j).foldl (ftS A.m) e)) } wr ∧ Bel base w wr)
  case atStart => exact ⟨0, rfl, rfl, by show Sys c bs bm bc base hole sv vv ps { A with f := A.f + 1, cs := A.cs.set k (es.set i e) } _; rw [HS.out]; exact H1.out.1.rest (drewN_below (Below.refl _ _) _), (H0.out.1.below H0.out.1.pbs H1.out.2.2).trans (Bel.drewN _ _)⟩
  case round =>
    obtain ⟨j, hj, rfl, hs, hb⟩ := hrel
    by_cases hlt : j < 4
    · have hd : decide (j < 4) = true := decide_eq_true hlt
      rcases show j = 0 ∨ j = 1 ∨ j = 2 ∨ j = 3 by omega with rfl | rfl | rfl | rfl
      · have hen : EnAt wr p ((List.range 0).foldl (ftS A.m) e) := hs.ent k l _ i p _ H0.out.2.1 (List.getElem?_set_self (List.getElem?_eq_some_iff.1 H0.out.2.2.2.1).1) H0.out.2.2.1 (List.getElem?_set_self (List.getElem?_eq_some_iff.1 H0.out.2.2.2.2).1)
        have hfl : ((List.range 0).foldl (ftS A.m) e).l = e.l := fold_ftS_l _ _ _
        obtain ⟨f, hf⟩ : ∃ f, (List.range 0).foldl (ftS A.m) e = f := ⟨_, rfl⟩
        rw [hf] at hen hfl hs
        have hz := hen.cell 5 _ rfl
        have hix2 := fun w => (idx104 (.int .i64 m0) (.int .i64 m1) (.int .i64 m2) (.int .i64 m3) w).1
        have HX := Lib.hid (And.intro hs (And.intro hb (And.intro hen (And.intro hfl hf))))
        clear hs hb hen hfl hf
        go_wp2_with fail
        · rename_i ht
          have HT := Lib.hid (show ¬ f.v 0 = true by simpa using ht)
          have d0 := HX.out.2.2.1.cell 1 _ rfl
          have d1 := HX.out.2.2.1.frozen 1
          have v0 := HX.out.2.2.1.cell 5 _ rfl
          have v1 := HX.out.2.2.1.frozen 5
          refine wp_region_held_drew (S := (fun _ => True)) (by kernel_rfl) ?_ (fun hHelda => ?_)
          · (try dsimp only); try trivial
          refine wpAnyH_take (i := 0) (oi := _) (v := ?va1) rfl (by kernel_rfl) (by kernel_rfl) (by kernel_rfl) (fun _ _ _ h => h) (Or.inl ⟨by rfl, ?hya1⟩) (by assumption) ?resta1
          case hya1 => (intro w hSw; (try dsimp only at hSw); go_simp; all_goals with_reducible rfl)
          try simp only [Act.put, List.getElem_toArray, List.getElem_cons_zero, List.getElem_cons_succ, List.setIfInBounds_toArray, List.set_cons_zero, List.set_cons_succ]
          refine wpAnyH_take (i := 1) (oi := _) (v := ?va2) rfl (by kernel_rfl) (by kernel_rfl) (by kernel_rfl) (fun _ _ _ h => h) (Or.inl ⟨by rfl, ?hya2⟩) (by assumption) ?resta2
          case hya2 => (intro w hSw; (try dsimp only at hSw); go_simp; all_goals with_reducible rfl)
          try simp only [Act.put, List.getElem_toArray, List.getElem_cons_zero, List.getElem_cons_succ, List.setIfInBounds_toArray, List.set_cons_zero, List.set_cons_succ]
          refine wpAnyH_take (i := 2) (oi := _) (v := ?va3) rfl (by kernel_rfl) (by kernel_rfl) (by kernel_rfl) (fun _ _ _ h => h) (Or.inl ⟨by rfl, ?hya3⟩) (by assumption) ?resta3
          case hya3 => (intro w hSw; (try dsimp only at hSw); go_simp; all_goals with_reducible rfl)
          try simp only [Act.put, List.getElem_toArray, List.getElem_cons_zero, List.getElem_cons_succ, List.setIfInBounds_toArray, List.set_cons_zero, List.set_cons_succ]
          refine wpAnyH_take (i := 3) (oi := _) (v := ?va4) rfl (by kernel_rfl) (by kernel_rfl) (by kernel_rfl) (fun _ _ _ h => h) (Or.inl ⟨by rfl, ?hya4⟩) (by assumption) ?resta4
          case hya4 => (intro w hSw; (try dsimp only at hSw); go_simp; all_goals with_reducible rfl)
          try simp only [Act.put, List.getElem_toArray, List.getElem_cons_zero, List.getElem_cons_succ, List.setIfInBounds_toArray, List.set_cons_zero, List.set_cons_succ]
          refine wpAnyH_take (i := 4) (oi := _) (v := ?va5) rfl (by kernel_rfl) (by kernel_rfl) (by kernel_rfl) (fun _ _ _ h => h) (Or.inl ⟨by rfl, ?hya5⟩) (by assumption) ?resta5
          case hya5 => (intro w hSw; (try dsimp only at hSw); go_simp; all_goals with_reducible rfl)
          try simp only [Act.put, List.getElem_toArray, List.getElem_cons_zero, List.getElem_cons_succ, List.setIfInBounds_toArray, List.set_cons_zero, List.set_cons_succ]
          refine wpAnyH_take (i := 5) (oi := _) (v := ?va6) rfl (by kernel_rfl) (by kernel_rfl) (by kernel_rfl) (fun _ _ _ h => h) (Or.inl ⟨by rfl, ?hya6⟩) (by assumption) ?resta6
          case hya6 => (intro w hSw; (try dsimp only at hSw); go_simp; all_goals with_reducible rfl)
          try simp only [Act.put, List.getElem_toArray, List.getElem_cons_zero, List.getElem_cons_succ, List.setIfInBounds_toArray, List.set_cons_zero, List.set_cons_succ]
          refine wpAnyH_take (i := 6) (oi := _) (v := ?va7) rfl (by kernel_rfl) (by kernel_rfl) (by kernel_rfl) (fun _ _ _ h => h) (Or.inl ⟨by rfl, ?hya7⟩) (by assumption) ?resta7
          case hya7 => (intro w hSw; (try dsimp only at hSw); go_simp; all_goals with_reducible rfl)
          try simp only [Act.put, List.getElem_toArray, List.getElem_cons_zero, List.getElem_cons_succ, List.setIfInBounds_toArray, List.set_cons_zero, List.set_cons_succ]
          refine wpAnyH_take (i := 7) (oi := _) (v := ?va8) rfl (by kernel_rfl) (by kernel_rfl) (by kernel_rfl) (fun _ _ _ h => h) (Or.inl ⟨by rfl, ?hya8⟩) (by assumption) ?resta8
          case hya8 => (intro w hSw; (try dsimp only at hSw); go_simp; all_goals with_reducible rfl)
          try simp only [Act.put, List.getElem_toArray, List.getElem_cons_zero, List.getElem_cons_succ, List.setIfInBounds_toArray, List.set_cons_zero, List.set_cons_succ]
          refine wpAnyH_take (i := 9) (oi := _) (v := ?va9) rfl (by kernel_rfl) (by kernel_rfl) (by kernel_rfl) (fun _ _ _ h => h) (Or.inl ⟨by rfl, ?hya9⟩) (by assumption) ?resta9
          case hya9 => (intro w hSw; (try dsimp only at hSw); go_simp; all_goals with_reducible rfl)
          try simp only [Act.put, List.getElem_toArray, List.getElem_cons_zero, List.getElem_cons_succ, List.setIfInBounds_toArray, List.set_cons_zero, List.set_cons_succ]
          refine wpAnyH_take (i := 10) (oi := _) (v := ?va10) rfl (by kernel_rfl) (by kernel_rfl) (by kernel_rfl) (fun _ _ _ h => h) (Or.inl ⟨by rfl, ?hya10⟩) (by assumption) ?resta10
          case hya10 => (intro w hSw; (try dsimp only at hSw); go_simp; all_goals with_reducible rfl)
          try simp only [Act.put, List.getElem_toArray, List.getElem_cons_zero, List.getElem_cons_succ, List.setIfInBounds_toArray, List.set_cons_zero, List.set_cons_succ]
          refine wpAnyH_ready (rs := [8]) (by kernel_rfl) (by simp) ?_
          refine AllReadyH.cons (o := _) rfl (fun K hK => ?_) AllReadyH.nil
          go_simp
          refine hK.out _ _ ?_ (fun hHelda11 => ?_)
          · (try dsimp only); try trivial
          clear hK K hHelda
          try simp only [Act.put, List.getElem_toArray, List.getElem_cons_zero, List.getElem_cons_succ, List.setIfInBounds_toArray, List.set_cons_zero, List.set_cons_succ]
          refine wpAnyH_take (i := 11) (oi := _) (v := ?va12) rfl (by kernel_rfl) (by kernel_rfl) (by kernel_rfl) (fun _ _ _ h => h) (Or.inl ⟨by rfl, ?hya12⟩) (by assumption) ?resta12
          case hya12 => (intro w hSw; (try dsimp only at hSw); go_simp; all_goals with_reducible rfl)
          try simp only [Act.put, List.getElem_toArray, List.getElem_cons_zero, List.getElem_cons_succ, List.setIfInBounds_toArray, List.set_cons_zero, List.set_cons_succ]
          refine wpAnyH_ready (rs := [12]) (by kernel_rfl) (by simp) ?_
          refine AllReadyH.cons (o := _) rfl (fun K hK => ?_) AllReadyH.nil
          go_simp
          refine hK.out _ _ ?_ (fun hHelda13 => ?_)
          · (try dsimp only); try trivial
          clear hK K hHelda11
          try simp only [Act.put, List.getElem_toArray, List.getElem_cons_zero, List.getElem_cons_succ, List.setIfInBounds_toArray, List.set_cons_zero, List.set_cons_succ]
          refine wpAnyH_done (by kernel_rfl) ?_ _
          skip
          go_wp2_with fail
          go_roundg (gk - 1)
          case measure => omega
          case rel =>
            have e1 : EnAt (wr.drew.setCell ⟨p, 1, none⟩ (.int .i64 m0)) p { f with d := upd f.d 0 m0 } := (HX.out.2.2.1.rest (bb_drew (Below.refl _ _))).set 1 _ (En.set_d f 0 (by decide) m0)
            have e2 := e1.set 5 (.bool true) (En.set_v _ 0 (by decide) true)
            have hg := grownBy_trans (grownBy_set wr.drew p 1 (.int .i64 m0)) (grownBy_set _ p 5 (.bool true))
            have h5 := (HX.out.1.rest (bb_drew (Below.refl _ _))).setEnt H0.out.2.1 H0.out.2.2.1 (List.getElem?_set_self (List.getElem?_eq_some_iff.1 H0.out.2.2.2.1).1) (ftS A.m f 0) hg (by
              unfold EnAt at e2
              rw [e2]
              unfold ftS
              rw [if_neg HT.out, HX.out.2.2.2.1]
              try simp only [Nat.add_zero]
              rw [HM.out.1])
            refine ⟨0 + 1, by omega, by go_num, ?_, HX.out.2.1.trans (HX.out.1.below (HX.out.1.pen H0.out.2.1 H0.out.2.2.1) (grownBy_of_drew hg))⟩
            rw [range_succ_foldl, HX.out.2.2.2.2]
            simp only [List.set_set] at h5
            exact h5
        · rename_i ht
          have HT := Lib.hid (show f.v 0 = true by simpa using ht)
          go_roundg (gk - 1)
          case measure => omega
          case rel =>
            refine ⟨0 + 1, by omega, by go_num, ?_, HX.out.2.1⟩
            rw [range_succ_foldl, HX.out.2.2.2.2]
            unfold ftS
            rw [if_pos HT.out]
            exact HX.out.1
      · have hen : EnAt wr p ((List.range 1).foldl (ftS A.m) e) := hs.ent k l _ i p _ H0.out.2.1 (List.getElem?_set_self (List.getElem?_eq_some_iff.1 H0.out.2.2.2.1).1) H0.out.2.2.1 (List.getElem?_set_self (List.getElem?_eq_some_iff.1 H0.out.2.2.2.2).1)
        have hfl : ((List.range 1).foldl (ftS A.m) e).l = e.l := fold_ftS_l _ _ _
        obtain ⟨f, hf⟩ : ∃ f, (List.range 1).foldl (ftS A.m) e = f := ⟨_, rfl⟩
        rw [hf] at hen hfl hs
        have hz := hen.cell 6 _ rfl
        have hix2 := fun w => (idx104 (.int .i64 m0) (.int .i64 m1) (.int .i64 m2) (.int .i64 m3) w).2.1
        have HX := Lib.hid (And.intro hs (And.intro hb (And.intro hen (And.intro hfl hf))))
        clear hs hb hen hfl hf
        go_wp2_with fail
        · rename_i ht
          have HT := Lib.hid (show ¬ f.v 1 = true by simpa using ht)
          have d0 := HX.out.2.2.1.cell 2 _ rfl
          have d1 := HX.out.2.2.1.frozen 2
          have v0 := HX.out.2.2.1.cell 6 _ rfl
          have v1 := HX.out.2.2.1.frozen 6
          refine wp_region_held_drew (S := (fun _ => True)) (by kernel_rfl) ?_ (fun hHeldb => ?_)
          · (try dsimp only); try trivial
          refine wpAnyH_take (i := 0) (oi := _) (v := ?vb1) rfl (by kernel_rfl) (by kernel_rfl) (by kernel_rfl) (fun _ _ _ h => h) (Or.inl ⟨by rfl, ?hyb1⟩) (by assumption) ?restb1
          case hyb1 => (intro w hSw; (try dsimp only at hSw); go_simp; all_goals with_reducible rfl)
          try simp only [Act.put, List.getElem_toArray, List.getElem_cons_zero, List.getElem_cons_succ, List.setIfInBounds_toArray, List.set_cons_zero, List.set_cons_succ]
          refine wpAnyH_take (i := 1) (oi := _) (v := ?vb2) rfl (by kernel_rfl) (by kernel_rfl) (by kernel_rfl) (fun _ _ _ h => h) (Or.inl ⟨by rfl, ?hyb2⟩) (by assumption) ?restb2
          case hyb2 => (intro w hSw; (try dsimp only at hSw); go_simp; all_goals with_reducible rfl)
          try simp only [Act.put, List.getElem_toArray, List.getElem_cons_zero, List.getElem_cons_succ, List.setIfInBounds_toArray, List.set_cons_zero, List.set_cons_succ]
          refine wpAnyH_take (i := 2) (oi := _) (v := ?vb3) rfl (by kernel_rfl) (by kernel_rfl) (by kernel_rfl) (fun _ _ _ h => h) (Or.inl ⟨by rfl, ?hyb3⟩) (by assumption) ?restb3
          case hyb3 => (intro w hSw; (try dsimp only at hSw); go_simp; all_goals with_reducible rfl)
          try simp only [Act.put, List.getElem_toArray, List.getElem_cons_zero, List.getElem_cons_succ, List.setIfInBounds_toArray, List.set_cons_zero, List.set_cons_succ]
          refine wpAnyH_take (i := 3) (oi := _) (v := ?vb4) rfl (by kernel_rfl) (by kernel_rfl) (by kernel_rfl) (fun _ _ _ h => h) (Or.inl ⟨by rfl, ?hyb4⟩) (by assumption) ?restb4
          case hyb4 => (intro w hSw; (try dsimp only at hSw); go_simp; all_goals with_reducible rfl)
          try simp only [Act.put, List.getElem_toArray, List.getElem_cons_zero, List.getElem_cons_succ, List.setIfInBounds_toArray, List.set_cons_zero, List.set_cons_succ]
          refine wpAnyH_take (i := 4) (oi := _) (v := ?vb5) rfl (by kernel_rfl) (by kernel_rfl) (by kernel_rfl) (fun _ _ _ h => h) (Or.inl ⟨by rfl, ?hyb5⟩) (by assumption) ?restb5
          case hyb5 => (intro w hSw; (try dsimp only at hSw); go_simp; all_goals with_reducible rfl)
          try simp only [Act.put, List.getElem_toArray, List.getElem_cons_zero, List.getElem_cons_succ, List.setIfInBounds_toArray, List.set_cons_zero, List.set_cons_succ]
          refine wpAnyH_take (i := 5) (oi := _) (v := ?vb6) rfl (by kernel_rfl) (by kernel_rfl) (by kernel_rfl) (fun _ _ _ h => h) (Or.inl ⟨by rfl, ?hyb6⟩) (by assumption) ?restb6
          case hyb6 => (intro w hSw; (try dsimp only at hSw); go_simp; all_goals with_reducible rfl)
          try simp only [Act.put, List.getElem_toArray, List.getElem_cons_zero, List.getElem_cons_succ, List.setIfInBounds_toArray, List.set_cons_zero, List.set_cons_succ]
          refine wpAnyH_take (i := 6) (oi := _) (v := ?vb7) rfl (by kernel_rfl) (by kernel_rfl) (by kernel_rfl) (fun _ _ _ h => h) (Or.inl ⟨by rfl, ?hyb7⟩) (by assumption) ?restb7
          case hyb7 => (intro w hSw; (try dsimp only at hSw); go_simp; all_goals with_reducible rfl)
          try simp only [Act.put, List.getElem_toArray, List.getElem_cons_zero, List.getElem_cons_succ, List.setIfInBounds_toArray, List.set_cons_zero, List.set_cons_succ]
          refine wpAnyH_take (i := 7) (oi := _) (v := ?vb8) rfl (by kernel_rfl) (by kernel_rfl) (by kernel_rfl) (fun _ _ _ h => h) (Or.inl ⟨by rfl, ?hyb8⟩) (by assumption) ?restb8
          case hyb8 => (intro w hSw; (try dsimp only at hSw); go_simp; all_goals with_reducible rfl)
          try simp only [Act.put, List.getElem_toArray, List.getElem_cons_zero, List.getElem_cons_succ, List.setIfInBounds_toArray, List.set_cons_zero, List.set_cons_succ]
          refine wpAnyH_take (i := 9) (oi := _) (v := ?vb9) rfl (by kernel_rfl) (by kernel_rfl) (by kernel_rfl) (fun _ _ _ h => h) (Or.inl ⟨by rfl, ?hyb9⟩) (by assumption) ?restb9
          case hyb9 => (intro w hSw; (try dsimp only at hSw); go_simp; all_goals with_reducible rfl)
          try simp only [Act.put, List.getElem_toArray, List.getElem_cons_zero, List.getElem_cons_succ, List.setIfInBounds_toArray, List.set_cons_zero, List.set_cons_succ]
          refine wpAnyH_take (i := 10) (oi := _) (v := ?vb10) rfl (by kernel_rfl) (by kernel_rfl) (by kernel_rfl) (fun _ _ _ h => h) (Or.inl ⟨by rfl, ?hyb10⟩) (by assumption) ?restb10
          case hyb10 => (intro w hSw; (try dsimp only at hSw); go_simp; all_goals with_reducible rfl)
          try simp only [Act.put, List.getElem_toArray, List.getElem_cons_zero, List.getElem_cons_succ, List.setIfInBounds_toArray, List.set_cons_zero, List.set_cons_succ]
          refine wpAnyH_ready (rs := [8]) (by kernel_rfl) (by simp) ?_
          refine AllReadyH.cons (o := _) rfl (fun K hK => ?_) AllReadyH.nil
          go_simp
          refine hK.out _ _ ?_ (fun hHeldb11 => ?_)
          · (try dsimp only); try trivial
          clear hK K hHeldb
          try simp only [Act.put, List.getElem_toArray, List.getElem_cons_zero, List.getElem_cons_succ, List.setIfInBounds_toArray, List.set_cons_zero, List.set_cons_succ]
          refine wpAnyH_take (i := 11) (oi := _) (v := ?vb12) rfl (by kernel_rfl) (by kernel_rfl) (by kernel_rfl) (fun _ _ _ h => h) (Or.inl ⟨by rfl, ?hyb12⟩) (by assumption) ?restb12
          case hyb12 => (intro w hSw; (try dsimp only at hSw); go_simp; all_goals with_reducible rfl)
          try simp only [Act.put, List.getElem_toArray, List.getElem_cons_zero, List.getElem_cons_succ, List.setIfInBounds_toArray, List.set_cons_zero, List.set_cons_succ]
          refine wpAnyH_ready (rs := [12]) (by kernel_rfl) (by simp) ?_
          refine AllReadyH.cons (o := _) rfl (fun K hK => ?_) AllReadyH.nil
          go_simp
          refine hK.out _ _ ?_ (fun hHeldb13 => ?_)
          · (try dsimp only); try trivial
          clear hK K hHeldb11
          try simp only [Act.put, List.getElem_toArray, List.getElem_cons_zero, List.getElem_cons_succ, List.setIfInBounds_toArray, List.set_cons_zero, List.set_cons_succ]
          refine wpAnyH_done (by kernel_rfl) ?_ _
          skip
          go_wp2_with fail
          go_roundg (gk - 1)
          case measure => omega
          case rel =>
            have e1 : EnAt (wr.drew.setCell ⟨p, 2, none⟩ (.int .i64 m1)) p { f with d := upd f.d 1 m1 } := (HX.out.2.2.1.rest (bb_drew (Below.refl _ _))).set 2 _ (En.set_d f 1 (by decide) m1)
            have e2 := e1.set 6 (.bool true) (En.set_v _ 1 (by decide) true)
            have hg := grownBy_trans (grownBy_set wr.drew p 2 (.int .i64 m1)) (grownBy_set _ p 6 (.bool true))
            have h5 := (HX.out.1.rest (bb_drew (Below.refl _ _))).setEnt H0.out.2.1 H0.out.2.2.1 (List.getElem?_set_self (List.getElem?_eq_some_iff.1 H0.out.2.2.2.1).1) (ftS A.m f 1) hg (by
              unfold EnAt at e2
              rw [e2]
              unfold ftS
              rw [if_neg HT.out, HX.out.2.2.2.1]
              try simp only [Nat.add_zero]
              rw [HM.out.2.1])
            refine ⟨1 + 1, by omega, by go_num, ?_, HX.out.2.1.trans (HX.out.1.below (HX.out.1.pen H0.out.2.1 H0.out.2.2.1) (grownBy_of_drew hg))⟩
            rw [range_succ_foldl, HX.out.2.2.2.2]
            simp only [List.set_set] at h5
            exact h5
        · rename_i ht
          have HT := Lib.hid (show f.v 1 = true by simpa using ht)
          go_roundg (gk - 1)
          case measure => omega
          case rel =>
            refine ⟨1 + 1, by omega, by go_num, ?_, HX.out.2.1⟩
            rw [range_succ_foldl, HX.out.2.2.2.2]
            unfold ftS
            rw [if_pos HT.out]
            exact HX.out.1
      · have hen : EnAt wr p ((List.range 2).foldl (ftS A.m) e) := hs.ent k l _ i p _ H0.out.2.1 (List.getElem?_set_self (List.getElem?_eq_some_iff.1 H0.out.2.2.2.1).1) H0.out.2.2.1 (List.getElem?_set_self (List.getElem?_eq_some_iff.1 H0.out.2.2.2.2).1)
        have hfl : ((List.range 2).foldl (ftS A.m) e).l = e.l := fold_ftS_l _ _ _
        obtain ⟨f, hf⟩ : ∃ f, (List.range 2).foldl (ftS A.m) e = f := ⟨_, rfl⟩
        rw [hf] at hen hfl hs
        have hz := hen.cell 7 _ rfl
        have hix2 := fun w => (idx104 (.int .i64 m0) (.int .i64 m1) (.int .i64 m2) (.int .i64 m3) w).2.2.1
        have HX := Lib.hid (And.intro hs (And.intro hb (And.intro hen (And.intro hfl hf))))
        clear hs hb hen hfl hf
        go_wp2_with fail
        · rename_i ht
          have HT := Lib.hid (show ¬ f.v 2 = true by simpa using ht)
          have d0 := HX.out.2.2.1.cell 3 _ rfl
          have d1 := HX.out.2.2.1.frozen 3
          have v0 := HX.out.2.2.1.cell 7 _ rfl
          have v1 := HX.out.2.2.1.frozen 7
          refine wp_region_held_drew (S := (fun _ => True)) (by kernel_rfl) ?_ (fun hHeldc => ?_)
          · (try dsimp only); try trivial
          refine wpAnyH_take (i := 0) (oi := _) (v := ?vc1) rfl (by kernel_rfl) (by kernel_rfl) (by kernel_rfl) (fun _ _ _ h => h) (Or.inl ⟨by rfl, ?hyc1⟩) (by assumption) ?restc1
          case hyc1 => (intro w hSw; (try dsimp only at hSw); go_simp; all_goals with_reducible rfl)
          try simp only [Act.put, List.getElem_toArray, List.getElem_cons_zero, List.getElem_cons_succ, List.setIfInBounds_toArray, List.set_cons_zero, List.set_cons_succ]
          refine wpAnyH_take (i := 1) (oi := _) (v := ?vc2) rfl (by kernel_rfl) (by kernel_rfl) (by kernel_rfl) (fun _ _ _ h => h) (Or.inl ⟨by rfl, ?hyc2⟩) (by assumption) ?restc2
          case hyc2 => (intro w hSw; (try dsimp only at hSw); go_simp; all_goals with_reducible rfl)
          try simp only [Act.put, List.getElem_toArray, List.getElem_cons_zero, List.getElem_cons_succ, List.setIfInBounds_toArray, List.set_cons_zero, List.set_cons_succ]
          refine wpAnyH_take (i := 2) (oi := _) (v := ?vc3) rfl (by kernel_rfl) (by kernel_rfl) (by kernel_rfl) (fun _ _ _ h => h) (Or.inl ⟨by rfl, ?hyc3⟩) (by assumption) ?restc3
          case hyc3 => (intro w hSw; (try dsimp only at hSw); go_simp; all_goals with_reducible rfl)
          try simp only [Act.put, List.getElem_toArray, List.getElem_cons_zero, List.getElem_cons_succ, List.setIfInBounds_toArray, List.set_cons_zero, List.set_cons_succ]
          refine wpAnyH_take (i := 3) (oi := _) (v := ?vc4) rfl (by kernel_rfl) (by kernel_rfl) (by kernel_rfl) (fun _ _ _ h => h) (Or.inl ⟨by rfl, ?hyc4⟩) (by assumption) ?restc4
          case hyc4 => (intro w hSw; (try dsimp only at hSw); go_simp; all_goals with_reducible rfl)
          try simp only [Act.put, List.getElem_toArray, List.getElem_cons_zero, List.getElem_cons_succ, List.setIfInBounds_toArray, List.set_cons_zero, List.set_cons_succ]
          refine wpAnyH_take (i := 4) (oi := _) (v := ?vc5) rfl (by kernel_rfl) (by kernel_rfl) (by kernel_rfl) (fun _ _ _ h => h) (Or.inl ⟨by rfl, ?hyc5⟩) (by assumption) ?restc5
          case hyc5 => (intro w hSw; (try dsimp only at hSw); go_simp; all_goals with_reducible rfl)
          try simp only [Act.put, List.getElem_toArray, List.getElem_cons_zero, List.getElem_cons_succ, List.setIfInBounds_toArray, List.set_cons_zero, List.set_cons_succ]
          refine wpAnyH_take (i := 5) (oi := _) (v := ?vc6) rfl (by kernel_rfl) (by kernel_rfl) (by kernel_rfl) (fun _ _ _ h => h) (Or.inl ⟨by rfl, ?hyc6⟩) (by assumption) ?restc6
          case hyc6 => (intro w hSw; (try dsimp only at hSw); go_simp; all_goals with_reducible rfl)
          try simp only [Act.put, List.getElem_toArray, List.getElem_cons_zero, List.getElem_cons_succ, List.setIfInBounds_toArray, List.set_cons_zero, List.set_cons_succ]
          refine wpAnyH_take (i := 6) (oi := _) (v := ?vc7) rfl (by kernel_rfl) (by kernel_rfl) (by kernel_rfl) (fun _ _ _ h => h) (Or.inl ⟨by rfl, ?hyc7⟩) (by assumption) ?restc7
          case hyc7 => (intro w hSw; (try dsimp only at hSw); go_simp; all_goals with_reducible rfl)
          try simp only [Act.put, List.getElem_toArray, List.getElem_cons_zero, List.getElem_cons_succ, List.setIfInBounds_toArray, List.set_cons_zero, List.set_cons_succ]
          refine wpAnyH_take (i := 7) (oi := _) (v := ?vc8) rfl (by kernel_rfl) (by kernel_rfl) (by kernel_rfl) (fun _ _ _ h => h) (Or.inl ⟨by rfl, ?hyc8⟩) (by assumption) ?restc8
          case hyc8 => (intro w hSw; (try dsimp only at hSw); go_simp; all_goals with_reducible rfl)
          try simp only [Act.put, List.getElem_toArray, List.getElem_cons_zero, List.getElem_cons_succ, List.setIfInBounds_toArray, List.set_cons_zero, List.set_cons_succ]
          refine wpAnyH_take (i := 9) (oi := _) (v := ?vc9) rfl (by kernel_rfl) (by kernel_rfl) (by kernel_rfl) (fun _ _ _ h => h) (Or.inl ⟨by rfl, ?hyc9⟩) (by assumption) ?restc9
          case hyc9 => (intro w hSw; (try dsimp only at hSw); go_simp; all_goals with_reducible rfl)
          try simp only [Act.put, List.getElem_toArray, List.getElem_cons_zero, List.getElem_cons_succ, List.setIfInBounds_toArray, List.set_cons_zero, List.set_cons_succ]
          refine wpAnyH_take (i := 10) (oi := _) (v := ?vc10) rfl (by kernel_rfl) (by kernel_rfl) (by kernel_rfl) (fun _ _ _ h => h) (Or.inl ⟨by rfl, ?hyc10⟩) (by assumption) ?restc10
          case hyc10 => (intro w hSw; (try dsimp only at hSw); go_simp; all_goals with_reducible rfl)
          try simp only [Act.put, List.getElem_toArray, List.getElem_cons_zero, List.getElem_cons_succ, List.setIfInBounds_toArray, List.set_cons_zero, List.set_cons_succ]
          refine wpAnyH_ready (rs := [8]) (by kernel_rfl) (by simp) ?_
          refine AllReadyH.cons (o := _) rfl (fun K hK => ?_) AllReadyH.nil
          go_simp
          refine hK.out _ _ ?_ (fun hHeldc11 => ?_)
          · (try dsimp only); try trivial
          clear hK K hHeldc
          try simp only [Act.put, List.getElem_toArray, List.getElem_cons_zero, List.getElem_cons_succ, List.setIfInBounds_toArray, List.set_cons_zero, List.set_cons_succ]
          refine wpAnyH_take (i := 11) (oi := _) (v := ?vc12) rfl (by kernel_rfl) (by kernel_rfl) (by kernel_rfl) (fun _ _ _ h => h) (Or.inl ⟨by rfl, ?hyc12⟩) (by assumption) ?restc12
          case hyc12 => (intro w hSw; (try dsimp only at hSw); go_simp; all_goals with_reducible rfl)
          try simp only [Act.put, List.getElem_toArray, List.getElem_cons_zero, List.getElem_cons_succ, List.setIfInBounds_toArray, List.set_cons_zero, List.set_cons_succ]
          refine wpAnyH_ready (rs := [12]) (by kernel_rfl) (by simp) ?_
          refine AllReadyH.cons (o := _) rfl (fun K hK => ?_) AllReadyH.nil
          go_simp
          refine hK.out _ _ ?_ (fun hHeldc13 => ?_)
          · (try dsimp only); try trivial
          clear hK K hHeldc11
          try simp only [Act.put, List.getElem_toArray, List.getElem_cons_zero, List.getElem_cons_succ, List.setIfInBounds_toArray, List.set_cons_zero, List.set_cons_succ]
          refine wpAnyH_done (by kernel_rfl) ?_ _
          skip
          go_wp2_with fail
          go_roundg (gk - 1)
          case measure => omega
          case rel =>
            have e1 : EnAt (wr.drew.setCell ⟨p, 3, none⟩ (.int .i64 m2)) p { f with d := upd f.d 2 m2 } := (HX.out.2.2.1.rest (bb_drew (Below.refl _ _))).set 3 _ (En.set_d f 2 (by decide) m2)
            have e2 := e1.set 7 (.bool true) (En.set_v _ 2 (by decide) true)
            have hg := grownBy_trans (grownBy_set wr.drew p 3 (.int .i64 m2)) (grownBy_set _ p 7 (.bool true))
            have h5 := (HX.out.1.rest (bb_drew (Below.refl _ _))).setEnt H0.out.2.1 H0.out.2.2.1 (List.getElem?_set_self (List.getElem?_eq_some_iff.1 H0.out.2.2.2.1).1) (ftS A.m f 2) hg (by
              unfold EnAt at e2
              rw [e2]
              unfold ftS
              rw [if_neg HT.out, HX.out.2.2.2.1]
              try simp only [Nat.add_zero]
              rw [HM.out.2.2.1])
            refine ⟨2 + 1, by omega, by go_num, ?_, HX.out.2.1.trans (HX.out.1.below (HX.out.1.pen H0.out.2.1 H0.out.2.2.1) (grownBy_of_drew hg))⟩
            rw [range_succ_foldl, HX.out.2.2.2.2]
            simp only [List.set_set] at h5
            exact h5
        · rename_i ht
          have HT := Lib.hid (show f.v 2 = true by simpa using ht)
          go_roundg (gk - 1)
          case measure => omega
          case rel =>
            refine ⟨2 + 1, by omega, by go_num, ?_, HX.out.2.1⟩
            rw [range_succ_foldl, HX.out.2.2.2.2]
            unfold ftS
            rw [if_pos HT.out]
            exact HX.out.1
      · have hen : EnAt wr p ((List.range 3).foldl (ftS A.m) e) := hs.ent k l _ i p _ H0.out.2.1 (List.getElem?_set_self (List.getElem?_eq_some_iff.1 H0.out.2.2.2.1).1) H0.out.2.2.1 (List.getElem?_set_self (List.getElem?_eq_some_iff.1 H0.out.2.2.2.2).1)
        have hfl : ((List.range 3).foldl (ftS A.m) e).l = e.l := fold_ftS_l _ _ _
        obtain ⟨f, hf⟩ : ∃ f, (List.range 3).foldl (ftS A.m) e = f := ⟨_, rfl⟩
        rw [hf] at hen hfl hs
        have hz := hen.cell 8 _ rfl
        have hix2 := fun w => (idx104 (.int .i64 m0) (.int .i64 m1) (.int .i64 m2) (.int .i64 m3) w).2.2.2
        have HX := Lib.hid (And.intro hs (And.intro hb (And.intro hen (And.intro hfl hf))))
        clear hs hb hen hfl hf
        go_wp2_with fail
        · rename_i ht
          have HT := Lib.hid (show ¬ f.v 3 = true by simpa using ht)
          have d0 := HX.out.2.2.1.cell 4 _ rfl
          have d1 := HX.out.2.2.1.frozen 4
          have v0 := HX.out.2.2.1.cell 8 _ rfl
          have v1 := HX.out.2.2.1.frozen 8
          refine wp_region_held_drew (S := (fun _ => True)) (by kernel_rfl) ?_ (fun hHeldd => ?_)
          · (try dsimp only); try trivial
          refine wpAnyH_take (i := 0) (oi := _) (v := ?vd1) rfl (by kernel_rfl) (by kernel_rfl) (by kernel_rfl) (fun _ _ _ h => h) (Or.inl ⟨by rfl, ?hyd1⟩) (by assumption) ?restd1
          case hyd1 => (intro w hSw; (try dsimp only at hSw); go_simp; all_goals with_reducible rfl)
          try simp only [Act.put, List.getElem_toArray, List.getElem_cons_zero, List.getElem_cons_succ, List.setIfInBounds_toArray, List.set_cons_zero, List.set_cons_succ]
          refine wpAnyH_take (i := 1) (oi := _) (v := ?vd2) rfl (by kernel_rfl) (by kernel_rfl) (by kernel_rfl) (fun _ _ _ h => h) (Or.inl ⟨by rfl, ?hyd2⟩) (by assumption) ?restd2
          case hyd2 => (intro w hSw; (try dsimp only at hSw); go_simp; all_goals with_reducible rfl)
          try simp only [Act.put, List.getElem_toArray, List.getElem_cons_zero, List.getElem_cons_succ, List.setIfInBounds_toArray, List.set_cons_zero, List.set_cons_succ]
          refine wpAnyH_take (i := 2) (oi := _) (v := ?vd3) rfl (by kernel_rfl) (by kernel_rfl) (by kernel_rfl) (fun _ _ _ h => h) (Or.inl ⟨by rfl, ?hyd3⟩) (by assumption) ?restd3
          case hyd3 => (intro w hSw; (try dsimp only at hSw); go_simp; all_goals with_reducible rfl)
          try simp only [Act.put, List.getElem_toArray, List.getElem_cons_zero, List.getElem_cons_succ, List.setIfInBounds_toArray, List.set_cons_zero, List.set_cons_succ]
          refine wpAnyH_take (i := 3) (oi := _) (v := ?vd4) rfl (by kernel_rfl) (by kernel_rfl) (by kernel_rfl) (fun _ _ _ h => h) (Or.inl ⟨by rfl, ?hyd4⟩) (by assumption) ?restd4
          case hyd4 => (intro w hSw; (try dsimp only at hSw); go_simp; all_goals with_reducible rfl)
          try simp only [Act.put, List.getElem_toArray, List.getElem_cons_zero, List.getElem_cons_succ, List.setIfInBounds_toArray, List.set_cons_zero, List.set_cons_succ]
          refine wpAnyH_take (i := 4) (oi := _) (v := ?vd5) rfl (by kernel_rfl) (by kernel_rfl) (by kernel_rfl) (fun _ _ _ h => h) (Or.inl ⟨by rfl, ?hyd5⟩) (by assumption) ?restd5
          case hyd5 => (intro w hSw; (try dsimp only at hSw); go_simp; all_goals with_reducible rfl)
          try simp only [Act.put, List.getElem_toArray, List.getElem_cons_zero, List.getElem_cons_succ, List.setIfInBounds_toArray, List.set_cons_zero, List.set_cons_succ]
          refine wpAnyH_take (i := 5) (oi := _) (v := ?vd6) rfl (by kernel_rfl) (by kernel_rfl) (by kernel_rfl) (fun _ _ _ h => h) (Or.inl ⟨by rfl, ?hyd6⟩) (by assumption) ?restd6
          case hyd6 => (intro w hSw; (try dsimp only at hSw); go_simp; all_goals with_reducible rfl)
          try simp only [Act.put, List.getElem_toArray, List.getElem_cons_zero, List.getElem_cons_succ, List.setIfInBounds_toArray, List.set_cons_zero, List.set_cons_succ]
          refine wpAnyH_take (i := 6) (oi := _) (v := ?vd7) rfl (by kernel_rfl) (by kernel_rfl) (by kernel_rfl) (fun _ _ _ h => h) (Or.inl ⟨by rfl, ?hyd7⟩) (by assumption) ?restd7
          case hyd7 => (intro w hSw; (try dsimp only at hSw); go_simp; all_goals with_reducible rfl)
          try simp only [Act.put, List.getElem_toArray, List.getElem_cons_zero, List.getElem_cons_succ, List.setIfInBounds_toArray, List.set_cons_zero, List.set_cons_succ]
          refine wpAnyH_take (i := 7) (oi := _) (v := ?vd8) rfl (by kernel_rfl) (by kernel_rfl) (by kernel_rfl) (fun _ _ _ h => h) (Or.inl ⟨by rfl, ?hyd8⟩) (by assumption) ?restd8
          case hyd8 => (intro w hSw; (try dsimp only at hSw); go_simp; all_goals with_reducible rfl)
          try simp only [Act.put, List.getElem_toArray, List.getElem_cons_zero, List.getElem_cons_succ, List.setIfInBounds_toArray, List.set_cons_zero, List.set_cons_succ]
          refine wpAnyH_take (i := 9) (oi := _) (v := ?vd9) rfl (by kernel_rfl) (by kernel_rfl) (by kernel_rfl) (fun _ _ _ h => h) (Or.inl ⟨by rfl, ?hyd9⟩) (by assumption) ?restd9
          case hyd9 => (intro w hSw; (try dsimp only at hSw); go_simp; all_goals with_reducible rfl)
          try simp only [Act.put, List.getElem_toArray, List.getElem_cons_zero, List.getElem_cons_succ, List.setIfInBounds_toArray, List.set_cons_zero, List.set_cons_succ]
          refine wpAnyH_take (i := 10) (oi := _) (v := ?vd10) rfl (by kernel_rfl) (by kernel_rfl) (by kernel_rfl) (fun _ _ _ h => h) (Or.inl ⟨by rfl, ?hyd10⟩) (by assumption) ?restd10
          case hyd10 => (intro w hSw; (try dsimp only at hSw); go_simp; all_goals with_reducible rfl)
          try simp only [Act.put, List.getElem_toArray, List.getElem_cons_zero, List.getElem_cons_succ, List.setIfInBounds_toArray, List.set_cons_zero, List.set_cons_succ]
          refine wpAnyH_ready (rs := [8]) (by kernel_rfl) (by simp) ?_
          refine AllReadyH.cons (o := _) rfl (fun K hK => ?_) AllReadyH.nil
          go_simp
          refine hK.out _ _ ?_ (fun hHeldd11 => ?_)
          · (try dsimp only); try trivial
          clear hK K hHeldd
          try simp only [Act.put, List.getElem_toArray, List.getElem_cons_zero, List.getElem_cons_succ, List.setIfInBounds_toArray, List.set_cons_zero, List.set_cons_succ]
          refine wpAnyH_take (i := 11) (oi := _) (v := ?vd12) rfl (by kernel_rfl) (by kernel_rfl) (by kernel_rfl) (fun _ _ _ h => h) (Or.inl ⟨by rfl, ?hyd12⟩) (by assumption) ?restd12
          case hyd12 => (intro w hSw; (try dsimp only at hSw); go_simp; all_goals with_reducible rfl)
          try simp only [Act.put, List.getElem_toArray, List.getElem_cons_zero, List.getElem_cons_succ, List.setIfInBounds_toArray, List.set_cons_zero, List.set_cons_succ]
          refine wpAnyH_ready (rs := [12]) (by kernel_rfl) (by simp) ?_
          refine AllReadyH.cons (o := _) rfl (fun K hK => ?_) AllReadyH.nil
          go_simp
          refine hK.out _ _ ?_ (fun hHeldd13 => ?_)
          · (try dsimp only); try trivial
          clear hK K hHeldd11
          try simp only [Act.put, List.getElem_toArray, List.getElem_cons_zero, List.getElem_cons_succ, List.setIfInBounds_toArray, List.set_cons_zero, List.set_cons_succ]
          refine wpAnyH_done (by kernel_rfl) ?_ _
          skip
          go_wp2_with fail
          go_roundg (gk - 1)
          case measure => omega
          case rel =>
            have e1 : EnAt (wr.drew.setCell ⟨p, 4, none⟩ (.int .i64 m3)) p { f with d := upd f.d 3 m3 } := (HX.out.2.2.1.rest (bb_drew (Below.refl _ _))).set 4 _ (En.set_d f 3 (by decide) m3)
            have e2 := e1.set 8 (.bool true) (En.set_v _ 3 (by decide) true)
            have hg := grownBy_trans (grownBy_set wr.drew p 4 (.int .i64 m3)) (grownBy_set _ p 8 (.bool true))
            have h5 := (HX.out.1.rest (bb_drew (Below.refl _ _))).setEnt H0.out.2.1 H0.out.2.2.1 (List.getElem?_set_self (List.getElem?_eq_some_iff.1 H0.out.2.2.2.1).1) (ftS A.m f 3) hg (by
              unfold EnAt at e2
              rw [e2]
              unfold ftS
              rw [if_neg HT.out, HX.out.2.2.2.1]
              try simp only [Nat.add_zero]
              rw [HM.out.2.2.2])
            refine ⟨3 + 1, by omega, by go_num, ?_, HX.out.2.1.trans (HX.out.1.below (HX.out.1.pen H0.out.2.1 H0.out.2.2.1) (grownBy_of_drew hg))⟩
            rw [range_succ_foldl, HX.out.2.2.2.2]
            simp only [List.set_set] at h5
            exact h5
        · rename_i ht
          have HT := Lib.hid (show f.v 3 = true by simpa using ht)
          go_roundg (gk - 1)
          case measure => omega
          case rel =>
            refine ⟨3 + 1, by omega, by go_num, ?_, HX.out.2.1⟩
            rw [range_succ_foldl, HX.out.2.2.2.2]
            unfold ftS
            rw [if_pos HT.out]
            exact HX.out.1
    · have hd : decide (j < 4) = false := decide_eq_false hlt
      obtain rfl : j = 4 := by omega
      have HX := Lib.hid (And.intro hs hb)
      clear hs hb
      go_wp2_with fail
      (first | go_end0 | go_ret)
      exact ⟨rfl, HX.out.1, HX.out.2⟩
end Go.Proofs.Ytggidakiflnhhaa
