import Derived.Test.YthebembnlmddoaaAJ
namespace Go.Proofs.Ythebembnlmddoaa
open Go.RowKit Go.Shelf
attribute [local go_sem] Oper.semAt_some
set_option maxHeartbeats 8000000
set_option maxRecDepth 100000
set_option linter.unusedSimpArgs false
set_option linter.unusedVariables false

theorem races_results (tmps : Array Value) (X : World) (r : Nat) (v : Value) (k : Int) (h2 : tmps[2]?.getD undef = .pointer (some ⟨r, 0, none⟩)) (h3 : tmps[3]?.getD undef = .pointer (some ⟨r + 1, 0, none⟩)) (z0 : X.heap[r]? = some (.cells #[v] 64 (0, 0))) (z1 : X.heap[r + 1]? = some (.cells #[.int .i64 k] 30 (0, 0))) :
    (results Try.f29 tmps).run Try.prog X = .ok (.tuple #[v, .int .i64 k]) X := by
  have z0 := cell_of_row _ r 0 _ _ _ z0
  have z1 := cell_of_row _ (r + 1) 0 _ _ _ z1
  simp at z0 z1
  simp [results, Try.results29, go_sem, h2, h3, z0, z1]
def RsPost (l : List Ev) (w : World) (e : Ending) (w' : World) : Prop := ∃ v, e = .returned (.tuple #[v, .int .i64 (chkF l)]) ∧ Own encRC 2 29 w' w.heap.size v (if chkF l = 0 then racesF l else []) ∧ Below w.heap.size w w'
theorem races_len (l : List Ev) (h : l.length ≤ 80) : (racesF l).length ≤ 3160 := by
  have hw : ∀ j i, (wU l j i).length ≤ i := fun j i => by
    unfold wU
    rw [List.length_map]
    exact Nat.le_trans (List.length_filter_le _ _) (by simp)
  have hu : ∀ j, 2 * (rU l j).length ≤ j * (j - 1) := by
    intro j
    induction j with
    | zero => simp [rU]
    | succ j ih =>
      rw [rU_succ, List.length_append]
      have := hw j j
      cases j with
      | zero =>
        have e0 : wU l 0 0 = [] := rfl
        rw [e0]
        simp [rU]
      | succ j =>
        have e : (j + 1 + 1) * (j + 1 + 1 - 1) = (j + 1) * (j + 1 - 1) + 2 * (j + 1) := by
          simp only [Nat.add_sub_cancel]
          rw [Nat.add_mul (j + 1) 1 (j + 1), Nat.mul_comm (j + 1) j, Nat.add_mul j 1 (j + 1)]
          omega
        omega
  have := hu l.length
  unfold racesF
  have h2 : l.length * (l.length - 1) ≤ 80 * 79 := Nat.mul_le_mul h (by omega)
  omega
theorem allraces_calls (l : List Ev) (hok : ∀ e ∈ l, e.ok) (h80 : l.length ≤ 80) (A : Option Addr) (c : Nat) (hcap : l.length ≤ c) (w : World) (hA : Rd encE 11 w A l) :
    Calls Try.prog 29 #[.slice A l.length c] w (RsPost l w) := by
  obtain ⟨W, hW⟩ : ∃ W, (w.alloc (.cells #[.slice none 0 0] 64)).alloc (.cells #[.int .i64 0] 30) = W := ⟨_, rfl⟩
  have hb : Below w.heap.size w W := by rw [← hW]; exact ((Below.refl _ w).alloc (Nat.le_refl _) _).alloc (by simp) _
  have hsz : W.heap.size = w.heap.size + 2 := by rw [← hW]; simp
  have hr0 : W.heap[w.heap.size]? = some (.cells #[.slice none 0 0] 64 (0, 0)) := by
    rw [← hW, Below.heap_alloc _ _ _ (by simp)]; exact Go.heap_alloc_new w _
  have hr1 : W.heap[w.heap.size + 1]? = some (.cells #[.int .i64 0] 30 (0, 0)) := by
    rw [← hW]
    have := Go.heap_alloc_new (w.alloc (.cells #[.slice none 0 0] 64)) (.cells #[.int .i64 0] 30)
    simpa using this
  have hck := check_calls l hok A c W (hA.below hb)
  have HC := Lib.hid hck
  have HW := Lib.hid (And.intro hW (And.intro hb (And.intro hsz (And.intro hr0 hr1))))
  have HR := Lib.hid (And.intro hA hok)
  have hsm := hA.small
  clear hck hW hb hsz hr0 hr1 hA hok
  refine (callsIn_wide (n := 5)).1 ?_
  refine callsIn_of_wp_marks Try.func29 rfl trivial ?_ rfl
  refine wpIn_wide.2 ?_
  simp only [Try.ntmps29, List.size_toArray, List.length_cons, List.length_nil, Nat.reduceAdd, Nat.reduceSub, Array.replicate_succ, Array.replicate_zero, List.push_toArray, List.append_toArray, List.nil_append, List.cons_append]
  by_cases hk : chkF l = 0
  · have hkc : (chkF l != 0) = false := by rw [bne_eq_false_iff_eq]; exact hk
    have hz := chk_zero l hk
    have HK := Lib.hid (And.intro hk hz)
    clear hk hz
    go_wp2_with fail
    rw [HW.out.1]
    (with_reducible refine (HC.out).mono ?_); rintro e w1 ⟨rfl, hb1⟩
    obtain ⟨W4, hW4⟩ : ∃ W4, w1.alloc (.cells #[.slice none 0 0] 64) = W4 := ⟨_, rfl⟩
    have hb4 : Below w1.heap.size w1 W4 := by rw [← hW4]; exact (Below.refl _ w1).alloc (Nat.le_refl _) _
    have hsz1 : w.heap.size + 2 ≤ w1.heap.size := by have := hb1.size; have := HW.out.2.2.1; omega
    have hlo4 : Below w.heap.size w W4 := HW.out.2.1.trans ((hb1.trans (hb4.mono hb1.size)).mono HW.out.2.1.size)
    have hr0 := ((hb1.trans (hb4.mono hb1.size)).block _ (Array.getElem?_eq_some_iff.1 HW.out.2.2.2.1).1).trans HW.out.2.2.2.1
    have hr1 := ((hb1.trans (hb4.mono hb1.size)).block _ (Array.getElem?_eq_some_iff.1 HW.out.2.2.2.2).1).trans HW.out.2.2.2.2
    have hrb : W4.heap[w1.heap.size]? = some (.cells #[.slice none 0 0] 64 (0, 0)) := by rw [← hW4]; exact Go.heap_alloc_new w1 _
    have hrs : RS W4 0 w.heap.size w1.heap.size (.slice none 0 0) 0 none 0 0 [] := ⟨hr0, hr1, hrb, World.ownsRow_nil _ _ _ _, by omega, by omega⟩
    obtain ⟨bo, hbo⟩ : ∃ bo, w1.heap.size = bo := ⟨_, rfl⟩
    rw [hbo] at hrs hsz1
    have hnc := newClocks_calls l HR.out.2 (rtB_fm l HK.out.2.2) HK.out.2.1 A c W4 (HR.out.1.below hlo4)
    have HN := Lib.hid hnc
    have H1 := Lib.hid (And.intro hlo4 (And.intro hrs hsz1))
    have HW4 := Lib.hid (And.intro hW4 hbo)
    clear hb1 hb4 hlo4 hr0 hr1 hrb hrs hsz1 hnc hW4 hbo
    go_upto_region 5 with fail
    rw [HW4.out.1, HW4.out.2]
    go_wp2_with fail
    (with_reducible refine (HN.out).mono ?_); rintro e w2 ⟨cb, rfl, hCk, hb2⟩
    have H2 := Lib.hid (And.intro hCk (And.intro (H1.out.1.trans (hb2.mono H1.out.1.size)) (H1.out.2.1.below hb2)))
    clear hCk hb2
    go_wp2_with fail
    refine (races_calls cb w2).mono ?_; rintro e w3 ⟨rfl, hw3⟩
    have hb3 : Below w2.heap.size w2 w3 := by rw [hw3]; exact (Below.refl _ _).alloc (Nat.le_refl _) _
    have hbx : w3.cell? ⟨w2.heap.size, 0, none⟩ = some (.pointer (some ⟨cb, 0, none⟩)) := by rw [hw3, cell_of_row _ _ _ _ _ _ (Go.heap_alloc_new w2 _)]; rfl
    have hbo2 : bo < w2.heap.size := (Array.getElem?_eq_some_iff.1 H2.out.2.2.b0).1
    have H3 := Lib.hid (And.intro (H2.out.1.rest hb3) (And.intro (H2.out.2.1.trans (hb3.mono H2.out.2.1.size)) (And.intro (H2.out.2.2.below hb3) (And.intro hbx (And.intro hbo2 hb3.size)))))
    clear hw3 hb3 hbx hbo2
    go_wp2_with fail
    have hle3 : w.heap.size ≤ w3.heap.size := H3.out.2.1.size
    refine (wpIn_wide (n := 5)).1 ?_
    refine wpIn_rangeFunc_ownH (F := Fence.wide) (n := 5) rfl (by omega) (gf := 56) (lb := #[.pointer (some ⟨w2.heap.size, 0, none⟩)]) rfl trivial (enters_of Try.func56 (by kernel_rfl) rfl) (encs := encR) (Kp := KrX w3.heap.size bo) (w0 := w3)
      (races_stopsX w2.heap.size bo cb W4.heap.size w l HR.out.2 A c hcap 4 (by omega) w3 (by have := H3.out.2.2.2.2.1; omega) H3.out.2.2.1.b0 H3.out.2.2.2.1 HR.out.1 H3.out.2.1 (by have := H1.out.2.2; omega) H3.out.1)
      (fun h k => h.trans k) (fun W l o o' hl h ho hw => KrX.book (Nat.le_refl _) W l o o' hl h ho hw) (Below.refl _ _) (fun _ => rfl)
      (fun pre W => ∃ S cS, RS W w3.heap.size w.heap.size bo (.slice none 0 0) 0 S pre.length cS pre ∧ Below w.heap.size w W ∧ w3.heap.size ≤ W.heap.size)
      (fun c pre W => False)
      (fun s A B row hs hg hr => by
        obtain ⟨S, cS, h1, h2, h3⟩ := hs
        exact ⟨S, cS, h1.book hg (fun r e => (hr r e).2), h2.grown hg h2.size (fun k e => Nat.le_trans hle3 (hr k e).1), Nat.le_trans h3 hg.size⟩)
      (fun c s A B row hs hg hr => hs)
      ⟨none, 0, ⟨H3.out.2.2.1.r0, H3.out.2.2.1.r1, H3.out.2.2.1.b0, World.ownsRow_nil _ _ _ _, H3.out.2.2.1.d⟩, H3.out.2.1, Nat.le_refl _⟩
      (fun x a' W => ∃ Bx, W.heap[Bx]? = some (.cells #[.int .i64 (x.1 : Int), .int .i64 (x.2 : Int)] 29 (0, 0)) ∧ w3.heap.size ≤ Bx ∧ a' = { tmps := #[.slice A l.length c, undef, .pointer (some ⟨w.heap.size, 0, none⟩), .pointer (some ⟨w.heap.size + 1, 0, none⟩), .int .i64 (chkF l), .pointer (some ⟨bo, 0, none⟩), .pointer (some ⟨Bx, 0, none⟩), .slice A l.length c, .int .i64 (chkF l), .int .i64 (chkF l), .bool false, undef, .slice A l.length c, .pointer (some ⟨cb, 0, none⟩), .func (.func 56) #[] #[.pointer (some ⟨w2.heap.size, 0, none⟩)], .agg #[.int .i64 (x.1 : Int), .int .i64 (x.2 : Int)], undef, undef, undef, undef, undef, undef, undef, undef], defers := [] })
      (fun x a' s A B row hs hg hr => by
        obtain ⟨Bx, h1, h2⟩ := hs
        exact ⟨Bx, blk_kept h1 rfl hg (fun r e => (hr r e).2), h2⟩) ?assign ?body ?done ?stop
    case assign =>
      intro ll pre x U K hI hK
      obtain ⟨S, cS, hrs, hlow, hsz⟩ := hI
      have HI := Lib.hid (And.intro hrs (And.intro hlow hsz))
      clear hrs hlow hsz
      gi_wp2
      have hal : Below U.heap.size U (U.alloc (.cells #[.int .i64 (x.1 : Int), .int .i64 (x.2 : Int)] 29)) := (Below.refl _ _).alloc (Nat.le_refl _) _
      refine hK _ _ ((KeepsOthers.alloc _ _).from _) ⟨?_, ?_⟩ ⟨S, cS, HI.out.1.below hal, HI.out.2.1.trans (hal.mono HI.out.2.1.size), Nat.le_trans HI.out.2.2 hal.size⟩ ⟨U.heap.size, Go.heap_alloc_new U _, HI.out.2.2, rfl⟩
      · exact .of (hal.mono HI.out.2.2)
      · intro i cs fr hi
        exact (hal.block i (Array.getElem?_eq_some_iff.1 hi).1).trans hi
    case body =>
      rintro ll pre x a' U hl hr ⟨S, cS, hrs, hlow, hsz⟩ ⟨Bx, hBx, hBl, rfl⟩ hlt
      have hpl := races_len l h80
      have hn5 : ((pre.length : Int) == 5000) = false := by rw [beq_eq_false_iff_ne]; omega
      have hn5' : (pre.length == 5000) = false := by rw [beq_eq_false_iff_ne]; omega
      have y0 := cell_of_row _ Bx 0 _ _ _ hBx
      have y1 := cell_of_row _ Bx 1 _ _ _ hBx
      have z0 := cell_of_row _ bo 0 _ _ _ hrs.b0
      simp at y0 y1 z0
      have hal : Below U.heap.size U (U.alloc (.cells #[.int .i64 (x.1 : Int), .int .i64 (x.2 : Int)] 29)) := (Below.refl _ _).alloc (Nat.le_refl _) _
      have HB := Lib.hid (And.intro hrs (And.intro hlow (And.intro hsz (And.intro hal (show (pre.length + 1) * 16 ≤ 140737488355328 by omega)))))
      have hb1 := hrs.below hal
      have HB1 := Lib.hid (And.intro hb1 (Nat.le_trans hsz hal.size))
      have hbo3 : w.heap.size ≤ bo := by have := H1.out.2.2; omega
      have HBO := Lib.hid hbo3
      clear hrs hlow hsz hal hb1 hBx hBl hl hr hlt hpl hbo3
      gi_wp2_with (gi_at_builtin; go_must (refine wpListIn_append_told lenRC oneRC _ rfl (.tmp 19) (.tmp 21) 64 rfl w3.heap.size 29 _ 16 Try.underlying64 info29 rfl (by decide) (by decide) (.slice S pre.length cS) pre pre.length rfl rfl HB1.out.1.own ⟨U.heap.size, 0, none⟩ 1 1 [x] rfl rfl (by decide) (rd_one encRC 2 _ x 29 _ rfl _ rfl) HB.out.2.2.2.2 HB1.out.2 ?_); intro g3 cap3 w9 hown9 hgr9 hl9; have hp := HB.out.1.push HB.out.2.2.1 HB.out.2.2.2.1 hown9 hgr9; have z9 := cell_of_row _ bo 0 _ _ _ hp.1; have f9 := frozen_of_row _ bo 0 _ _ hp.1; simp at z9; have HP := Lib.hid hp.2; clear hp hown9 hgr9 hl9)
      refine ⟨((KeepsOthers.alloc _ _).trans HP.out.2.1).from _, HP.out.2.2.1, some ⟨g3, 0, none⟩, cap3, ?_, ?_, ?_⟩
      · rw [List.length_append]
        exact HP.out.1
      · exact HP.out.2.2.2 _ _ hle3 HBO.out HB.out.2.1
      · exact Nat.le_trans HB.out.2.2.1 HP.out.2.2.1.1.size
    case done =>
      rintro D xs U hD rfl ⟨S, cS, hrs, hlow, hsz⟩ hdD
      have z0 := cell_of_row _ w.heap.size 0 _ _ _ hrs.r0
      have z1 := cell_of_row _ (w.heap.size + 1) 0 _ _ _ hrs.r1
      have zb := cell_of_row _ bo 0 _ _ _ hrs.b0
      have f0 := frozen_of_row _ w.heap.size 0 _ _ hrs.r0
      have f1 := frozen_of_row _ (w.heap.size + 1) 0 _ _ hrs.r1
      simp at z0 z1 zb
      have hwD : w.heap.size ≤ D := Nat.le_trans hle3 hD
      have HF := Lib.hid (And.intro hrs (And.intro hdD (And.intro hlow (And.intro hwD hle3))))
      clear hrs hlow hsz hdD
      go_wp2_with fail
      obtain ⟨Z, hZ⟩ : ∃ Z, (U.setCell ⟨w.heap.size, 0, none⟩ (.slice S (racesF l).length cS)).setCell ⟨w.heap.size + 1, 0, none⟩ (.int .i64 0) = Z := ⟨_, rfl⟩
      have e0 : Z.heap[w.heap.size]? = some (.cells #[.slice S (racesF l).length cS] 64 (0, 0)) := by
        rw [← hZ, heap_setCell_other _ _ _ _ (by simp)]
        exact heap_setCell_same _ _ 0 _ _ _ HF.out.1.r0
      have e1 : Z.heap[w.heap.size + 1]? = some (.cells #[.int .i64 0] 30 (0, 0)) := by
        rw [← hZ]
        have h1 : (U.setCell ⟨w.heap.size, 0, none⟩ (.slice S (racesF l).length cS)).heap[w.heap.size + 1]? = some (.cells #[.int .i64 0] 30 (0, 0)) := by rw [heap_setCell_other _ _ _ _ (by simp)]; exact HF.out.1.r1
        exact heap_setCell_same _ _ 0 _ _ (.int .i64 0) h1
      have eo : Own encRC 2 29 Z w3.heap.size (.slice S (racesF l).length cS) (racesF l) := by
        rw [← hZ]
        have hne : ∀ b, b < w3.heap.size → (Value.slice S (racesF l).length cS).ownBlock = none ∨ (Value.slice S (racesF l).length cS).ownBlock ≠ some b := fun b hb => .inr (fun e => by have := (HF.out.1.own.blk b e).1; omega)
        have hs3 := H3.out.2.1.size
        have hw3 : w.heap.size + 1 < w3.heap.size := by have := H1.out.2.2; have := H3.out.2.2.2.2.1; have := H3.out.2.2.2.2.2; omega
        exact (HF.out.1.own.grown (grownBy_setCell' U w.heap.size _) (hne _ (by omega))).grown (grownBy_setCell' _ (w.heap.size + 1) _) (hne _ hw3)
      have eb : Below w.heap.size w Z := by rw [← hZ]; exact (HF.out.2.2.1.setCell (Nat.le_refl _) _).setCell (by simp) _
      have hk : KeepsOthers U Z := by rw [← hZ]; exact (KeepsOthers.setCell _ _ _).trans (KeepsOthers.setCell _ _ _)
      have hdz := hk.same D _ HF.out.2.1 rfl
      rw [hZ]
      refine ⟨by simp, .inl ⟨_, _, rfl, run_takeDeferred hdz, ?_⟩⟩
      have hbk := grownBy_putObj' Z D (.deferred none)
      have hrow : ∀ r, some D = some r → ∃ o : Obj, Z.heap[r]? = some o ∧ o.isCells = false := fun r e => by cases e; exact ⟨_, hdz, rfl⟩
      refine ⟨_, races_results _ _ w.heap.size _ _ rfl rfl (blk_kept e0 rfl hbk hrow) (blk_kept e1 rfl hbk hrow), ?_⟩
      refine ⟨_, by rw [HK.out.1], ?_, eb.trans (belowK_b (w := w) (Nat.le_refl _) _ D _ _ HF.out.2.2.2.1 hdz rfl rfl)⟩
      rw [if_pos HK.out.1]
      exact (own_book eo hbk hrow).down HF.out.2.2.2.2
    case stop =>
      rintro D c pre U hD hpre hf hdD
      exact hf.elim
  · have hkc : (chkF l != 0) = true := by rw [bne_iff_ne]; exact hk
    have HK := Lib.hid hk
    clear hk
    go_wp2_with fail
    rw [HW.out.1]
    (with_reducible refine (HC.out).mono ?_); rintro e w1 ⟨rfl, hb1⟩
    have hlo1 := HW.out.2.1.trans (hb1.mono HW.out.2.1.size)
    have hr0 := (hb1.block _ (Array.getElem?_eq_some_iff.1 HW.out.2.2.2.1).1).trans HW.out.2.2.2.1
    have hr1 := (hb1.block _ (Array.getElem?_eq_some_iff.1 HW.out.2.2.2.2).1).trans HW.out.2.2.2.2
    have z0 := cell_of_row _ w.heap.size 0 _ _ _ hr0
    have z1 := cell_of_row _ (w.heap.size + 1) 0 _ _ _ hr1
    have f0 := frozen_of_row _ w.heap.size 0 _ _ hr0
    have f1 := frozen_of_row _ (w.heap.size + 1) 0 _ _ hr1
    simp at z0 z1
    have HF := Lib.hid (And.intro hr0 (And.intro hr1 hlo1))
    clear hb1 hlo1 hr0 hr1
    go_wp2_with fail
    obtain ⟨Z, hZ⟩ : ∃ Z, (w1.setCell ⟨w.heap.size, 0, none⟩ (.slice none 0 0)).setCell ⟨w.heap.size + 1, 0, none⟩ (.int .i64 (chkF l)) = Z := ⟨_, rfl⟩
    have e0 : Z.heap[w.heap.size]? = some (.cells #[.slice none 0 0] 64 (0, 0)) := by
      rw [← hZ, heap_setCell_other _ _ _ _ (by simp)]
      exact heap_setCell_same _ _ 0 _ _ _ HF.out.1
    have e1 : Z.heap[w.heap.size + 1]? = some (.cells #[.int .i64 (chkF l)] 30 (0, 0)) := by
      rw [← hZ]
      have h1 : (w1.setCell ⟨w.heap.size, 0, none⟩ (.slice none 0 0)).heap[w.heap.size + 1]? = some (.cells #[.int .i64 0] 30 (0, 0)) := by rw [heap_setCell_other _ _ _ _ (by simp)]; exact HF.out.2.1
      exact heap_setCell_same _ _ 0 _ _ (.int .i64 (chkF l)) h1
    have eb : Below w.heap.size w Z := by rw [← hZ]; exact (HF.out.2.2.setCell (Nat.le_refl _) _).setCell (by simp) _
    rw [hZ]
    refine ⟨_, races_results _ _ w.heap.size _ _ rfl rfl e0 e1, ?_⟩
    refine ⟨_, rfl, ?_, eb⟩
    rw [if_neg HK.out]
    exact World.ownsRow_nil _ _ _ _
end Go.Proofs.Ythebembnlmddoaa
