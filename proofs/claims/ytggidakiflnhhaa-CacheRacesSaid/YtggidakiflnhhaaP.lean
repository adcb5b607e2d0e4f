import Derived.Test.YtggidakiflnhhaaO
namespace Go.Proofs.Ytggidakiflnhhaa
open Go.RowKit
set_option maxHeartbeats 8000000
set_option maxRecDepth 100000
set_option linter.unusedSimpArgs false
set_option linter.unusedVariables false

def PtMid (c : Cf) (bs bm bc base : Nat) (vv : Value) (A : AS) (w : World) (b0 k p i : Nat) (kd v : Int) (s6 : Value) (wx : World) : Prop :=
  ∃ sv ps B l j q es e, s6 = ptr q ∧ Sys c bs bm bc base none sv vv ps B wx ∧ Bel base w wx ∧ wx.heap[b0]? = some (.cells (Op.mk k kd p v).cells 38 (0, 0)) ∧ ps[k]? = some l ∧ l[j]? = some q ∧ B.cs[k]? = some es ∧ es[j]? = some e ∧ putA c A k p v = { B with cs := B.cs.set k (es.set j (wrE e i v)) }
theorem set_last {α : Type} (l : List α) (x y : α) : (l ++ [x]).set l.length y = l ++ [y] := by
  rw [List.set_append_right _ _ (Nat.le_refl _), Nat.sub_self]; rfl
theorem notMem {c : Cf} {bs bm bc base : Nat} {hole : Option Nat} {sv : List Value} {vv : Value} {ps : List (List Nat)} {A : AS} {w : World} (h : Sys c bs bm bc base hole sv vv ps A w) {b : Nat} {cs : Array Value} (hb : w.heap[b]? = some (.cells cs 38 (0, 0))) (e : b = bm) : False := by
  subst e
  rw [h.mem] at hb
  simp at hb
theorem put_calls {c : Cf} {bs bm bc base : Nat} {A : AS} {w : World} (h : SysE c bs bm bc base A w) (hA : Ok c A) (hn : cnt A ≤ 800000000) (k p : Nat) (kd v : Int) (hk : (k : Int) < c.L) (hp : (p : Int) < c.W) :
    Calls Try.prog 46 #[ptr bs, (Op.mk k kd p v).val] w (GtPost c bs bm bc base (putA c A k p v) w) := by
  obtain ⟨sv, vv, ps, h⟩ := h
  obtain ⟨o1, o2, o3, o4, o5, o6, o7, o8, o9⟩ := hA.cf
  obtain ⟨l, hl⟩ : ∃ l, ps[k]? = some l := ⟨_, List.getElem?_eq_getElem (by have := h.lc; have := hA.cl; omega)⟩
  obtain ⟨es, hes⟩ : ∃ es, A.cs[k]? = some es := ⟨_, List.getElem?_eq_getElem (by have := hA.cl; omega)⟩
  have hle := h.le _ _ _ hl hes
  have hr := rowA_some hes
  obtain ⟨x, hx⟩ : ∃ x, p / 4 = x := ⟨_, rfl⟩
  obtain ⟨i, hi⟩ : ∃ i, p % 4 = i := ⟨_, rfl⟩
  have hx1 : (p : Int) / 4 = (x : Int) := by omega
  have hi1 : (p : Int) % 4 = (i : Int) := by omega
  have hi4 : i < 4 := by omega
  have hi4' : (i : Int) < 4 := by omega
  obtain ⟨W1, hW1⟩ : ∃ W1, w.alloc (.cells (Op.mk k kd p v).cells 38) = W1 := ⟨_, rfl⟩
  have hb1 : Below w.heap.size w W1 := by rw [← hW1]; exact (Below.refl _ w).alloc (Nat.le_refl _) _
  have hbox : W1.heap[w.heap.size]? = some (.cells (Op.mk k kd p v).cells 38 (0, 0)) := by rw [← hW1]; exact Go.heap_alloc_new w _
  obtain ⟨b0, hb0⟩ : ∃ b0, w.heap.size = b0 := ⟨_, rfl⟩
  have hbl := Bel.of hb1 h.bp_size
  have h1 := h.rest hb1
  rw [hb0] at hbox
  have y0 := cell_of_row _ b0 0 _ _ _ hbox
  have y2 := cell_of_row _ b0 2 _ _ _ hbox
  simp [Op.cells] at y0 y2
  have HH := Lib.hid (sysHome_calls c hA.cf x (by omega))
  have H1 := Lib.hid (And.intro h1 (And.intro hbl hbox))
  have HQ := Lib.hid (And.intro hA (And.intro hn (And.intro hl (And.intro hes (And.intro hle (And.intro hr (And.intro hx hi)))))))
  have HW := Lib.hid (And.intro hW1 hb0)
  clear h hA hn hl hes hle hr hx hi hW1 hb1 hbox hbl h1 hb0
  go_enter Try.func46, Try.ntmps46
  go_upto_region 1 with fail
  rw [HW.out.1, HW.out.2]
  go_quiet (fail)
  go_upto_region 2 with fail
  obtain ⟨Wq, hWq⟩ : ∃ W, W1.drewN nq = W := ⟨_, rfl⟩
  have hbq : Below W1.heap.size W1 Wq := by rw [← hWq]; exact drewN_below (Below.refl _ _) _
  rw [hWq]
  have F := Lib.hid (And.intro (H1.out.1.rest (bb_drew hbq)) (And.intro ((H1.out.2.1.trans (Bel.of hbq H1.out.1.bp_size)).drew) (show Wq.drew.heap[b0]? = some (.cells (Op.mk k kd p v).cells 38 (0, 0)) from (hbq.block _ (blk_lt H1.out.2.2)).trans H1.out.2.2)))
  clear hWq hbq y0 y2
  by_cases hhome : hmF c x = (k : Int)
  · have hd : (hmF c x == (k : Int)) = true := by simpa using hhome
    have HM := Lib.hid hhome
    rw [hhome] at HH
    clear hhome
    refine wp_region_held_drew (S := (fun w' => (w'.cell? ⟨bs, 0, none⟩ = some (.int .i64 c.L) ∧ w'.cell? ⟨bs, 1, none⟩ = some (.int .i64 c.W) ∧ w'.cell? ⟨bs, 2, none⟩ = some (.int .i64 c.N) ∧ w'.cell? ⟨bs, 3, none⟩ = some (.int .i64 c.H)) ∧ w'.cell? ⟨b0, 0, none⟩ = some (.int .i64 (k : Int)))) (by kernel_rfl) ?_ (fun hHeldra => ?_)
    · (try dsimp only); exact ⟨⟨F.out.1.ten.1, F.out.1.ten.2.1, F.out.1.ten.2.2.1, F.out.1.ten.2.2.2.1⟩, by rw [cell_of_row _ _ _ _ _ _ F.out.2.2]; rfl⟩
    refine wpAnyH_take (i := 0) (oi := _) (v := ?vra1) rfl (by kernel_rfl) (by kernel_rfl) (by kernel_rfl) (fun _ _ _ h => h) (Or.inl ⟨by rfl, ?hyra1⟩) (by assumption) ?restra1
    case hyra1 => (intro w hSw; (try dsimp only at hSw); go_simp; all_goals with_reducible rfl)
    try simp only [Act.put, List.getElem_toArray, List.getElem_cons_zero, List.getElem_cons_succ, List.setIfInBounds_toArray, List.set_cons_zero, List.set_cons_succ]
    refine wpAnyH_take (i := 1) (oi := _) (v := ?vra2) rfl (by kernel_rfl) (by kernel_rfl) (by kernel_rfl) (fun _ _ _ h => h) (Or.inl ⟨by rfl, ?hyra2⟩) (by assumption) ?restra2
    case hyra2 => (intro w hSw; (try dsimp only at hSw); go_simp; all_goals with_reducible rfl)
    try simp only [Act.put, List.getElem_toArray, List.getElem_cons_zero, List.getElem_cons_succ, List.setIfInBounds_toArray, List.set_cons_zero, List.set_cons_succ]
    refine wpAnyH_take (i := 2) (oi := _) (v := ?vra3) rfl (by kernel_rfl) (by kernel_rfl) (by kernel_rfl) (fun _ _ _ h => h) (Or.inl ⟨by rfl, ?hyra3⟩) (by assumption) ?restra3
    case hyra3 => (intro w hSw; (try dsimp only at hSw); go_simp; all_goals with_reducible rfl)
    try simp only [Act.put, List.getElem_toArray, List.getElem_cons_zero, List.getElem_cons_succ, List.setIfInBounds_toArray, List.set_cons_zero, List.set_cons_succ]
    refine wpAnyH_take (i := 3) (oi := _) (v := ?vra4) rfl (by kernel_rfl) (by kernel_rfl) (by kernel_rfl) (fun _ _ _ h => h) (Or.inl ⟨by rfl, ?hyra4⟩) (by assumption) ?restra4
    case hyra4 => (intro w hSw; (try dsimp only at hSw); go_simp; all_goals with_reducible rfl)
    try simp only [Act.put, List.getElem_toArray, List.getElem_cons_zero, List.getElem_cons_succ, List.setIfInBounds_toArray, List.set_cons_zero, List.set_cons_succ]
    refine wpAnyH_take (i := 4) (oi := _) (v := ?vra5) rfl (by kernel_rfl) (by kernel_rfl) (by kernel_rfl) (fun _ _ _ h => h) (Or.inl ⟨by rfl, ?hyra5⟩) (by assumption) ?restra5
    case hyra5 => (intro w hSw; (try dsimp only at hSw); go_simp; all_goals with_reducible rfl)
    try simp only [Act.put, List.getElem_toArray, List.getElem_cons_zero, List.getElem_cons_succ, List.setIfInBounds_toArray, List.set_cons_zero, List.set_cons_succ]
    refine wpAnyH_take (i := 6) (oi := _) (v := ?vra6) rfl (by kernel_rfl) (by kernel_rfl) (by kernel_rfl) (fun _ _ _ h => h) (Or.inl ⟨by rfl, ?hyra6⟩) (by assumption) ?restra6
    case hyra6 => (intro w hSw; (try dsimp only at hSw); go_simp; all_goals with_reducible rfl)
    try simp only [Act.put, List.getElem_toArray, List.getElem_cons_zero, List.getElem_cons_succ, List.setIfInBounds_toArray, List.set_cons_zero, List.set_cons_succ]
    refine wpAnyH_take (i := 7) (oi := _) (v := ?vra7) rfl (by kernel_rfl) (by kernel_rfl) (by kernel_rfl) (fun _ _ _ h => h) (Or.inl ⟨by rfl, ?hyra7⟩) (by assumption) ?restra7
    case hyra7 => (intro w hSw; (try dsimp only at hSw); go_simp; all_goals with_reducible rfl)
    try simp only [Act.put, List.getElem_toArray, List.getElem_cons_zero, List.getElem_cons_succ, List.setIfInBounds_toArray, List.set_cons_zero, List.set_cons_succ]
    refine wpAnyH_ready (rs := [5]) (by kernel_rfl) (by simp) ?_
    refine AllReadyH.cons (o := _) rfl (fun K hK => ?_) AllReadyH.nil
    go_simp
    (with_reducible refine (HH.out _).mono ?_)
    rintro y w5 ⟨rfl, hb5⟩
    have F5 := Lib.hid (And.intro (F.out.1.rest hb5) (And.intro (F.out.2.1.trans (Bel.of hb5 F.out.1.bp_size)) (show w5.heap[b0]? = some (.cells (Op.mk k kd p v).cells 38 (0, 0)) from (hb5.block _ (blk_lt F.out.2.2)).trans F.out.2.2)))
    clear hb5
    go_wp2_with fail
    refine hK.out _ _ ?_ (fun hHeldra8 => ?_)
    · (try dsimp only); exact ⟨⟨F5.out.1.ten.1, F5.out.1.ten.2.1, F5.out.1.ten.2.2.1, F5.out.1.ten.2.2.2.1⟩, by rw [cell_of_row _ _ _ _ _ _ F5.out.2.2]; rfl⟩
    clear hK K hHeldra
    try simp only [Act.put, List.getElem_toArray, List.getElem_cons_zero, List.getElem_cons_succ, List.setIfInBounds_toArray, List.set_cons_zero, List.set_cons_succ]
    refine wpAnyH_take (i := 8) (oi := _) (v := ?vra9) rfl (by kernel_rfl) (by kernel_rfl) (by kernel_rfl) (fun _ _ _ h => h) (Or.inl ⟨by rfl, ?hyra9⟩) (by assumption) ?restra9
    case hyra9 => (intro w hSw; (try dsimp only at hSw); go_simp; all_goals with_reducible rfl)
    try simp only [Act.put, List.getElem_toArray, List.getElem_cons_zero, List.getElem_cons_succ, List.setIfInBounds_toArray, List.set_cons_zero, List.set_cons_succ]
    refine wpAnyH_done (by kernel_rfl) ?_ _
    skip
    go_upto_region 3 with fail
    have hpl : p < A.m.length := by have := HQ.out.1.ml; omega
    have hpl' : (p : Int) < (A.m.length : Int) := by omega
    have hz := (F5.out.1.rest (bb_drew (Below.refl _ _))).setMem p hpl v
    have t0 := (F5.out.1.word p hpl).1
    have t1 := (F5.out.1.word p hpl).2
    have G := Lib.hid (And.intro (F5.out.1.rest (bb_drew (Below.refl _ _))) (And.intro hz (And.intro F5.out.2.1.drew (show w5.drew.heap[b0]? = some (.cells (Op.mk k kd p v).cells 38 (0, 0)) from F5.out.2.2))))
    have z2 : (w5.setCell ⟨bm, p, none⟩ (.int .i64 v)).cell? ⟨b0, 2, none⟩ = some (.int .i64 (p : Int)) := by
      rw [cell_of_row _ _ _ _ _ _ ((heap_setCell_other w5 ⟨bm, p, none⟩ b0 _ (fun e => notMem F5.out.1 F5.out.2.2 e)).trans F5.out.2.2)]; rfl
    have z3 : (w5.setCell ⟨bm, p, none⟩ (.int .i64 v)).cell? ⟨b0, 3, none⟩ = some (.int .i64 v) := by
      rw [cell_of_row _ _ _ _ _ _ ((heap_setCell_other w5 ⟨bm, p, none⟩ b0 _ (fun e => notMem F5.out.1 F5.out.2.2 e)).trans F5.out.2.2)]; rfl
    have HZ := Lib.hid (And.intro z2 z3)
    clear hz z2 z3
    refine wp_region_held_drew (S := (fun w' => w'.cell? ⟨bs, 7, none⟩ = some (.slice (some ⟨bm, 0, none⟩) A.m.length A.m.length) ∧ w'.cell? ⟨b0, 2, none⟩ = some (.int .i64 (p : Int)) ∧ w'.cell? ⟨b0, 3, none⟩ = some (.int .i64 v))) (by kernel_rfl) ?_ (fun hHeldq => ?_)
    · (try dsimp only); exact ⟨G.out.1.ten.2.2.2.2.2.2.2.1, by rw [cell_of_row _ _ _ _ _ _ G.out.2.2.2]; rfl, by rw [cell_of_row _ _ _ _ _ _ G.out.2.2.2]; rfl⟩
    refine wpAnyH_take (i := 0) (oi := _) (v := ?vq1) rfl (by kernel_rfl) (by kernel_rfl) (by kernel_rfl) (fun _ _ _ h => h) (Or.inl ⟨by rfl, ?hyq1⟩) (by assumption) ?restq1
    case hyq1 => (intro w hSw; (try dsimp only at hSw); go_simp; all_goals with_reducible rfl)
    try simp only [Act.put, List.getElem_toArray, List.getElem_cons_zero, List.getElem_cons_succ, List.setIfInBounds_toArray, List.set_cons_zero, List.set_cons_succ]
    refine wpAnyH_take (i := 1) (oi := _) (v := ?vq2) rfl (by kernel_rfl) (by kernel_rfl) (by kernel_rfl) (fun _ _ _ h => h) (Or.inl ⟨by rfl, ?hyq2⟩) (by assumption) ?restq2
    case hyq2 => (intro w hSw; (try dsimp only at hSw); go_simp; all_goals with_reducible rfl)
    try simp only [Act.put, List.getElem_toArray, List.getElem_cons_zero, List.getElem_cons_succ, List.setIfInBounds_toArray, List.set_cons_zero, List.set_cons_succ]
    refine wpAnyH_take (i := 2) (oi := _) (v := ?vq3) rfl (by kernel_rfl) (by kernel_rfl) (by kernel_rfl) (fun _ _ _ h => h) (Or.inl ⟨by rfl, ?hyq3⟩) (by assumption) ?restq3
    case hyq3 => (intro w hSw; (try dsimp only at hSw); go_simp; all_goals with_reducible rfl)
    try simp only [Act.put, List.getElem_toArray, List.getElem_cons_zero, List.getElem_cons_succ, List.setIfInBounds_toArray, List.set_cons_zero, List.set_cons_succ]
    refine wpAnyH_take (i := 3) (oi := _) (v := ?vq4) rfl (by kernel_rfl) (by kernel_rfl) (by kernel_rfl) (fun _ _ _ h => h) (Or.inl ⟨by rfl, ?hyq4⟩) (by assumption) ?restq4
    case hyq4 => (intro w hSw; (try dsimp only at hSw); go_simp; all_goals with_reducible rfl)
    try simp only [Act.put, List.getElem_toArray, List.getElem_cons_zero, List.getElem_cons_succ, List.setIfInBounds_toArray, List.set_cons_zero, List.set_cons_succ]
    refine wpAnyH_take (i := 4) (oi := _) (v := ?vq5) rfl (by kernel_rfl) (by kernel_rfl) (by kernel_rfl) (fun _ _ _ h => h) (Or.inl ⟨by rfl, ?hyq5⟩) (by assumption) ?restq5
    case hyq5 => (intro w hSw; (try dsimp only at hSw); go_simp; all_goals with_reducible rfl)
    try simp only [Act.put, List.getElem_toArray, List.getElem_cons_zero, List.getElem_cons_succ, List.setIfInBounds_toArray, List.set_cons_zero, List.set_cons_succ]
    refine wpAnyH_take (i := 5) (oi := _) (v := ?vq6) rfl (by kernel_rfl) (by kernel_rfl) (by kernel_rfl) (fun _ _ _ h => h) (Or.inl ⟨by rfl, ?hyq6⟩) (by assumption) ?restq6
    case hyq6 => (intro w hSw; (try dsimp only at hSw); go_simp; all_goals with_reducible rfl)
    try simp only [Act.put, List.getElem_toArray, List.getElem_cons_zero, List.getElem_cons_succ, List.setIfInBounds_toArray, List.set_cons_zero, List.set_cons_succ]
    refine wpAnyH_take (i := 6) (oi := _) (v := ?vq7) rfl (by kernel_rfl) (by kernel_rfl) (by kernel_rfl) (fun _ _ _ h => h) (Or.inl ⟨by rfl, ?hyq7⟩) (by assumption) ?restq7
    case hyq7 => (intro w hSw; (try dsimp only at hSw); go_simp; all_goals with_reducible rfl)
    try simp only [Act.put, List.getElem_toArray, List.getElem_cons_zero, List.getElem_cons_succ, List.setIfInBounds_toArray, List.set_cons_zero, List.set_cons_succ]
    refine wpAnyH_take (i := 7) (oi := _) (v := ?vq8) rfl (by kernel_rfl) (by kernel_rfl) (by kernel_rfl) (fun _ _ _ h => h) (Or.inl ⟨by rfl, ?hyq8⟩) (by assumption) ?restq8
    case hyq8 => (intro w hSw; (try dsimp only at hSw); go_simp; all_goals with_reducible rfl)
    try simp only [Act.put, List.getElem_toArray, List.getElem_cons_zero, List.getElem_cons_succ, List.setIfInBounds_toArray, List.set_cons_zero, List.set_cons_succ]
    refine wpAnyH_take (i := 8) (oi := _) (v := ?vq9) rfl (by kernel_rfl) (by kernel_rfl) (by kernel_rfl) (fun _ _ _ h => h) (Or.inl ⟨by rfl, ?hyq9⟩) (by assumption) ?restq9
    case hyq9 => (intro w hSw; (try dsimp only at hSw); go_simp; all_goals with_reducible rfl)
    try simp only [Act.put, List.getElem_toArray, List.getElem_cons_zero, List.getElem_cons_succ, List.setIfInBounds_toArray, List.set_cons_zero, List.set_cons_succ]
    refine wpAnyH_ready (rs := [9]) (by kernel_rfl) (by simp) ?_
    refine AllReadyH.cons (o := _) rfl (fun K hK => ?_) AllReadyH.nil
    go_simp
    refine hK.out _ _ ?_ (fun hHeldq10 => ?_)
    · (try dsimp only); exact ⟨by have := G.out.2.1.1.ten.2.2.2.2.2.2.2.1; simp only [List.length_set] at this; exact this, HZ.out.1, HZ.out.2⟩
    clear hK K hHeldq
    try simp only [Act.put, List.getElem_toArray, List.getElem_cons_zero, List.getElem_cons_succ, List.setIfInBounds_toArray, List.set_cons_zero, List.set_cons_succ]
    refine wpAnyH_done (by kernel_rfl) ?_ _
    go_wp2_with fail
    (first | go_end0 | go_ret)
    refine ⟨rfl, G.out.2.2.1.trans (G.out.1.below G.out.1.pbm G.out.2.1.2), sv, vv, ps, ?_⟩
    unfold putA
    rw [HQ.out.2.2.2.2.2.2.1, if_pos HM.out]
    exact G.out.2.1.1
  · have hd : (hmF c x == (k : Int)) = false := by simpa using hhome
    have HM := Lib.hid hhome
    obtain ⟨hm, hhm⟩ : ∃ hm, hmF c x = hm := ⟨_, rfl⟩
    rw [hhm] at hd HH
    clear hhome hhm
    refine wp_region_held_drew (S := (fun w' => (w'.cell? ⟨bs, 0, none⟩ = some (.int .i64 c.L) ∧ w'.cell? ⟨bs, 1, none⟩ = some (.int .i64 c.W) ∧ w'.cell? ⟨bs, 2, none⟩ = some (.int .i64 c.N) ∧ w'.cell? ⟨bs, 3, none⟩ = some (.int .i64 c.H)) ∧ w'.cell? ⟨b0, 0, none⟩ = some (.int .i64 (k : Int)))) (by kernel_rfl) ?_ (fun hHeldrb => ?_)
    · (try dsimp only); exact ⟨⟨F.out.1.ten.1, F.out.1.ten.2.1, F.out.1.ten.2.2.1, F.out.1.ten.2.2.2.1⟩, by rw [cell_of_row _ _ _ _ _ _ F.out.2.2]; rfl⟩
    refine wpAnyH_take (i := 0) (oi := _) (v := ?vrb1) rfl (by kernel_rfl) (by kernel_rfl) (by kernel_rfl) (fun _ _ _ h => h) (Or.inl ⟨by rfl, ?hyrb1⟩) (by assumption) ?restrb1
    case hyrb1 => (intro w hSw; (try dsimp only at hSw); go_simp; all_goals with_reducible rfl)
    try simp only [Act.put, List.getElem_toArray, List.getElem_cons_zero, List.getElem_cons_succ, List.setIfInBounds_toArray, List.set_cons_zero, List.set_cons_succ]
    refine wpAnyH_take (i := 1) (oi := _) (v := ?vrb2) rfl (by kernel_rfl) (by kernel_rfl) (by kernel_rfl) (fun _ _ _ h => h) (Or.inl ⟨by rfl, ?hyrb2⟩) (by assumption) ?restrb2
    case hyrb2 => (intro w hSw; (try dsimp only at hSw); go_simp; all_goals with_reducible rfl)
    try simp only [Act.put, List.getElem_toArray, List.getElem_cons_zero, List.getElem_cons_succ, List.setIfInBounds_toArray, List.set_cons_zero, List.set_cons_succ]
    refine wpAnyH_take (i := 2) (oi := _) (v := ?vrb3) rfl (by kernel_rfl) (by kernel_rfl) (by kernel_rfl) (fun _ _ _ h => h) (Or.inl ⟨by rfl, ?hyrb3⟩) (by assumption) ?restrb3
    case hyrb3 => (intro w hSw; (try dsimp only at hSw); go_simp; all_goals with_reducible rfl)
    try simp only [Act.put, List.getElem_toArray, List.getElem_cons_zero, List.getElem_cons_succ, List.setIfInBounds_toArray, List.set_cons_zero, List.set_cons_succ]
    refine wpAnyH_take (i := 3) (oi := _) (v := ?vrb4) rfl (by kernel_rfl) (by kernel_rfl) (by kernel_rfl) (fun _ _ _ h => h) (Or.inl ⟨by rfl, ?hyrb4⟩) (by assumption) ?restrb4
    case hyrb4 => (intro w hSw; (try dsimp only at hSw); go_simp; all_goals with_reducible rfl)
    try simp only [Act.put, List.getElem_toArray, List.getElem_cons_zero, List.getElem_cons_succ, List.setIfInBounds_toArray, List.set_cons_zero, List.set_cons_succ]
    refine wpAnyH_take (i := 4) (oi := _) (v := ?vrb5) rfl (by kernel_rfl) (by kernel_rfl) (by kernel_rfl) (fun _ _ _ h => h) (Or.inl ⟨by rfl, ?hyrb5⟩) (by assumption) ?restrb5
    case hyrb5 => (intro w hSw; (try dsimp only at hSw); go_simp; all_goals with_reducible rfl)
    try simp only [Act.put, List.getElem_toArray, List.getElem_cons_zero, List.getElem_cons_succ, List.setIfInBounds_toArray, List.set_cons_zero, List.set_cons_succ]
    refine wpAnyH_take (i := 6) (oi := _) (v := ?vrb6) rfl (by kernel_rfl) (by kernel_rfl) (by kernel_rfl) (fun _ _ _ h => h) (Or.inl ⟨by rfl, ?hyrb6⟩) (by assumption) ?restrb6
    case hyrb6 => (intro w hSw; (try dsimp only at hSw); go_simp; all_goals with_reducible rfl)
    try simp only [Act.put, List.getElem_toArray, List.getElem_cons_zero, List.getElem_cons_succ, List.setIfInBounds_toArray, List.set_cons_zero, List.set_cons_succ]
    refine wpAnyH_take (i := 7) (oi := _) (v := ?vrb7) rfl (by kernel_rfl) (by kernel_rfl) (by kernel_rfl) (fun _ _ _ h => h) (Or.inl ⟨by rfl, ?hyrb7⟩) (by assumption) ?restrb7
    case hyrb7 => (intro w hSw; (try dsimp only at hSw); go_simp; all_goals with_reducible rfl)
    try simp only [Act.put, List.getElem_toArray, List.getElem_cons_zero, List.getElem_cons_succ, List.setIfInBounds_toArray, List.set_cons_zero, List.set_cons_succ]
    refine wpAnyH_ready (rs := [5]) (by kernel_rfl) (by simp) ?_
    refine AllReadyH.cons (o := _) rfl (fun K hK => ?_) AllReadyH.nil
    go_simp
    (with_reducible refine (HH.out _).mono ?_)
    rintro y w5 ⟨rfl, hb5⟩
    have F5 := Lib.hid (And.intro (F.out.1.rest hb5) (And.intro (F.out.2.1.trans (Bel.of hb5 F.out.1.bp_size)) (show w5.heap[b0]? = some (.cells (Op.mk k kd p v).cells 38 (0, 0)) from (hb5.block _ (blk_lt F.out.2.2)).trans F.out.2.2)))
    clear hb5
    go_wp2_with fail
    refine hK.out _ _ ?_ (fun hHeldrb8 => ?_)
    · (try dsimp only); exact ⟨⟨F5.out.1.ten.1, F5.out.1.ten.2.1, F5.out.1.ten.2.2.1, F5.out.1.ten.2.2.2.1⟩, by rw [cell_of_row _ _ _ _ _ _ F5.out.2.2]; rfl⟩
    clear hK K hHeldrb
    try simp only [Act.put, List.getElem_toArray, List.getElem_cons_zero, List.getElem_cons_succ, List.setIfInBounds_toArray, List.set_cons_zero, List.set_cons_succ]
    refine wpAnyH_take (i := 8) (oi := _) (v := ?vrb9) rfl (by kernel_rfl) (by kernel_rfl) (by kernel_rfl) (fun _ _ _ h => h) (Or.inl ⟨by rfl, ?hyrb9⟩) (by assumption) ?restrb9
    case hyrb9 => (intro w hSw; (try dsimp only at hSw); go_simp; all_goals with_reducible rfl)
    try simp only [Act.put, List.getElem_toArray, List.getElem_cons_zero, List.getElem_cons_succ, List.setIfInBounds_toArray, List.set_cons_zero, List.set_cons_succ]
    refine wpAnyH_done (by kernel_rfl) ?_ _
    skip
    have hrow : rowA A k = es := HQ.out.2.2.2.2.2.1
    have hF := find_calls F5.out.1 HQ.out.2.2.1 HQ.out.2.2.2.1 x
    have y0 : w5.cell? ⟨b0, 0, none⟩ = some (.int .i64 (k : Int)) := by rw [cell_of_row _ _ _ _ _ _ F5.out.2.2]; rfl
    have hll : l.length ≤ 1000 := by have h1 := HQ.out.1.len k es HQ.out.2.2.2.1; have h2 := HQ.out.2.2.2.2.1; omega
    have hm256 : A.m.length ≤ 256 := by have := HQ.out.1.ml; omega
    have HR := Lib.hid (And.intro hrow (And.intro hll hm256))
    have HF := Lib.hid hF
    clear hrow hll hm256 hF
    go_upto_region 5 with ((with_reducible refine (HF.out).mono ?_); rintro y w6 ⟨rfl, hb6⟩; have F6 := Lib.hid (And.intro (F5.out.1.rest hb6) (And.intro (F5.out.2.1.trans (Bel.of hb6 F5.out.1.bp_size)) (show w6.heap[b0]? = some (.cells (Op.mk k kd p v).cells 38 (0, 0)) from (hb6.block _ (blk_lt F5.out.2.2)).trans F5.out.2.2))); clear hb6)
    clear y0
    go_cut [6, 37] (fun s6 s37 wx => wx = w6 ∧ s6 = fiV l (fiF es x) ∧ s37 = .bool (fiF es x).isNone)
    case first =>
      cases hfi : fiF es x with
      | some j => simp only [hfi, fiV]; go_wp2_with fail; go_meet; exact ⟨rfl, by rw [hfi]; rfl, by rw [hfi]; rfl⟩
      | none => simp only [hfi, fiV]; go_wp2_with fail; go_meet; exact ⟨rfl, by rw [hfi]; rfl, by rw [hfi]; rfl⟩
    case rest =>
      obtain ⟨rfl, rfl, rfl⟩ := hcut
      go_upto_if 37 with fail
      go_cut [6] (fun s6 wx => PtMid c bs bm bc base vv A w b0 k p i kd v s6 wx)
      case first =>
        have y0 : wc.cell? ⟨b0, 0, none⟩ = some (.int .i64 (k : Int)) := by rw [cell_of_row _ _ _ _ _ _ F6.out.2.2]; rfl
        cases hfi : fiF es x with
        | some j =>
          obtain ⟨hj, hjl⟩ := fiF_some hfi
          obtain ⟨q, hq⟩ : ∃ q, l[j]? = some q := ⟨_, List.getElem?_eq_getElem (by have := HQ.out.2.2.2.2.1; omega)⟩
          obtain ⟨e, he⟩ : ∃ e, es[j]? = some e := ⟨_, List.getElem?_eq_getElem hj⟩
          have hgd : es.getD j (newE 0) = e := by rw [List.getD_eq_getElem?_getD, he]; rfl
          have hqd : l.getD j 0 = q := by rw [List.getD_eq_getElem?_getD, hq]; rfl
          obtain ⟨s0, s1, s2, s3, s4, s5, s6, s7, s8, s9, s10⟩ := F6.out.1.ten
          have f6 := s10 6
          have hcn : (A.h : Int) < 900000000 := by have := HQ.out.2.1; unfold cnt at this; omega
          have HJ := Lib.hid (And.intro hfi (And.intro hq (And.intro he hgd)))
          obtain ⟨W2, hW2⟩ : ∃ W2, wc.setCell ⟨bs, 6, none⟩ (.int .i64 ((A.h : Int) + 1)) = W2 := ⟨_, rfl⟩
          have hg : wc.grownBy W2 (some bs) := by rw [← hW2]; exact grownBy_set wc bs 6 (.int .i64 ((A.h : Int) + 1))
          have hs : Sys c bs bm bc base none sv vv ps { A with h := A.h + 1 } W2 := F6.out.1.count _ rfl rfl rfl hg (by rw [← hW2, heap_setCell_same wc bs 6 _ 71 _ F6.out.1.top]; rfl)
          have hbb := F6.out.1.below F6.out.1.pbs hg
          have hx2 := hbb.keep _ _ _ (by decide) (by decide) (by decide) (by decide) (by decide) F6.out.2.2
          have hus := use_calls hs HQ.out.2.2.1 hq HQ.out.2.2.2.1 he HR.out.2.1
          have HU := Lib.hid hus
          have F7 := Lib.hid (And.intro hs (And.intro (F6.out.2.1.trans hbb) hx2))
          have HW2 := Lib.hid hW2
          simp only [hfi, fiV, hqd, Option.isNone_some]
          clear hfi hjl hj hq he hqd hgd s0 s1 s2 s3 s4 s5 s7 s8 s9 s10 hs hbb hg hx2 hus hW2 y0
          go_upto_region 8 with fail
          rw [HW2.out]
          have y0 : W2.cell? ⟨b0, 0, none⟩ = some (.int .i64 (k : Int)) := by rw [cell_of_row _ _ _ _ _ _ F7.out.2.2]; rfl
          clear s6 f6
          go_wp2_with ((with_reducible refine (HU.out).mono ?_); rintro y w7 ⟨rfl, ⟨sv7, hs7⟩, hb7⟩; have F8 := Lib.hid (And.intro hs7 (And.intro (F7.out.2.1.trans hb7) (hb7.keep _ _ _ (by decide) (by decide) (by decide) (by decide) (by decide) F7.out.2.2))); clear hs7 hb7)
          go_meet
          have e1 : (es.eraseIdx j).length = (l.eraseIdx j).length := by
            have h1 := (List.getElem?_eq_some_iff.1 HJ.out.2.1).1
            have h2 := HQ.out.2.2.2.2.1
            rw [List.length_eraseIdx_of_lt (by omega), List.length_eraseIdx_of_lt h1, h2]
          refine ⟨sv7, ps.set k (useL l j q), _, useL l j q, (l.eraseIdx j).length, q, useL es j e, e, rfl, F8.out.1, F8.out.2.1, F8.out.2.2, List.getElem?_set_self (List.getElem?_eq_some_iff.1 HQ.out.2.2.1).1, snoc_last _ _, List.getElem?_set_self (List.getElem?_eq_some_iff.1 HQ.out.2.2.2.1).1, by rw [← e1]; exact snoc_last _ _, ?_⟩
          unfold putA
          rw [HQ.out.2.2.2.2.2.2.1, HQ.out.2.2.2.2.2.2.2, if_neg HM.out, HQ.out.2.2.2.2.2.1, HJ.out.1]
          simp only [HJ.out.2.2.2, List.set_set]
          unfold useL
          rw [← e1, set_last]
        | none =>
          have HJ := Lib.hid hfi
          have hen := enter_calls F6.out.1 HQ.out.2.2.1 HQ.out.2.2.2.1 x HQ.out.1.cf HR.out.2.2 (fun f hf => HQ.out.1.lin k _ f HQ.out.2.2.2.1 hf) (by have := HQ.out.2.1; unfold cnt at this; omega) HR.out.2.1
          have HE := Lib.hid hen
          simp only [hfi, fiV, Option.isNone_none]
          clear hfi hen
          go_wp2_with ((with_reducible refine (HE.out).mono ?_); rintro y w7 ⟨q, sv7, rfl, hs7, hb7, _⟩; have F8 := Lib.hid (And.intro hs7 (And.intro (F6.out.2.1.trans hb7) (hb7.keep _ _ _ (by decide) (by decide) (by decide) (by decide) (by decide) F6.out.2.2))); clear hs7 hb7)
          go_meet
          have hev := evL_len c es l HQ.out.2.2.2.2.1
          refine ⟨sv7, ps.set k (evL c l ++ [q]), _, evL c l ++ [q], (evL c l).length, q, evL c es ++ [newE x], newE x, rfl, F8.out.1, F8.out.2.1, F8.out.2.2, List.getElem?_set_self (List.getElem?_eq_some_iff.1 HQ.out.2.2.1).1, snoc_last _ _, List.getElem?_set_self (List.getElem?_eq_some_iff.1 HQ.out.2.2.2.1).1, by rw [← hev]; exact snoc_last _ _, ?_⟩
          unfold putA
          rw [HQ.out.2.2.2.2.2.2.1, HQ.out.2.2.2.2.2.2.2, if_neg HM.out, HQ.out.2.2.2.2.2.1, HJ.out]
          unfold entA
          simp only [List.set_set]
          rw [← hev, set_last]
      case rest =>
        obtain ⟨sv6, ps6, B, l6, j6, q, es6, e6, rfl, hs6, hb6, hx6, hk6, hq6, hc6, he6, hput⟩ := hcut
        have hen : EnAt wc q e6 := hs6.ent _ _ _ _ _ _ hk6 hc6 hq6 he6
        have y3 : wc.cell? ⟨b0, 3, none⟩ = some (.int .i64 v) := by rw [cell_of_row _ _ _ _ _ _ hx6]; rfl
        have d0 := hen.cell _ _ (En.at_d e6 i hi4)
        have d1 := hen.frozen (1 + i)
        have v0 := hen.cell _ _ (En.at_v e6 i hi4)
        have v1 := hen.frozen (5 + i)
        have t0 := hen.cell _ _ (En.at_t e6 i hi4)
        have t1 := hen.frozen (9 + i)
        have n1 : (1 + i = 5 + i) = False := by simp
        have n2 : (1 + i = 9 + i) = False := by simp
        have n3 : (5 + i = 9 + i) = False := by simp
        have e1 : EnAt (wc.drew.setCell ⟨q, 1 + i, none⟩ (.int .i64 v)) q { e6 with d := upd e6.d i v } := (hen.rest (bb_drew (Below.refl _ _))).set (1 + i) _ (En.set_d e6 i hi4 v)
        have e2 := e1.set (5 + i) (.bool true) (En.set_v _ i hi4 true)
        have e3 := e2.set (9 + i) (.bool true) (En.set_t _ i hi4 true)
        have hg := grownBy_trans (grownBy_trans (grownBy_set wc.drew q (1 + i) (.int .i64 v)) (grownBy_set _ q (5 + i) (.bool true))) (grownBy_set _ q (9 + i) (.bool true))
        have h5 := (hs6.rest (bb_drew (Below.refl _ _))).setEnt hk6 hq6 hc6 (wrE e6 i v) hg e3
        have hbz := hs6.below (hs6.pen hk6 hq6) (grownBy_of_drew hg)
        have hqb : q ≠ b0 := fun e => by
          unfold EnAt at hen
          rw [e, hx6] at hen
          simp at hen
        have G := Lib.hid (And.intro h5 (And.intro (hb6.trans hbz) (And.intro hput hx6)))
        have GK := Lib.hid (show ∀ w2 : World, w2.heap[b0]? = wc.heap[b0]? → w2.cell? ⟨b0, 3, none⟩ = some (.int .i64 v) from fun w2 hw => by rw [cell_of_row _ _ _ _ _ _ (hw.trans hx6)]; rfl)
        clear e1 e2 e3 hg h5 hbz hs6 hb6 hput hk6 hq6 hc6 he6 hen hx6
        go_upto_region 9 with fail
        refine wp_region_held_drew (S := (fun w' => w'.cell? ⟨b0, 3, none⟩ = some (.int .i64 v))) (by kernel_rfl) ?_ (fun hHeldz => ?_)
        · (try dsimp only); exact y3
        refine wpAnyH_take (i := 0) (oi := _) (v := ?vz1) rfl (by kernel_rfl) (by kernel_rfl) (by kernel_rfl) (fun _ _ _ h => h) (Or.inl ⟨by rfl, ?hyz1⟩) (by assumption) ?restz1
        case hyz1 => (intro w hSw; (try dsimp only at hSw); go_simp; all_goals with_reducible rfl)
        try simp only [Act.put, List.getElem_toArray, List.getElem_cons_zero, List.getElem_cons_succ, List.setIfInBounds_toArray, List.set_cons_zero, List.set_cons_succ]
        refine wpAnyH_take (i := 1) (oi := _) (v := ?vz2) rfl (by kernel_rfl) (by kernel_rfl) (by kernel_rfl) (fun _ _ _ h => h) (Or.inl ⟨by rfl, ?hyz2⟩) (by assumption) ?restz2
        case hyz2 => (intro w hSw; (try dsimp only at hSw); go_simp; all_goals with_reducible rfl)
        try simp only [Act.put, List.getElem_toArray, List.getElem_cons_zero, List.getElem_cons_succ, List.setIfInBounds_toArray, List.set_cons_zero, List.set_cons_succ]
        refine wpAnyH_take (i := 2) (oi := _) (v := ?vz3) rfl (by kernel_rfl) (by kernel_rfl) (by kernel_rfl) (fun _ _ _ h => h) (Or.inl ⟨by rfl, ?hyz3⟩) (by assumption) ?restz3
        case hyz3 => (intro w hSw; (try dsimp only at hSw); go_simp; all_goals with_reducible rfl)
        try simp only [Act.put, List.getElem_toArray, List.getElem_cons_zero, List.getElem_cons_succ, List.setIfInBounds_toArray, List.set_cons_zero, List.set_cons_succ]
        refine wpAnyH_take (i := 3) (oi := _) (v := ?vz4) rfl (by kernel_rfl) (by kernel_rfl) (by kernel_rfl) (fun _ _ _ h => h) (Or.inl ⟨by rfl, ?hyz4⟩) (by assumption) ?restz4
        case hyz4 => (intro w hSw; (try dsimp only at hSw); go_simp; all_goals with_reducible rfl)
        try simp only [Act.put, List.getElem_toArray, List.getElem_cons_zero, List.getElem_cons_succ, List.setIfInBounds_toArray, List.set_cons_zero, List.set_cons_succ]
        refine wpAnyH_take (i := 4) (oi := _) (v := ?vz5) rfl (by kernel_rfl) (by kernel_rfl) (by kernel_rfl) (fun _ _ _ h => h) (Or.inl ⟨by rfl, ?hyz5⟩) (by assumption) ?restz5
        case hyz5 => (intro w hSw; (try dsimp only at hSw); go_simp; all_goals with_reducible rfl)
        try simp only [Act.put, List.getElem_toArray, List.getElem_cons_zero, List.getElem_cons_succ, List.setIfInBounds_toArray, List.set_cons_zero, List.set_cons_succ]
        refine wpAnyH_take (i := 5) (oi := _) (v := ?vz6) rfl (by kernel_rfl) (by kernel_rfl) (by kernel_rfl) (fun _ _ _ h => h) (Or.inl ⟨by rfl, ?hyz6⟩) (by assumption) ?restz6
        case hyz6 => (intro w hSw; (try dsimp only at hSw); go_simp; all_goals with_reducible rfl)
        try simp only [Act.put, List.getElem_toArray, List.getElem_cons_zero, List.getElem_cons_succ, List.setIfInBounds_toArray, List.set_cons_zero, List.set_cons_succ]
        refine wpAnyH_take (i := 6) (oi := _) (v := ?vz7) rfl (by kernel_rfl) (by kernel_rfl) (by kernel_rfl) (fun _ _ _ h => h) (Or.inl ⟨by rfl, ?hyz7⟩) (by assumption) ?restz7
        case hyz7 => (intro w hSw; (try dsimp only at hSw); go_simp; all_goals with_reducible rfl)
        try simp only [Act.put, List.getElem_toArray, List.getElem_cons_zero, List.getElem_cons_succ, List.setIfInBounds_toArray, List.set_cons_zero, List.set_cons_succ]
        refine wpAnyH_take (i := 7) (oi := _) (v := ?vz8) rfl (by kernel_rfl) (by kernel_rfl) (by kernel_rfl) (fun _ _ _ h => h) (Or.inl ⟨by rfl, ?hyz8⟩) (by assumption) ?restz8
        case hyz8 => (intro w hSw; (try dsimp only at hSw); go_simp; all_goals with_reducible rfl)
        try simp only [Act.put, List.getElem_toArray, List.getElem_cons_zero, List.getElem_cons_succ, List.setIfInBounds_toArray, List.set_cons_zero, List.set_cons_succ]
        refine wpAnyH_take (i := 8) (oi := _) (v := ?vz9) rfl (by kernel_rfl) (by kernel_rfl) (by kernel_rfl) (fun _ _ _ h => h) (Or.inl ⟨by rfl, ?hyz9⟩) (by assumption) ?restz9
        case hyz9 => (intro w hSw; (try dsimp only at hSw); go_simp; all_goals with_reducible rfl)
        try simp only [Act.put, List.getElem_toArray, List.getElem_cons_zero, List.getElem_cons_succ, List.setIfInBounds_toArray, List.set_cons_zero, List.set_cons_succ]
        refine wpAnyH_take (i := 9) (oi := _) (v := ?vz10) rfl (by kernel_rfl) (by kernel_rfl) (by kernel_rfl) (fun _ _ _ h => h) (Or.inl ⟨by rfl, ?hyz10⟩) (by assumption) ?restz10
        case hyz10 => (intro w hSw; (try dsimp only at hSw); go_simp; all_goals with_reducible rfl)
        try simp only [Act.put, List.getElem_toArray, List.getElem_cons_zero, List.getElem_cons_succ, List.setIfInBounds_toArray, List.set_cons_zero, List.set_cons_succ]
        refine wpAnyH_take (i := 10) (oi := _) (v := ?vz11) rfl (by kernel_rfl) (by kernel_rfl) (by kernel_rfl) (fun _ _ _ h => h) (Or.inl ⟨by rfl, ?hyz11⟩) (by assumption) ?restz11
        case hyz11 => (intro w hSw; (try dsimp only at hSw); go_simp; all_goals with_reducible rfl)
        try simp only [Act.put, List.getElem_toArray, List.getElem_cons_zero, List.getElem_cons_succ, List.setIfInBounds_toArray, List.set_cons_zero, List.set_cons_succ]
        refine wpAnyH_take (i := 12) (oi := _) (v := ?vz12) rfl (by kernel_rfl) (by kernel_rfl) (by kernel_rfl) (fun _ _ _ h => h) (Or.inl ⟨by rfl, ?hyz12⟩) (by assumption) ?restz12
        case hyz12 => (intro w hSw; (try dsimp only at hSw); go_simp; all_goals with_reducible rfl)
        try simp only [Act.put, List.getElem_toArray, List.getElem_cons_zero, List.getElem_cons_succ, List.setIfInBounds_toArray, List.set_cons_zero, List.set_cons_succ]
        refine wpAnyH_take (i := 13) (oi := _) (v := ?vz13) rfl (by kernel_rfl) (by kernel_rfl) (by kernel_rfl) (fun _ _ _ h => h) (Or.inl ⟨by rfl, ?hyz13⟩) (by assumption) ?restz13
        case hyz13 => (intro w hSw; (try dsimp only at hSw); go_simp; all_goals with_reducible rfl)
        try simp only [Act.put, List.getElem_toArray, List.getElem_cons_zero, List.getElem_cons_succ, List.setIfInBounds_toArray, List.set_cons_zero, List.set_cons_succ]
        refine wpAnyH_take (i := 16) (oi := _) (v := ?vz14) rfl (by kernel_rfl) (by kernel_rfl) (by kernel_rfl) (fun _ _ _ h => h) (Or.inl ⟨by rfl, ?hyz14⟩) (by assumption) ?restz14
        case hyz14 => (intro w hSw; (try dsimp only at hSw); go_simp; all_goals with_reducible rfl)
        try simp only [Act.put, List.getElem_toArray, List.getElem_cons_zero, List.getElem_cons_succ, List.setIfInBounds_toArray, List.set_cons_zero, List.set_cons_succ]
        refine wpAnyH_take (i := 17) (oi := _) (v := ?vz15) rfl (by kernel_rfl) (by kernel_rfl) (by kernel_rfl) (fun _ _ _ h => h) (Or.inl ⟨by rfl, ?hyz15⟩) (by assumption) ?restz15
        case hyz15 => (intro w hSw; (try dsimp only at hSw); go_simp; all_goals with_reducible rfl)
        try simp only [Act.put, List.getElem_toArray, List.getElem_cons_zero, List.getElem_cons_succ, List.setIfInBounds_toArray, List.set_cons_zero, List.set_cons_succ]
        refine wpAnyH_ready (rs := [11]) (by kernel_rfl) (by simp) ?_
        refine AllReadyH.cons (o := _) rfl (fun K hK => ?_) AllReadyH.nil
        go_simp
        refine hK.out _ _ ?_ (fun hHeldz16 => ?_)
        · (try dsimp only); exact GK.out _ ((heap_setCell_other _ _ _ _ (fun e => hqb e.symm)).trans (rfl))
        clear hK K hHeldz
        try simp only [Act.put, List.getElem_toArray, List.getElem_cons_zero, List.getElem_cons_succ, List.setIfInBounds_toArray, List.set_cons_zero, List.set_cons_succ]
        refine wpAnyH_take (i := 14) (oi := _) (v := ?vz17) rfl (by kernel_rfl) (by kernel_rfl) (by kernel_rfl) (fun _ _ _ h => h) (Or.inl ⟨by rfl, ?hyz17⟩) (by assumption) ?restz17
        case hyz17 => (intro w hSw; (try dsimp only at hSw); go_simp; all_goals with_reducible rfl)
        try simp only [Act.put, List.getElem_toArray, List.getElem_cons_zero, List.getElem_cons_succ, List.setIfInBounds_toArray, List.set_cons_zero, List.set_cons_succ]
        refine wpAnyH_ready (rs := [15]) (by kernel_rfl) (by simp) ?_
        refine AllReadyH.cons (o := _) rfl (fun K hK => ?_) AllReadyH.nil
        go_simp
        refine hK.out _ _ ?_ (fun hHeldz18 => ?_)
        · (try dsimp only); exact GK.out _ ((heap_setCell_other _ _ _ _ (fun e => hqb e.symm)).trans ((heap_setCell_other _ _ _ _ (fun e => hqb e.symm)).trans (rfl)))
        clear hK K hHeldz16
        try simp only [Act.put, List.getElem_toArray, List.getElem_cons_zero, List.getElem_cons_succ, List.setIfInBounds_toArray, List.set_cons_zero, List.set_cons_succ]
        refine wpAnyH_take (i := 18) (oi := _) (v := ?vz19) rfl (by kernel_rfl) (by kernel_rfl) (by kernel_rfl) (fun _ _ _ h => h) (Or.inl ⟨by rfl, ?hyz19⟩) (by assumption) ?restz19
        case hyz19 => (intro w hSw; (try dsimp only at hSw); go_simp; all_goals with_reducible rfl)
        try simp only [Act.put, List.getElem_toArray, List.getElem_cons_zero, List.getElem_cons_succ, List.setIfInBounds_toArray, List.set_cons_zero, List.set_cons_succ]
        refine wpAnyH_ready (rs := [19]) (by kernel_rfl) (by simp) ?_
        refine AllReadyH.cons (o := _) rfl (fun K hK => ?_) AllReadyH.nil
        go_simp
        refine hK.out _ _ ?_ (fun hHeldz20 => ?_)
        · (try dsimp only); exact GK.out _ ((heap_setCell_other _ _ _ _ (fun e => hqb e.symm)).trans ((heap_setCell_other _ _ _ _ (fun e => hqb e.symm)).trans ((heap_setCell_other _ _ _ _ (fun e => hqb e.symm)).trans (rfl))))
        clear hK K hHeldz18
        try simp only [Act.put, List.getElem_toArray, List.getElem_cons_zero, List.getElem_cons_succ, List.setIfInBounds_toArray, List.set_cons_zero, List.set_cons_succ]
        refine wpAnyH_done (by kernel_rfl) ?_ _
        go_wp2_with fail
        (first | go_end0 | go_ret)
        refine ⟨rfl, G.out.2.1, sv6, vv, ps6, ?_⟩
        rw [G.out.2.2.1]
        exact G.out.1
end Go.Proofs.Ytggidakiflnhhaa
