import Derived.Test.YtggidakiflnhhaaR
namespace Go.Proofs.Ytggidakiflnhhaa
open Go.RowKit
set_option maxHeartbeats 8000000
set_option maxRecDepth 100000
set_option linter.unusedSimpArgs false
set_option linter.unusedVariables false

/-- what Run returns -/
def RunPost (c : Cf) (l : List Op) (w : World) (e : Ending) (w' : World) : Prop :=
  if chkF c l = 0 then ∃ V cV M, e = .returned (.tuple #[.slice V (runA c l).vs.length cV, .slice (some M) (runA c l).m.length (runA c l).m.length, .agg #[.int .i64 ((runA c l).f : Int), .int .i64 ((runA c l).wr : Int), .int .i64 ((runA c l).h : Int)], .int .i64 0]) ∧ Rd encI 1 w' V (runA c l).vs ∧ Rd encI 1 w' (some M) (runA c l).m ∧ Below w.heap.size w w'
  else e = .returned (.tuple #[.slice none 0 0, .slice none 0 0, .agg #[.int .i64 0, .int .i64 0, .int .i64 0], .int .i64 (chkF c l)]) ∧ Below w.heap.size w w'
/-- the same, and the rows are new ones -/
def RunPostF (c : Cf) (l : List Op) (w : World) (e : Ending) (w' : World) : Prop :=
  if chkF c l = 0 then ∃ V cV M, e = .returned (.tuple #[.slice V (runA c l).vs.length cV, .slice (some M) (runA c l).m.length (runA c l).m.length, .agg #[.int .i64 ((runA c l).f : Int), .int .i64 ((runA c l).wr : Int), .int .i64 ((runA c l).h : Int)], .int .i64 0]) ∧ Rd encI 1 w' V (runA c l).vs ∧ Rd encI 1 w' (some M) (runA c l).m ∧ Below w.heap.size w w' ∧ (∀ a, V = some a → w.heap.size ≤ a.block) ∧ w.heap.size ≤ M.block
  else e = .returned (.tuple #[.slice none 0 0, .slice none 0 0, .agg #[.int .i64 0, .int .i64 0, .int .i64 0], .int .i64 (chkF c l)]) ∧ Below w.heap.size w w'
theorem RunPostF.weak {c : Cf} {l : List Op} {w : World} {e : Ending} {w' : World} (h : RunPostF c l w e w') : RunPost c l w e w' := by
  unfold RunPostF at h
  unfold RunPost
  split
  · rename_i hk
    rw [if_pos hk] at h
    obtain ⟨V, cV, M, h1, h2, h3, h4, _, _⟩ := h
    exact ⟨V, cV, M, h1, h2, h3, h4⟩
  · rename_i hk
    rw [if_neg hk] at h
    exact h
theorem infoZ {t : TypeId} {z : Value} {sz b : Nat} (h : (Try.prog.info? t).map (fun i => (i.zero, i.size, i.bytes)) = some (some z, sz, b)) : ∃ i, Try.prog.info? t = some i ∧ i.zero = some z ∧ i.size = sz ∧ i.bytes = b := info_parts h
theorem info99 : (Try.prog.info? 99).map (fun i => (i.zero, i.size, i.bytes)) = some (some (.slice none 0 0), 1, 24) := by kernel_rfl
theorem made1 (z : Value) (n : Nat) (hz : z.cells = #[z]) : (madeCells z.cells (n * 1)).toList = List.replicate n z := by
  have h1 : z.cells.size = 1 := by rw [hz]; rfl
  have := madeCells_mul z.cells n (by omega)
  rw [h1] at this
  rw [this, hz]
  induction n with
  | zero => rfl
  | succ n ih => rw [List.replicate_succ, List.flatten_cons, List.replicate_succ]; simp at ih ⊢
theorem made_row {t e : TypeId} {z : Value} {b : Nat} (ht : Try.prog.underlying t = some (.slice e)) (hi : (Try.prog.info? e).map (fun i => (i.zero, i.size, i.bytes)) = some (some z, 1, b)) (hz : z.cells = #[z]) (hb : b ≤ 24) (n : Nat) (hn : n ≤ 1000) (m : Int) (hm : m = (n : Int)) (w : World) :
    ∃ g u, (Instr.makeSlice t (.int .i64 m) (.int .i64 m)).run Try.prog w = .ok (.slice (some ⟨g, 0, none⟩) n n) u ∧ u.heap[g]? = some (.cells (List.replicate n z).toArray e (0, 0)) ∧ Below w.heap.size w u ∧ w.heap.size ≤ g := by
  subst hm
  obtain ⟨i1, hi1, hz1, hs1, hb1⟩ := infoZ hi
  obtain ⟨u, hmk, hown, hg⟩ := run_makeSlice_full (P := Try.prog) (w := w) w.heap.size t e i1 z 1 ht hi1 hz1 hs1 .i64 .i64 n (by omega) (by rw [hb1]; have : b * n ≤ 24 * 1000 := Nat.mul_le_mul hb hn; omega) (by simp [maxLen]; omega) (Nat.le_refl _)
  rw [made1 z n hz] at hown
  refine ⟨w.heap.size, u, hmk, ?_, ⟨hg.os, hg.tape, hg.output, hg.size, fun k hk => hg.block k hk (by simp)⟩, Nat.le_refl _⟩
  rcases hown.2 with ⟨h', _⟩ | ⟨g, cap, cur, h', _, hgc, _, _, hcs, ht'⟩
  · simp at h'
  · simp only [Value.slice.injEq, Option.some.injEq, Addr.mk.injEq, and_true, true_and] at h'
    obtain ⟨rfl, rfl⟩ := h'
    rw [hgc]
    rw [List.take_of_length_le (by rw [Array.length_toList, hcs]; exact Nat.le_refl _)] at ht'
    rw [← ht']
theorem sys_init {c : Cf} (hok : cfOk c) {bs bm bc base : Nat} {w : World} (h1 : w.heap[bs]? = some (.cells #[.int .i64 c.L, .int .i64 c.W, .int .i64 c.N, .int .i64 c.H, .int .i64 0, .int .i64 0, .int .i64 0, .slice (some ⟨bm, 0, none⟩) c.W.toNat c.W.toNat, .slice (some ⟨bc, 0, none⟩) c.L.toNat c.L.toNat, .slice none 0 0] 71 (0, 0)))
    (h2 : w.heap[bm]? = some (.cells (List.replicate c.W.toNat (.int .i64 0)).toArray 3 (0, 0))) (h3 : w.heap[bc]? = some (.cells (List.replicate c.L.toNat (.slice none 0 0)).toArray 99 (0, 0))) (b1 : base ≤ bs) (b2 : base ≤ bm) (b3 : base ≤ bc) : SysE c bs bm bc base (initA c) w := by
  have hr : ∀ (k : Nat) (l : List Nat), (List.replicate c.L.toNat ([] : List Nat))[k]? = some l → l = [] := fun k l hk => by
    rw [List.getElem?_replicate] at hk
    split at hk
    · exact (Option.some.inj hk).symm
    · cases hk
  have hs : ∀ (k : Nat) (v : Value), (List.replicate c.L.toNat (Value.slice none 0 0))[k]? = some v → v = .slice none 0 0 := fun k v hk => by
    rw [List.getElem?_replicate] at hk
    split at hk
    · exact (Option.some.inj hk).symm
    · cases hk
  refine ⟨List.replicate c.L.toNat (.slice none 0 0), .slice none 0 0, List.replicate c.L.toNat [], ?_, ?_, h3, by simp, by simp [initA], fun k v l a b _ => ?_, fun j k u v a b _ _ _ => ?_, fun k l es a b => ?_, fun k l es i p e a b d _ => ?_, ?_, by simp [Value.ownBlock], fun k l i k' l' i' p a b _ _ => ?_, fun k l p a b => ?_, b1, b2, b3⟩
  · rw [h1]; simp [topC, initA]
  · rw [h2]; simp [memC, initA]
  · rw [hs k v a, hr k l b]
    exact ⟨by simp, Or.inl ⟨rfl, rfl⟩⟩
  · rw [hs j u a]; intro x hx; simp [Value.ownBlock] at hx
  · rw [hr k l a]
    simp only [initA, List.getElem?_replicate] at b
    split at b
    · rw [← Option.some.inj b]; rfl
    · cases b
  · rw [hr k l a] at d; simp at d
  · exact ⟨by simp [initA], Or.inl ⟨rfl, rfl⟩⟩
  · rw [hr k l a] at b; simp at b
  · rw [hr k l a] at b; simp at b
theorem Sys.memRd {c : Cf} {bs bm bc base : Nat} {hole : Option Nat} {sv : List Value} {vv : Value} {ps : List (List Nat)} {A : AS} {w : World} (h : Sys c bs bm bc base hole sv vv ps A w) (hs : A.m.length ≤ 1000) : Rd encI 1 w (some ⟨bm, 0, none⟩) A.m :=
  ⟨by omega, fun k hk => ⟨_, rfl, fun j v hv => by
    have hj : j = 0 := by have := (List.getElem?_eq_some_iff.1 hv).1; simp at this; exact this
    subst hj
    have := (h.word k hk).1
    rw [getD_in _ _ hk] at this
    rw [Nat.mul_one, Nat.add_zero, add_at, this]
    simpa using hv⟩⟩
theorem set3 (w : World) (b : Nat) (x y z x' y' z' : Value) (h : w.heap[b]? = some (.cells #[x, y, z] 34 (0, 0))) : (((w.setCell ⟨b, 0, none⟩ x').setCell ⟨b, 1, none⟩ y').setCell ⟨b, 2, none⟩ z').heap[b]? = some (.cells #[x', y', z'] 34 (0, 0)) := by
  have h1 := heap_setCell_same w b 0 _ 34 x' h
  have h2 := heap_setCell_same _ b 1 _ 34 y' h1
  have h3 := heap_setCell_same _ b 2 _ 34 z' h2
  rw [h3]
  rfl
theorem run_callsF (c : Cf) (l : List Op) (A : Option Addr) (cp : Nat) (w : World) (hA : Rd encP 4 w A l) :
    Calls Try.prog 12 #[c.val, .slice A l.length cp] w (RunPostF c l w) := by
  have hsm := hA.small
  obtain ⟨W1, hW1⟩ : ∃ W1, w.alloc (.cells c.cells 25) = W1 := ⟨_, rfl⟩
  have hb1 : Below w.heap.size w W1 := by rw [← hW1]; exact (Below.refl _ w).alloc (Nat.le_refl _) _
  have hx1 : W1.heap[w.heap.size]? = some (.cells c.cells 25 (0, 0)) := by rw [← hW1]; exact Go.heap_alloc_new w _
  obtain ⟨W2, hW2⟩ : ∃ W2, W1.alloc (.cells #[.int .i64 0, .int .i64 0, .int .i64 0] 34) = W2 := ⟨_, rfl⟩
  have hb2 : Below W1.heap.size W1 W2 := by rw [← hW2]; exact (Below.refl _ W1).alloc (Nat.le_refl _) _
  have hx2 : W2.heap[W1.heap.size]? = some (.cells #[.int .i64 0, .int .i64 0, .int .i64 0] 34 (0, 0)) := by rw [← hW2]; exact Go.heap_alloc_new W1 _
  obtain ⟨bx, hbx⟩ : ∃ b, w.heap.size = b := ⟨_, rfl⟩
  have hby : W1.heap.size = bx + 1 := by rw [← hW1, ← hbx]; simp
  have hx1' := (hb2.block _ (blk_lt hx1)).trans hx1
  have hlow := hb1.trans (hb2.mono hb1.size)
  rw [hbx] at hx1'
  rw [hby] at hx2
  have hck := check_calls c l A cp W2 (hA.below hlow)
  have y0 : W2.cell? ⟨bx, 0, none⟩ = some (.int .i64 c.L) := by rw [cell_of_row _ _ _ _ _ _ hx1']; rfl
  have y1 : W2.cell? ⟨bx, 1, none⟩ = some (.int .i64 c.W) := by rw [cell_of_row _ _ _ _ _ _ hx1']; rfl
  have y2 : W2.cell? ⟨bx, 2, none⟩ = some (.int .i64 c.N) := by rw [cell_of_row _ _ _ _ _ _ hx1']; rfl
  have y3 : W2.cell? ⟨bx, 3, none⟩ = some (.int .i64 c.H) := by rw [cell_of_row _ _ _ _ _ _ hx1']; rfl
  have HC := Lib.hid hck
  have HW := Lib.hid (And.intro hW1 (And.intro hW2 (And.intro hbx hby)))
  have H2 := Lib.hid (And.intro hlow (And.intro hx1' (And.intro hx2 hA)))
  clear hW1 hW2 hb1 hb2 hx1 hx2 hx1' hlow hck hA hbx hby
  by_cases hk : chkF c l = 0
  · rw [hk] at HC
    have HK := Lib.hid hk
    clear hk
    go_enter Try.func12, Try.ntmps12
    go_upto_region 1 with fail
    rw [HW.out.1, HW.out.2.1]
    try rw [HW.out.2.2.1]
    go_upto_region 4 with ((with_reducible refine (HC.out).mono ?_); rintro e w3 ⟨rfl, hb3⟩; have H3 := Lib.hid (And.intro (H2.out.1.trans (hb3.mono H2.out.1.size)) (And.intro ((hb3.block _ (blk_lt H2.out.2.1)).trans H2.out.2.1) ((hb3.block _ (blk_lt H2.out.2.2.1)).trans H2.out.2.2.1))); clear hb3)
    clear y0 y1 y2 y3
    have hok : cfOk c := by
      have := HK.out
      unfold chkF at this
      apply Classical.byContradiction
      intro h
      rw [if_pos h] at this
      cases this
    have HO := Lib.hid hok
    obtain ⟨o1, o2, o3, o4, o5, o6, o7, o8, o9⟩ := hok
    have hWn : c.W = (c.W.toNat : Int) := by omega
    have hLn : c.L = (c.L.toNat : Int) := by omega
    have hW1 : c.W.toNat ≤ 1000 := by omega
    have hL1 : c.L.toNat ≤ 1000 := by omega
    have HWL := Lib.hid (And.intro hWn hLn)
    clear hWn hLn
    go_cut [9] (fun s9 wx => ∃ bs bm bc, s9 = ptr bs ∧ SysE c bs bm bc w3.heap.size (initA c) wx ∧ Below w3.heap.size w3 wx)
    case first =>
      have z0 : w3.cell? ⟨bx, 0, none⟩ = some (.int .i64 c.L) := by rw [cell_of_row _ _ _ _ _ _ H3.out.2.1]; rfl
      have z1 : w3.cell? ⟨bx, 1, none⟩ = some (.int .i64 c.W) := by rw [cell_of_row _ _ _ _ _ _ H3.out.2.1]; rfl
      have z2 : w3.cell? ⟨bx, 2, none⟩ = some (.int .i64 c.N) := by rw [cell_of_row _ _ _ _ _ _ H3.out.2.1]; rfl
      have z3 : w3.cell? ⟨bx, 3, none⟩ = some (.int .i64 c.H) := by rw [cell_of_row _ _ _ _ _ _ H3.out.2.1]; rfl
      have HZ := Lib.hid (And.intro z0 (And.intro z1 (And.intro z2 z3)))
      clear z0 z1 z2 z3
      refine wp_region_held_drew (S := (fun w' => w'.cell? ⟨bx, 0, none⟩ = some (.int .i64 c.L) ∧ w'.cell? ⟨bx, 1, none⟩ = some (.int .i64 c.W) ∧ w'.cell? ⟨bx, 2, none⟩ = some (.int .i64 c.N) ∧ w'.cell? ⟨bx, 3, none⟩ = some (.int .i64 c.H))) (by kernel_rfl) ?_ (fun hHelda => ?_)
      · (try dsimp only); exact ⟨((bb_drew (Below.refl _ _)).cell (World.block_lt_of_cell? _ _ HZ.out.1)).trans HZ.out.1, ((bb_drew (Below.refl _ _)).cell (World.block_lt_of_cell? _ _ HZ.out.2.1)).trans HZ.out.2.1, ((bb_drew (Below.refl _ _)).cell (World.block_lt_of_cell? _ _ HZ.out.2.2.1)).trans HZ.out.2.2.1, ((bb_drew (Below.refl _ _)).cell (World.block_lt_of_cell? _ _ HZ.out.2.2.2)).trans HZ.out.2.2.2⟩
      refine wpAnyH_take (i := 0) (oi := _) (v := ?va1) rfl (by kernel_rfl) (by kernel_rfl) (by kernel_rfl) (fun _ _ _ h => h) (Or.inl ⟨by rfl, ?hya1⟩) (by assumption) ?resta1
      case hya1 => (intro w hSw; (try dsimp only at hSw); go_simp; all_goals with_reducible rfl)
      try simp only [Act.put, List.getElem_toArray, List.getElem_cons_zero, List.getElem_cons_succ, List.setIfInBounds_toArray, List.set_cons_zero, List.set_cons_succ]
      refine wpAnyH_take (i := 1) (oi := _) (v := ?va2) rfl (by kernel_rfl) (by kernel_rfl) (by kernel_rfl) (fun _ _ _ h => h) (Or.inl ⟨by rfl, ?hya2⟩) (by assumption) ?resta2
      case hya2 => (intro w hSw; (try dsimp only at hSw); go_simp; all_goals with_reducible rfl)
      try simp only [Act.put, List.getElem_toArray, List.getElem_cons_zero, List.getElem_cons_succ, List.setIfInBounds_toArray, List.set_cons_zero, List.set_cons_succ]
      refine wpAnyH_take (i := 2) (oi := _) (v := ?va3) rfl (by kernel_rfl) (by kernel_rfl) (by kernel_rfl) (fun _ _ _ h => h) (Or.inl ⟨by rfl, ?hya3⟩) (by assumption) ?resta3
      case hya3 => (intro w hSw; (try dsimp only at hSw); go_simp; all_goals with_reducible rfl)
      try simp only [Act.put, List.getElem_toArray, List.getElem_cons_zero, List.getElem_cons_succ, List.setIfInBounds_toArray, List.set_cons_zero, List.set_cons_succ]
      refine wpAnyH_take (i := 4) (oi := _) (v := ?va4) rfl (by kernel_rfl) (by kernel_rfl) (by kernel_rfl) (fun _ _ _ h => h) (Or.inl ⟨by rfl, ?hya4⟩) (by assumption) ?resta4
      case hya4 => (intro w hSw; (try dsimp only at hSw); go_simp; all_goals with_reducible rfl)
      try simp only [Act.put, List.getElem_toArray, List.getElem_cons_zero, List.getElem_cons_succ, List.setIfInBounds_toArray, List.set_cons_zero, List.set_cons_succ]
      refine wpAnyH_take (i := 5) (oi := _) (v := ?va5) rfl (by kernel_rfl) (by kernel_rfl) (by kernel_rfl) (fun _ _ _ h => h) (Or.inl ⟨by rfl, ?hya5⟩) (by assumption) ?resta5
      case hya5 => (intro w hSw; (try dsimp only at hSw); go_simp; all_goals with_reducible rfl)
      try simp only [Act.put, List.getElem_toArray, List.getElem_cons_zero, List.getElem_cons_succ, List.setIfInBounds_toArray, List.set_cons_zero, List.set_cons_succ]
      refine wpAnyH_ready (rs := [3, 6]) (by kernel_rfl) (by simp) ?_
      refine AllReadyH.cons (o := _) rfl (fun K hK => ?_) ?_
      · obtain ⟨gm, um, hmk, hrow, hbu, hge⟩ := made_row Try.underlying32 info3 rfl (by decide) c.W.toNat hW1 c.W HWL.out.1 (w3.drew)
        go_simp
        clear hmk
        have HBm := Lib.hid (show Below w3.heap.size w3 um from ((bb_drew (Below.refl _ _)) : Below w3.heap.size w3 (w3.drew)).trans (hbu.mono ((bb_drew (Below.refl _ _)) : Below w3.heap.size w3 (w3.drew)).size))
        have HGm := Lib.hid (And.intro hrow (And.intro hbu (Nat.le_trans ((bb_drew (Below.refl _ _)) : Below w3.heap.size w3 (w3.drew)).size hge)))
        clear hrow hbu hge
        refine hK.out _ _ ?_ (fun hHelda6 => ?_)
        · (try dsimp only); exact ⟨(HBm.out.cell (World.block_lt_of_cell? _ _ HZ.out.1)).trans HZ.out.1, (HBm.out.cell (World.block_lt_of_cell? _ _ HZ.out.2.1)).trans HZ.out.2.1, (HBm.out.cell (World.block_lt_of_cell? _ _ HZ.out.2.2.1)).trans HZ.out.2.2.1, (HBm.out.cell (World.block_lt_of_cell? _ _ HZ.out.2.2.2)).trans HZ.out.2.2.2⟩
        clear hK K hHelda
        try simp only [Act.put, List.getElem_toArray, List.getElem_cons_zero, List.getElem_cons_succ, List.setIfInBounds_toArray, List.set_cons_zero, List.set_cons_succ]
        refine wpAnyH_ready (rs := [6]) (by kernel_rfl) (by simp) ?_
        refine AllReadyH.cons (o := _) rfl (fun K hK => ?_) AllReadyH.nil
        obtain ⟨gt, umt, hmk, hrow, hbu, hge⟩ := made_row Try.underlying69 info99 rfl (by decide) c.L.toNat hL1 c.L HWL.out.2 (um)
        go_simp
        clear hmk
        have HBmt := Lib.hid (show Below w3.heap.size w3 umt from (HBm.out : Below w3.heap.size w3 (um)).trans (hbu.mono (HBm.out : Below w3.heap.size w3 (um)).size))
        have HGmt := Lib.hid (And.intro hrow (And.intro hbu (Nat.le_trans (HBm.out : Below w3.heap.size w3 (um)).size hge)))
        clear hrow hbu hge
        refine hK.out _ _ ?_ (fun hHelda7 => ?_)
        · (try dsimp only); exact ⟨(HBmt.out.cell (World.block_lt_of_cell? _ _ HZ.out.1)).trans HZ.out.1, (HBmt.out.cell (World.block_lt_of_cell? _ _ HZ.out.2.1)).trans HZ.out.2.1, (HBmt.out.cell (World.block_lt_of_cell? _ _ HZ.out.2.2.1)).trans HZ.out.2.2.1, (HBmt.out.cell (World.block_lt_of_cell? _ _ HZ.out.2.2.2)).trans HZ.out.2.2.2⟩
        clear hK K hHelda6
        try simp only [Act.put, List.getElem_toArray, List.getElem_cons_zero, List.getElem_cons_succ, List.setIfInBounds_toArray, List.set_cons_zero, List.set_cons_succ]
        refine wpAnyH_take (i := 7) (oi := _) (v := ?va8) rfl (by kernel_rfl) (by kernel_rfl) (by kernel_rfl) (fun _ _ _ h => h) (Or.inl ⟨by rfl, ?hya8⟩) (by assumption) ?resta8
        case hya8 => (intro w hSw; (try dsimp only at hSw); go_simp; all_goals with_reducible rfl)
        try simp only [Act.put, List.getElem_toArray, List.getElem_cons_zero, List.getElem_cons_succ, List.setIfInBounds_toArray, List.set_cons_zero, List.set_cons_succ]
        refine wpAnyH_ready (rs := [8]) (by kernel_rfl) (by simp) ?_
        refine AllReadyH.cons (o := _) rfl (fun K hK => ?_) AllReadyH.nil
        go_simp
        obtain ⟨umtb, hu⟩ : ∃ u, umt.alloc (.cells #[.int .i64 c.L, .int .i64 c.W, .int .i64 c.N, .int .i64 c.H, .int .i64 0, .int .i64 0, .int .i64 0, .slice (some ⟨gm, 0, none⟩) c.W.toNat c.W.toNat, .slice (some ⟨gt, 0, none⟩) c.L.toNat c.L.toNat, .slice none 0 0] 71) = u := ⟨_, rfl⟩
        rw [hu]
        have hbu : Below umt.heap.size umt umtb := by rw [← hu]; exact (Below.refl _ _).alloc (Nat.le_refl _) _
        have htop : umtb.heap[umt.heap.size]? = some (.cells #[.int .i64 c.L, .int .i64 c.W, .int .i64 c.N, .int .i64 c.H, .int .i64 0, .int .i64 0, .int .i64 0, .slice (some ⟨gm, 0, none⟩) c.W.toNat c.W.toNat, .slice (some ⟨gt, 0, none⟩) c.L.toNat c.L.toNat, .slice none 0 0] 71 (0, 0)) := by rw [← hu]; exact Go.heap_alloc_new _ _
        have HBmtb := Lib.hid (show Below w3.heap.size w3 umtb from HBmt.out.trans (hbu.mono HBmt.out.size))
        have HSI := Lib.hid (sys_init HO.out htop ((hbu.block _ (blk_lt ((HGmt.out.2.1.block _ (blk_lt HGm.out.1)).trans HGm.out.1))).trans ((HGmt.out.2.1.block _ (blk_lt HGm.out.1)).trans HGm.out.1)) ((hbu.block _ (blk_lt HGmt.out.1)).trans HGmt.out.1) HBmt.out.size HGm.out.2.2 HGmt.out.2.2)
        clear hu hbu htop
        refine hK.out _ _ ?_ (fun hHelda9 => ?_)
        · (try dsimp only); exact ⟨(HBmtb.out.cell (World.block_lt_of_cell? _ _ HZ.out.1)).trans HZ.out.1, (HBmtb.out.cell (World.block_lt_of_cell? _ _ HZ.out.2.1)).trans HZ.out.2.1, (HBmtb.out.cell (World.block_lt_of_cell? _ _ HZ.out.2.2.1)).trans HZ.out.2.2.1, (HBmtb.out.cell (World.block_lt_of_cell? _ _ HZ.out.2.2.2)).trans HZ.out.2.2.2⟩
        clear hK K hHelda7
        try simp only [Act.put, List.getElem_toArray, List.getElem_cons_zero, List.getElem_cons_succ, List.setIfInBounds_toArray, List.set_cons_zero, List.set_cons_succ]
        refine wpAnyH_take (i := 9) (oi := _) (v := ?va10) rfl (by kernel_rfl) (by kernel_rfl) (by kernel_rfl) (fun _ _ _ h => h) (Or.inl ⟨by rfl, ?hya10⟩) (by assumption) ?resta10
        case hya10 => (intro w hSw; (try dsimp only at hSw); go_simp; all_goals with_reducible rfl)
        try simp only [Act.put, List.getElem_toArray, List.getElem_cons_zero, List.getElem_cons_succ, List.setIfInBounds_toArray, List.set_cons_zero, List.set_cons_succ]
        refine wpAnyH_done (by kernel_rfl) ?_ _
        go_wp2_with fail
        go_meet
        exact ⟨_, _, _, rfl, HSI.out, HBmtb.out⟩
      refine AllReadyH.cons (o := _) rfl (fun K hK => ?_) AllReadyH.nil
      obtain ⟨gt, ut, hmk, hrow, hbu, hge⟩ := made_row Try.underlying69 info99 rfl (by decide) c.L.toNat hL1 c.L HWL.out.2 (w3.drew)
      go_simp
      clear hmk
      have HBt := Lib.hid (show Below w3.heap.size w3 ut from ((bb_drew (Below.refl _ _)) : Below w3.heap.size w3 (w3.drew)).trans (hbu.mono ((bb_drew (Below.refl _ _)) : Below w3.heap.size w3 (w3.drew)).size))
      have HGt := Lib.hid (And.intro hrow (And.intro hbu (Nat.le_trans ((bb_drew (Below.refl _ _)) : Below w3.heap.size w3 (w3.drew)).size hge)))
      clear hrow hbu hge
      refine hK.out _ _ ?_ (fun hHelda11 => ?_)
      · (try dsimp only); exact ⟨(HBt.out.cell (World.block_lt_of_cell? _ _ HZ.out.1)).trans HZ.out.1, (HBt.out.cell (World.block_lt_of_cell? _ _ HZ.out.2.1)).trans HZ.out.2.1, (HBt.out.cell (World.block_lt_of_cell? _ _ HZ.out.2.2.1)).trans HZ.out.2.2.1, (HBt.out.cell (World.block_lt_of_cell? _ _ HZ.out.2.2.2)).trans HZ.out.2.2.2⟩
      clear hK K hHelda
      try simp only [Act.put, List.getElem_toArray, List.getElem_cons_zero, List.getElem_cons_succ, List.setIfInBounds_toArray, List.set_cons_zero, List.set_cons_succ]
      refine wpAnyH_ready (rs := [3]) (by kernel_rfl) (by simp) ?_
      refine AllReadyH.cons (o := _) rfl (fun K hK => ?_) AllReadyH.nil
      obtain ⟨gm, utm, hmk, hrow, hbu, hge⟩ := made_row Try.underlying32 info3 rfl (by decide) c.W.toNat hW1 c.W HWL.out.1 (ut)
      go_simp
      clear hmk
      have HBtm := Lib.hid (show Below w3.heap.size w3 utm from (HBt.out : Below w3.heap.size w3 (ut)).trans (hbu.mono (HBt.out : Below w3.heap.size w3 (ut)).size))
      have HGtm := Lib.hid (And.intro hrow (And.intro hbu (Nat.le_trans (HBt.out : Below w3.heap.size w3 (ut)).size hge)))
      clear hrow hbu hge
      refine hK.out _ _ ?_ (fun hHelda12 => ?_)
      · (try dsimp only); exact ⟨(HBtm.out.cell (World.block_lt_of_cell? _ _ HZ.out.1)).trans HZ.out.1, (HBtm.out.cell (World.block_lt_of_cell? _ _ HZ.out.2.1)).trans HZ.out.2.1, (HBtm.out.cell (World.block_lt_of_cell? _ _ HZ.out.2.2.1)).trans HZ.out.2.2.1, (HBtm.out.cell (World.block_lt_of_cell? _ _ HZ.out.2.2.2)).trans HZ.out.2.2.2⟩
      clear hK K hHelda11
      try simp only [Act.put, List.getElem_toArray, List.getElem_cons_zero, List.getElem_cons_succ, List.setIfInBounds_toArray, List.set_cons_zero, List.set_cons_succ]
      refine wpAnyH_take (i := 7) (oi := _) (v := ?va13) rfl (by kernel_rfl) (by kernel_rfl) (by kernel_rfl) (fun _ _ _ h => h) (Or.inl ⟨by rfl, ?hya13⟩) (by assumption) ?resta13
      case hya13 => (intro w hSw; (try dsimp only at hSw); go_simp; all_goals with_reducible rfl)
      try simp only [Act.put, List.getElem_toArray, List.getElem_cons_zero, List.getElem_cons_succ, List.setIfInBounds_toArray, List.set_cons_zero, List.set_cons_succ]
      refine wpAnyH_ready (rs := [8]) (by kernel_rfl) (by simp) ?_
      refine AllReadyH.cons (o := _) rfl (fun K hK => ?_) AllReadyH.nil
      go_simp
      obtain ⟨utmb, hu⟩ : ∃ u, utm.alloc (.cells #[.int .i64 c.L, .int .i64 c.W, .int .i64 c.N, .int .i64 c.H, .int .i64 0, .int .i64 0, .int .i64 0, .slice (some ⟨gm, 0, none⟩) c.W.toNat c.W.toNat, .slice (some ⟨gt, 0, none⟩) c.L.toNat c.L.toNat, .slice none 0 0] 71) = u := ⟨_, rfl⟩
      rw [hu]
      have hbu : Below utm.heap.size utm utmb := by rw [← hu]; exact (Below.refl _ _).alloc (Nat.le_refl _) _
      have htop : utmb.heap[utm.heap.size]? = some (.cells #[.int .i64 c.L, .int .i64 c.W, .int .i64 c.N, .int .i64 c.H, .int .i64 0, .int .i64 0, .int .i64 0, .slice (some ⟨gm, 0, none⟩) c.W.toNat c.W.toNat, .slice (some ⟨gt, 0, none⟩) c.L.toNat c.L.toNat, .slice none 0 0] 71 (0, 0)) := by rw [← hu]; exact Go.heap_alloc_new _ _
      have HBtmb := Lib.hid (show Below w3.heap.size w3 utmb from HBtm.out.trans (hbu.mono HBtm.out.size))
      have HSI := Lib.hid (sys_init HO.out htop ((hbu.block _ (blk_lt HGtm.out.1)).trans HGtm.out.1) ((hbu.block _ (blk_lt ((HGtm.out.2.1.block _ (blk_lt HGt.out.1)).trans HGt.out.1))).trans ((HGtm.out.2.1.block _ (blk_lt HGt.out.1)).trans HGt.out.1)) HBtm.out.size HGtm.out.2.2 HGt.out.2.2)
      clear hu hbu htop
      refine hK.out _ _ ?_ (fun hHelda14 => ?_)
      · (try dsimp only); exact ⟨(HBtmb.out.cell (World.block_lt_of_cell? _ _ HZ.out.1)).trans HZ.out.1, (HBtmb.out.cell (World.block_lt_of_cell? _ _ HZ.out.2.1)).trans HZ.out.2.1, (HBtmb.out.cell (World.block_lt_of_cell? _ _ HZ.out.2.2.1)).trans HZ.out.2.2.1, (HBtmb.out.cell (World.block_lt_of_cell? _ _ HZ.out.2.2.2)).trans HZ.out.2.2.2⟩
      clear hK K hHelda12
      try simp only [Act.put, List.getElem_toArray, List.getElem_cons_zero, List.getElem_cons_succ, List.setIfInBounds_toArray, List.set_cons_zero, List.set_cons_succ]
      refine wpAnyH_take (i := 9) (oi := _) (v := ?va15) rfl (by kernel_rfl) (by kernel_rfl) (by kernel_rfl) (fun _ _ _ h => h) (Or.inl ⟨by rfl, ?hya15⟩) (by assumption) ?resta15
      case hya15 => (intro w hSw; (try dsimp only at hSw); go_simp; all_goals with_reducible rfl)
      try simp only [Act.put, List.getElem_toArray, List.getElem_cons_zero, List.getElem_cons_succ, List.setIfInBounds_toArray, List.set_cons_zero, List.set_cons_succ]
      refine wpAnyH_done (by kernel_rfl) ?_ _
      go_wp2_with fail
      go_meet
      exact ⟨_, _, _, rfl, HSI.out, HBtmb.out⟩
    case rest =>
      obtain ⟨bs, bm, bc, rfl, hs0, hb0⟩ := hcut
      have hops := fun w => ops_calls w
      have HO2 := Lib.hid hops
      have H4 := Lib.hid (And.intro hs0 hb0)
      clear hops hs0 hb0
      go_upto_region 6 with ((with_reducible refine (HO2.out _).mono ?_); rintro y w6 ⟨rfl, hb6⟩; have HB6 := Lib.hid hb6; clear hb6)
      obtain ⟨W7, hW7⟩ : ∃ W7, w6.alloc (.cells #[.nilFunc, .func (.func 45) #[] #[], .func (.func 46) #[] #[], .func (.func 47) #[] #[], .func (.func 31) #[] #[]] 73) = W7 := ⟨_, rfl⟩
      have hb7 : Below w6.heap.size w6 W7 := by rw [← hW7]; exact (Below.refl _ _).alloc (Nat.le_refl _) _
      have ht7 : W7.heap[w6.heap.size]? = some (.cells #[.nilFunc, .func (.func 45) #[] #[], .func (.func 46) #[] #[], .func (.func 47) #[] #[], .func (.func 31) #[] #[]] 73 (0, 0)) := by rw [← hW7]; exact Go.heap_alloc_new _ _
      obtain ⟨bt, hbt⟩ : ∃ b, w6.heap.size = b := ⟨_, rfl⟩
      rw [hW7]
      try rw [hbt]
      rw [hbt] at ht7
      have hb47 : Below wc.heap.size wc W7 := HB6.out.trans (hb7.mono HB6.out.size)
      have H7 := Lib.hid (show SysE c bs bm bc w3.heap.size (initA c) W7 ∧ Bel w3.heap.size w3 W7 ∧ W7.heap[bt]? = some (.cells #[.nilFunc, .func (.func 45) #[] #[], .func (.func 46) #[] #[], .func (.func 47) #[] #[], .func (.func 31) #[] #[]] 73 (0, 0)) from ⟨by obtain ⟨sv, vv, ps, hs⟩ := H4.out.1; exact ⟨sv, vv, ps, hs.rest hb47⟩, Bel.of (H4.out.2.trans (hb47.mono H4.out.2.size)) (Nat.le_refl _), ht7⟩)
      clear hW7 hb7 ht7 hbt hb47
      have hall : ∀ o ∈ l, opOk c o := by
        have := HK.out
        unfold chkF at this
        rw [if_neg (fun h => h HO.out)] at this
        by_cases h : 2000 < l.length
        · rw [if_pos h] at this; cases this
        · rw [if_neg h] at this
          apply Classical.byContradiction
          intro g
          rw [if_neg g] at this
          cases this
      have hl2 : l.length ≤ 2000 := by
        have := HK.out
        unfold chkF at this
        rw [if_neg (fun h => h HO.out)] at this
        apply Classical.byContradiction
        intro g
        rw [if_pos (by omega)] at this
        cases this
      have HL := Lib.hid hall
      clear hall
      go_wp2_with fail
      go_loopg [12, 33, 34, 35, 36, 37, 38, 39, 40, 41, 42, 43, 44] l.length (fun gk v12 v33 v34 v35 v36 v37 v38 v39 v40 v41 v42 v43 v44 wr => ∃ i : Nat, i + gk = l.length ∧ v33 = .int .i64 (i : Int) ∧ SysE c bs bm bc w3.heap.size ((l.take i).foldl (opA c) (initA c)) wr ∧ Ok c ((l.take i).foldl (opA c) (initA c)) ∧ cnt ((l.take i).foldl (opA c) (initA c)) ≤ 20 * i ∧ ((l.take i).foldl (opA c) (initA c)).vs.length ≤ i ∧ Bel w3.heap.size w3 wr ∧ wr.heap[bt]? = some (.cells #[.nilFunc, .func (.func 45) #[] #[], .func (.func 46) #[] #[], .func (.func 47) #[] #[], .func (.func 31) #[] #[]] 73 (0, 0)))
      case atStart => exact ⟨0, by omega, rfl, H7.out.1, init_ok HO.out, Nat.le_refl _, Nat.le_refl _, H7.out.2.1, H7.out.2.2⟩
      case round =>
        obtain ⟨i, hi, rfl, hs, hA, hcn, hvs, hb, ht⟩ := hrel
        by_cases hlt : i < l.length
        · have hd : decide (i < l.length) = true := decide_eq_true hlt
          obtain ⟨B, hB⟩ : ∃ B, (l.take i).foldl (opA c) (initA c) = B := ⟨_, rfl⟩
          have hB1 : (l.take (i + 1)).foldl (opA c) (initA c) = opA c B l[i] := by rw [take_snoc l i hlt, List.foldl_append, hB]; rfl
          rw [hB] at hs hA hcn hvs
          obtain ⟨a, rfl, hca⟩ := (H2.out.2.2.2.below (H3.out.1.trans (hb.low.mono H3.out.1.size))).cell i hlt
          have ho := HL.out _ (List.getElem_mem hlt)
          obtain ⟨o, hoe⟩ : ∃ o, l[i] = o := ⟨_, rfl⟩
          rw [hoe] at hca ho hB1
          obtain ⟨oa, kd, op, ov⟩ := o
          obtain ⟨q1, q2, q3, q4, q5, q6⟩ := id ho
          simp only at q1 q2 q3 q4 q5 q6
          obtain ⟨k, rfl⟩ : ∃ k : Nat, oa = (k : Int) := ⟨oa.toNat, by omega⟩
          have x0 := hca 0 _ rfl
          have x1 := hca 1 _ rfl
          have x2 := hca 2 _ rfl
          have x3 := hca 3 _ rfl
          rw [Nat.add_zero] at x0
          rw [add_field _ _ _ (by decide)] at x1 x2 x3
          obtain ⟨W8, hW8⟩ : ∃ W8, wr.alloc (.cells #[.int .i64 (k : Int), .int .i64 kd, .int .i64 op, .int .i64 ov] 38) = W8 := ⟨_, rfl⟩
          have hb8 : Below wr.heap.size wr W8 := by rw [← hW8]; exact (Below.refl _ _).alloc (Nat.le_refl _) _
          have hx8 : W8.heap[wr.heap.size]? = some (.cells #[.int .i64 (k : Int), .int .i64 kd, .int .i64 op, .int .i64 ov] 38 (0, 0)) := by rw [← hW8]; exact Go.heap_alloc_new _ _
          have hs8 : SysE c bs bm bc w3.heap.size B W8.drew := by obtain ⟨sv, vv, ps, hs⟩ := hs; exact ⟨sv, vv, ps, (hs.rest hb8).rest (bb_drew (Below.refl _ _))⟩
          obtain ⟨b8, hb8e⟩ : ∃ b, wr.heap.size = b := ⟨_, rfl⟩
          have hbl8 : Bel w3.heap.size w3 W8.drew := (hb.trans (Bel.of hb8 hb.size)).drew
          have ht8 := (hb8.block _ (blk_lt ht)).trans ht
          have hAn := opA_ok hA ho
          have HW8 := Lib.hid (And.intro hW8 hb8e)
          rw [hb8e] at hx8
          have H8 := Lib.hid (And.intro hs8 (And.intro hbl8 (And.intro (show W8.drew.heap[b8]? = some (.cells #[.int .i64 (k : Int), .int .i64 kd, .int .i64 op, .int .i64 ov] 38 (0, 0)) from hx8) (show W8.drew.heap[bt]? = some (.cells #[.nilFunc, .func (.func 45) #[] #[], .func (.func 46) #[] #[], .func (.func 47) #[] #[], .func (.func 31) #[] #[]] 73 (0, 0)) from ht8))))
          have HA := Lib.hid (And.intro hA (And.intro hcn (And.intro hvs (And.intro hAn hB1))))
          have hii : (i : Int) < (l.length : Int) := by omega
          clear hs hA hcn hvs hb ht hB hB1 hca ho hoe hW8 hb8 hx8 hs8 hbl8 ht8 hAn hb8e
          go_upto_region 9 with fail
          rw [HW8.out.1]
          try rw [HW8.out.2]
          clear x0 x1 x2 x3
          rcases show kd = 1 ∨ kd = 2 ∨ kd = 3 ∨ kd = 4 by omega with hkd | hkd | hkd | hkd
          · subst hkd
            obtain ⟨pp, rfl⟩ : ∃ p : Nat, op = (p : Int) := ⟨op.toNat, by omega⟩
            refine wp_region_held_drew (S := (fun w' => w'.cell? ⟨b8, 0, none⟩ = some (.int .i64 (k : Int)) ∧ w'.cell? ⟨b8, 1, none⟩ = some (.int .i64 1) ∧ w'.cell? ⟨b8, 2, none⟩ = some (.int .i64 (pp : Int)) ∧ w'.cell? ⟨b8, 3, none⟩ = some (.int .i64 ov) ∧ w'.cell? ⟨bt, 1, none⟩ = some (.func (.func 45) #[] #[]))) (by kernel_rfl) ?_ (fun hHeldka => ?_)
            · (try dsimp only); exact ⟨by rw [cell_of_row _ _ _ _ _ _ H8.out.2.2.1]; rfl, by rw [cell_of_row _ _ _ _ _ _ H8.out.2.2.1]; rfl, by rw [cell_of_row _ _ _ _ _ _ H8.out.2.2.1]; rfl, by rw [cell_of_row _ _ _ _ _ _ H8.out.2.2.1]; rfl, by rw [cell_of_row _ _ _ _ _ _ H8.out.2.2.2]; rfl⟩
            refine wpAnyH_take (i := 0) (oi := _) (v := ?vka1) rfl (by kernel_rfl) (by kernel_rfl) (by kernel_rfl) (fun _ _ _ h => h) (Or.inl ⟨by rfl, ?hyka1⟩) (by assumption) ?restka1
            case hyka1 => (intro w hSw; (try dsimp only at hSw); go_simp; all_goals with_reducible rfl)
            try simp only [Act.put, List.getElem_toArray, List.getElem_cons_zero, List.getElem_cons_succ, List.setIfInBounds_toArray, List.set_cons_zero, List.set_cons_succ]
            refine wpAnyH_take (i := 1) (oi := _) (v := ?vka2) rfl (by kernel_rfl) (by kernel_rfl) (by kernel_rfl) (fun _ _ _ h => h) (Or.inl ⟨by rfl, ?hyka2⟩) (by assumption) ?restka2
            case hyka2 => (intro w hSw; (try dsimp only at hSw); go_simp; all_goals with_reducible rfl)
            try simp only [Act.put, List.getElem_toArray, List.getElem_cons_zero, List.getElem_cons_succ, List.setIfInBounds_toArray, List.set_cons_zero, List.set_cons_succ]
            refine wpAnyH_take (i := 2) (oi := _) (v := ?vka3) rfl (by kernel_rfl) (by kernel_rfl) (by kernel_rfl) (fun _ _ _ h => h) (Or.inl ⟨by rfl, ?hyka3⟩) (by assumption) ?restka3
            case hyka3 => (intro w hSw; (try dsimp only at hSw); go_simp; all_goals with_reducible rfl)
            try simp only [Act.put, List.getElem_toArray, List.getElem_cons_zero, List.getElem_cons_succ, List.setIfInBounds_toArray, List.set_cons_zero, List.set_cons_succ]
            refine wpAnyH_take (i := 3) (oi := _) (v := ?vka4) rfl (by kernel_rfl) (by kernel_rfl) (by kernel_rfl) (fun _ _ _ h => h) (Or.inl ⟨by rfl, ?hyka4⟩) (by assumption) ?restka4
            case hyka4 => (intro w hSw; (try dsimp only at hSw); go_simp; all_goals with_reducible rfl)
            try simp only [Act.put, List.getElem_toArray, List.getElem_cons_zero, List.getElem_cons_succ, List.setIfInBounds_toArray, List.set_cons_zero, List.set_cons_succ]
            refine wpAnyH_take (i := 4) (oi := _) (v := ?vka5) rfl (by kernel_rfl) (by kernel_rfl) (by kernel_rfl) (fun _ _ _ h => h) (Or.inl ⟨by rfl, ?hyka5⟩) (by assumption) ?restka5
            case hyka5 => (intro w hSw; (try dsimp only at hSw); go_simp; all_goals with_reducible rfl)
            try simp only [Act.put, List.getElem_toArray, List.getElem_cons_zero, List.getElem_cons_succ, List.setIfInBounds_toArray, List.set_cons_zero, List.set_cons_succ]
            refine wpAnyH_take (i := 5) (oi := _) (v := ?vka6) rfl (by kernel_rfl) (by kernel_rfl) (by kernel_rfl) (fun _ _ _ h => h) (Or.inl ⟨by rfl, ?hyka6⟩) (by assumption) ?restka6
            case hyka6 => (intro w hSw; (try dsimp only at hSw); go_simp; all_goals with_reducible rfl)
            try simp only [Act.put, List.getElem_toArray, List.getElem_cons_zero, List.getElem_cons_succ, List.setIfInBounds_toArray, List.set_cons_zero, List.set_cons_succ]
            refine wpAnyH_ready (rs := [6]) (by kernel_rfl) (by simp) ?_
            refine AllReadyH.cons (o := _) rfl (fun K hK => ?_) AllReadyH.nil
            go_simp
            (with_reducible refine (get_calls H8.out.1 HA.out.1 (by have := HA.out.2.1; omega) (by have := HA.out.2.2.1; omega) k pp 1 ov (by omega) (by omega)).mono ?_)
            rintro y w9 ⟨rfl, hb9, hs9⟩
            have G9 := Lib.hid (And.intro hs9 (And.intro (H8.out.2.1.trans hb9) (And.intro (hb9.keep _ _ _ (by decide) (by decide) (by decide) (by decide) (by decide) H8.out.2.2.1) (hb9.keep _ _ _ (by decide) (by decide) (by decide) (by decide) (by decide) H8.out.2.2.2))))
            clear hb9 hs9
            go_wp2_with fail
            refine hK.out _ _ ?_ (fun hHeldka7 => ?_)
            · (try dsimp only); exact ⟨by rw [cell_of_row _ _ _ _ _ _ G9.out.2.2.1]; rfl, by rw [cell_of_row _ _ _ _ _ _ G9.out.2.2.1]; rfl, by rw [cell_of_row _ _ _ _ _ _ G9.out.2.2.1]; rfl, by rw [cell_of_row _ _ _ _ _ _ G9.out.2.2.1]; rfl, by rw [cell_of_row _ _ _ _ _ _ G9.out.2.2.2]; rfl⟩
            clear hK K hHeldka
            try simp only [Act.put, List.getElem_toArray, List.getElem_cons_zero, List.getElem_cons_succ, List.setIfInBounds_toArray, List.set_cons_zero, List.set_cons_succ]
            refine wpAnyH_done (by kernel_rfl) ?_ _
            go_wp2_with fail
            go_roundg (gk - 1)
            case measure => omega
            case rel =>
              have e9 : opA c B ⟨(k : Int), 1, (pp : Int), ov⟩ = getA c B k pp := by unfold opA; simp
              have h9 := HA.out.2.2.2.1
              rw [e9] at h9
              refine ⟨i + 1, by omega, by go_num, ?_, ?_, ?_, ?_, G9.out.2.1, G9.out.2.2.2⟩ <;> rw [HA.out.2.2.2.2, e9]
              · exact G9.out.1
              · exact h9.1
              · have := HA.out.2.1; have := h9.2.1; omega
              · have := HA.out.2.2.1; have := h9.2.2; omega
          · subst hkd
            obtain ⟨pp, rfl⟩ : ∃ p : Nat, op = (p : Int) := ⟨op.toNat, by omega⟩
            refine wp_region_held_drew (S := (fun w' => w'.cell? ⟨b8, 0, none⟩ = some (.int .i64 (k : Int)) ∧ w'.cell? ⟨b8, 1, none⟩ = some (.int .i64 2) ∧ w'.cell? ⟨b8, 2, none⟩ = some (.int .i64 (pp : Int)) ∧ w'.cell? ⟨b8, 3, none⟩ = some (.int .i64 ov) ∧ w'.cell? ⟨bt, 2, none⟩ = some (.func (.func 46) #[] #[]))) (by kernel_rfl) ?_ (fun hHeldkb => ?_)
            · (try dsimp only); exact ⟨by rw [cell_of_row _ _ _ _ _ _ H8.out.2.2.1]; rfl, by rw [cell_of_row _ _ _ _ _ _ H8.out.2.2.1]; rfl, by rw [cell_of_row _ _ _ _ _ _ H8.out.2.2.1]; rfl, by rw [cell_of_row _ _ _ _ _ _ H8.out.2.2.1]; rfl, by rw [cell_of_row _ _ _ _ _ _ H8.out.2.2.2]; rfl⟩
            refine wpAnyH_take (i := 0) (oi := _) (v := ?vkb1) rfl (by kernel_rfl) (by kernel_rfl) (by kernel_rfl) (fun _ _ _ h => h) (Or.inl ⟨by rfl, ?hykb1⟩) (by assumption) ?restkb1
            case hykb1 => (intro w hSw; (try dsimp only at hSw); go_simp; all_goals with_reducible rfl)
            try simp only [Act.put, List.getElem_toArray, List.getElem_cons_zero, List.getElem_cons_succ, List.setIfInBounds_toArray, List.set_cons_zero, List.set_cons_succ]
            refine wpAnyH_take (i := 1) (oi := _) (v := ?vkb2) rfl (by kernel_rfl) (by kernel_rfl) (by kernel_rfl) (fun _ _ _ h => h) (Or.inl ⟨by rfl, ?hykb2⟩) (by assumption) ?restkb2
            case hykb2 => (intro w hSw; (try dsimp only at hSw); go_simp; all_goals with_reducible rfl)
            try simp only [Act.put, List.getElem_toArray, List.getElem_cons_zero, List.getElem_cons_succ, List.setIfInBounds_toArray, List.set_cons_zero, List.set_cons_succ]
            refine wpAnyH_take (i := 2) (oi := _) (v := ?vkb3) rfl (by kernel_rfl) (by kernel_rfl) (by kernel_rfl) (fun _ _ _ h => h) (Or.inl ⟨by rfl, ?hykb3⟩) (by assumption) ?restkb3
            case hykb3 => (intro w hSw; (try dsimp only at hSw); go_simp; all_goals with_reducible rfl)
            try simp only [Act.put, List.getElem_toArray, List.getElem_cons_zero, List.getElem_cons_succ, List.setIfInBounds_toArray, List.set_cons_zero, List.set_cons_succ]
            refine wpAnyH_take (i := 3) (oi := _) (v := ?vkb4) rfl (by kernel_rfl) (by kernel_rfl) (by kernel_rfl) (fun _ _ _ h => h) (Or.inl ⟨by rfl, ?hykb4⟩) (by assumption) ?restkb4
            case hykb4 => (intro w hSw; (try dsimp only at hSw); go_simp; all_goals with_reducible rfl)
            try simp only [Act.put, List.getElem_toArray, List.getElem_cons_zero, List.getElem_cons_succ, List.setIfInBounds_toArray, List.set_cons_zero, List.set_cons_succ]
            refine wpAnyH_take (i := 4) (oi := _) (v := ?vkb5) rfl (by kernel_rfl) (by kernel_rfl) (by kernel_rfl) (fun _ _ _ h => h) (Or.inl ⟨by rfl, ?hykb5⟩) (by assumption) ?restkb5
            case hykb5 => (intro w hSw; (try dsimp only at hSw); go_simp; all_goals with_reducible rfl)
            try simp only [Act.put, List.getElem_toArray, List.getElem_cons_zero, List.getElem_cons_succ, List.setIfInBounds_toArray, List.set_cons_zero, List.set_cons_succ]
            refine wpAnyH_take (i := 5) (oi := _) (v := ?vkb6) rfl (by kernel_rfl) (by kernel_rfl) (by kernel_rfl) (fun _ _ _ h => h) (Or.inl ⟨by rfl, ?hykb6⟩) (by assumption) ?restkb6
            case hykb6 => (intro w hSw; (try dsimp only at hSw); go_simp; all_goals with_reducible rfl)
            try simp only [Act.put, List.getElem_toArray, List.getElem_cons_zero, List.getElem_cons_succ, List.setIfInBounds_toArray, List.set_cons_zero, List.set_cons_succ]
            refine wpAnyH_ready (rs := [6]) (by kernel_rfl) (by simp) ?_
            refine AllReadyH.cons (o := _) rfl (fun K hK => ?_) AllReadyH.nil
            go_simp
            (with_reducible refine (put_calls H8.out.1 HA.out.1 (by have := HA.out.2.1; omega) k pp 2 ov (by omega) (by omega)).mono ?_)
            rintro y w9 ⟨rfl, hb9, hs9⟩
            have G9 := Lib.hid (And.intro hs9 (And.intro (H8.out.2.1.trans hb9) (And.intro (hb9.keep _ _ _ (by decide) (by decide) (by decide) (by decide) (by decide) H8.out.2.2.1) (hb9.keep _ _ _ (by decide) (by decide) (by decide) (by decide) (by decide) H8.out.2.2.2))))
            clear hb9 hs9
            go_wp2_with fail
            refine hK.out _ _ ?_ (fun hHeldkb7 => ?_)
            · (try dsimp only); exact ⟨by rw [cell_of_row _ _ _ _ _ _ G9.out.2.2.1]; rfl, by rw [cell_of_row _ _ _ _ _ _ G9.out.2.2.1]; rfl, by rw [cell_of_row _ _ _ _ _ _ G9.out.2.2.1]; rfl, by rw [cell_of_row _ _ _ _ _ _ G9.out.2.2.1]; rfl, by rw [cell_of_row _ _ _ _ _ _ G9.out.2.2.2]; rfl⟩
            clear hK K hHeldkb
            try simp only [Act.put, List.getElem_toArray, List.getElem_cons_zero, List.getElem_cons_succ, List.setIfInBounds_toArray, List.set_cons_zero, List.set_cons_succ]
            refine wpAnyH_done (by kernel_rfl) ?_ _
            go_wp2_with fail
            go_roundg (gk - 1)
            case measure => omega
            case rel =>
              have e9 : opA c B ⟨(k : Int), 2, (pp : Int), ov⟩ = putA c B k pp ov := by unfold opA; simp
              have h9 := HA.out.2.2.2.1
              rw [e9] at h9
              refine ⟨i + 1, by omega, by go_num, ?_, ?_, ?_, ?_, G9.out.2.1, G9.out.2.2.2⟩ <;> rw [HA.out.2.2.2.2, e9]
              · exact G9.out.1
              · exact h9.1
              · have := HA.out.2.1; have := h9.2.1; omega
              · have := HA.out.2.2.1; have := h9.2.2; omega
          · subst hkd
            refine wp_region_held_drew (S := (fun w' => w'.cell? ⟨b8, 0, none⟩ = some (.int .i64 (k : Int)) ∧ w'.cell? ⟨b8, 1, none⟩ = some (.int .i64 3) ∧ w'.cell? ⟨b8, 2, none⟩ = some (.int .i64 op) ∧ w'.cell? ⟨b8, 3, none⟩ = some (.int .i64 ov) ∧ w'.cell? ⟨bt, 3, none⟩ = some (.func (.func 47) #[] #[]))) (by kernel_rfl) ?_ (fun hHeldkc => ?_)
            · (try dsimp only); exact ⟨by rw [cell_of_row _ _ _ _ _ _ H8.out.2.2.1]; rfl, by rw [cell_of_row _ _ _ _ _ _ H8.out.2.2.1]; rfl, by rw [cell_of_row _ _ _ _ _ _ H8.out.2.2.1]; rfl, by rw [cell_of_row _ _ _ _ _ _ H8.out.2.2.1]; rfl, by rw [cell_of_row _ _ _ _ _ _ H8.out.2.2.2]; rfl⟩
            refine wpAnyH_take (i := 0) (oi := _) (v := ?vkc1) rfl (by kernel_rfl) (by kernel_rfl) (by kernel_rfl) (fun _ _ _ h => h) (Or.inl ⟨by rfl, ?hykc1⟩) (by assumption) ?restkc1
            case hykc1 => (intro w hSw; (try dsimp only at hSw); go_simp; all_goals with_reducible rfl)
            try simp only [Act.put, List.getElem_toArray, List.getElem_cons_zero, List.getElem_cons_succ, List.setIfInBounds_toArray, List.set_cons_zero, List.set_cons_succ]
            refine wpAnyH_take (i := 1) (oi := _) (v := ?vkc2) rfl (by kernel_rfl) (by kernel_rfl) (by kernel_rfl) (fun _ _ _ h => h) (Or.inl ⟨by rfl, ?hykc2⟩) (by assumption) ?restkc2
            case hykc2 => (intro w hSw; (try dsimp only at hSw); go_simp; all_goals with_reducible rfl)
            try simp only [Act.put, List.getElem_toArray, List.getElem_cons_zero, List.getElem_cons_succ, List.setIfInBounds_toArray, List.set_cons_zero, List.set_cons_succ]
            refine wpAnyH_take (i := 2) (oi := _) (v := ?vkc3) rfl (by kernel_rfl) (by kernel_rfl) (by kernel_rfl) (fun _ _ _ h => h) (Or.inl ⟨by rfl, ?hykc3⟩) (by assumption) ?restkc3
            case hykc3 => (intro w hSw; (try dsimp only at hSw); go_simp; all_goals with_reducible rfl)
            try simp only [Act.put, List.getElem_toArray, List.getElem_cons_zero, List.getElem_cons_succ, List.setIfInBounds_toArray, List.set_cons_zero, List.set_cons_succ]
            refine wpAnyH_take (i := 3) (oi := _) (v := ?vkc4) rfl (by kernel_rfl) (by kernel_rfl) (by kernel_rfl) (fun _ _ _ h => h) (Or.inl ⟨by rfl, ?hykc4⟩) (by assumption) ?restkc4
            case hykc4 => (intro w hSw; (try dsimp only at hSw); go_simp; all_goals with_reducible rfl)
            try simp only [Act.put, List.getElem_toArray, List.getElem_cons_zero, List.getElem_cons_succ, List.setIfInBounds_toArray, List.set_cons_zero, List.set_cons_succ]
            refine wpAnyH_take (i := 4) (oi := _) (v := ?vkc5) rfl (by kernel_rfl) (by kernel_rfl) (by kernel_rfl) (fun _ _ _ h => h) (Or.inl ⟨by rfl, ?hykc5⟩) (by assumption) ?restkc5
            case hykc5 => (intro w hSw; (try dsimp only at hSw); go_simp; all_goals with_reducible rfl)
            try simp only [Act.put, List.getElem_toArray, List.getElem_cons_zero, List.getElem_cons_succ, List.setIfInBounds_toArray, List.set_cons_zero, List.set_cons_succ]
            refine wpAnyH_take (i := 5) (oi := _) (v := ?vkc6) rfl (by kernel_rfl) (by kernel_rfl) (by kernel_rfl) (fun _ _ _ h => h) (Or.inl ⟨by rfl, ?hykc6⟩) (by assumption) ?restkc6
            case hykc6 => (intro w hSw; (try dsimp only at hSw); go_simp; all_goals with_reducible rfl)
            try simp only [Act.put, List.getElem_toArray, List.getElem_cons_zero, List.getElem_cons_succ, List.setIfInBounds_toArray, List.set_cons_zero, List.set_cons_succ]
            refine wpAnyH_ready (rs := [6]) (by kernel_rfl) (by simp) ?_
            refine AllReadyH.cons (o := _) rfl (fun K hK => ?_) AllReadyH.nil
            go_simp
            (with_reducible refine (acquire_calls H8.out.1 HA.out.1 k 3 op ov (by omega)).mono ?_)
            rintro y w9 ⟨rfl, hb9, hs9⟩
            have G9 := Lib.hid (And.intro hs9 (And.intro (H8.out.2.1.trans hb9) (And.intro (hb9.keep _ _ _ (by decide) (by decide) (by decide) (by decide) (by decide) H8.out.2.2.1) (hb9.keep _ _ _ (by decide) (by decide) (by decide) (by decide) (by decide) H8.out.2.2.2))))
            clear hb9 hs9
            go_wp2_with fail
            refine hK.out _ _ ?_ (fun hHeldkc7 => ?_)
            · (try dsimp only); exact ⟨by rw [cell_of_row _ _ _ _ _ _ G9.out.2.2.1]; rfl, by rw [cell_of_row _ _ _ _ _ _ G9.out.2.2.1]; rfl, by rw [cell_of_row _ _ _ _ _ _ G9.out.2.2.1]; rfl, by rw [cell_of_row _ _ _ _ _ _ G9.out.2.2.1]; rfl, by rw [cell_of_row _ _ _ _ _ _ G9.out.2.2.2]; rfl⟩
            clear hK K hHeldkc
            try simp only [Act.put, List.getElem_toArray, List.getElem_cons_zero, List.getElem_cons_succ, List.setIfInBounds_toArray, List.set_cons_zero, List.set_cons_succ]
            refine wpAnyH_done (by kernel_rfl) ?_ _
            go_wp2_with fail
            go_roundg (gk - 1)
            case measure => omega
            case rel =>
              have e9 : opA c B ⟨(k : Int), 3, op, ov⟩ = acqA B k := by unfold opA; simp
              have h9 := HA.out.2.2.2.1
              rw [e9] at h9
              refine ⟨i + 1, by omega, by go_num, ?_, ?_, ?_, ?_, G9.out.2.1, G9.out.2.2.2⟩ <;> rw [HA.out.2.2.2.2, e9]
              · exact G9.out.1
              · exact h9.1
              · have := HA.out.2.1; have := h9.2.1; omega
              · have := HA.out.2.2.1; have := h9.2.2; omega
          · subst hkd
            refine wp_region_held_drew (S := (fun w' => w'.cell? ⟨b8, 0, none⟩ = some (.int .i64 (k : Int)) ∧ w'.cell? ⟨b8, 1, none⟩ = some (.int .i64 4) ∧ w'.cell? ⟨b8, 2, none⟩ = some (.int .i64 op) ∧ w'.cell? ⟨b8, 3, none⟩ = some (.int .i64 ov) ∧ w'.cell? ⟨bt, 4, none⟩ = some (.func (.func 31) #[] #[]))) (by kernel_rfl) ?_ (fun hHeldkd => ?_)
            · (try dsimp only); exact ⟨by rw [cell_of_row _ _ _ _ _ _ H8.out.2.2.1]; rfl, by rw [cell_of_row _ _ _ _ _ _ H8.out.2.2.1]; rfl, by rw [cell_of_row _ _ _ _ _ _ H8.out.2.2.1]; rfl, by rw [cell_of_row _ _ _ _ _ _ H8.out.2.2.1]; rfl, by rw [cell_of_row _ _ _ _ _ _ H8.out.2.2.2]; rfl⟩
            refine wpAnyH_take (i := 0) (oi := _) (v := ?vkd1) rfl (by kernel_rfl) (by kernel_rfl) (by kernel_rfl) (fun _ _ _ h => h) (Or.inl ⟨by rfl, ?hykd1⟩) (by assumption) ?restkd1
            case hykd1 => (intro w hSw; (try dsimp only at hSw); go_simp; all_goals with_reducible rfl)
            try simp only [Act.put, List.getElem_toArray, List.getElem_cons_zero, List.getElem_cons_succ, List.setIfInBounds_toArray, List.set_cons_zero, List.set_cons_succ]
            refine wpAnyH_take (i := 1) (oi := _) (v := ?vkd2) rfl (by kernel_rfl) (by kernel_rfl) (by kernel_rfl) (fun _ _ _ h => h) (Or.inl ⟨by rfl, ?hykd2⟩) (by assumption) ?restkd2
            case hykd2 => (intro w hSw; (try dsimp only at hSw); go_simp; all_goals with_reducible rfl)
            try simp only [Act.put, List.getElem_toArray, List.getElem_cons_zero, List.getElem_cons_succ, List.setIfInBounds_toArray, List.set_cons_zero, List.set_cons_succ]
            refine wpAnyH_take (i := 2) (oi := _) (v := ?vkd3) rfl (by kernel_rfl) (by kernel_rfl) (by kernel_rfl) (fun _ _ _ h => h) (Or.inl ⟨by rfl, ?hykd3⟩) (by assumption) ?restkd3
            case hykd3 => (intro w hSw; (try dsimp only at hSw); go_simp; all_goals with_reducible rfl)
            try simp only [Act.put, List.getElem_toArray, List.getElem_cons_zero, List.getElem_cons_succ, List.setIfInBounds_toArray, List.set_cons_zero, List.set_cons_succ]
            refine wpAnyH_take (i := 3) (oi := _) (v := ?vkd4) rfl (by kernel_rfl) (by kernel_rfl) (by kernel_rfl) (fun _ _ _ h => h) (Or.inl ⟨by rfl, ?hykd4⟩) (by assumption) ?restkd4
            case hykd4 => (intro w hSw; (try dsimp only at hSw); go_simp; all_goals with_reducible rfl)
            try simp only [Act.put, List.getElem_toArray, List.getElem_cons_zero, List.getElem_cons_succ, List.setIfInBounds_toArray, List.set_cons_zero, List.set_cons_succ]
            refine wpAnyH_take (i := 4) (oi := _) (v := ?vkd5) rfl (by kernel_rfl) (by kernel_rfl) (by kernel_rfl) (fun _ _ _ h => h) (Or.inl ⟨by rfl, ?hykd5⟩) (by assumption) ?restkd5
            case hykd5 => (intro w hSw; (try dsimp only at hSw); go_simp; all_goals with_reducible rfl)
            try simp only [Act.put, List.getElem_toArray, List.getElem_cons_zero, List.getElem_cons_succ, List.setIfInBounds_toArray, List.set_cons_zero, List.set_cons_succ]
            refine wpAnyH_take (i := 5) (oi := _) (v := ?vkd6) rfl (by kernel_rfl) (by kernel_rfl) (by kernel_rfl) (fun _ _ _ h => h) (Or.inl ⟨by rfl, ?hykd6⟩) (by assumption) ?restkd6
            case hykd6 => (intro w hSw; (try dsimp only at hSw); go_simp; all_goals with_reducible rfl)
            try simp only [Act.put, List.getElem_toArray, List.getElem_cons_zero, List.getElem_cons_succ, List.setIfInBounds_toArray, List.set_cons_zero, List.set_cons_succ]
            refine wpAnyH_ready (rs := [6]) (by kernel_rfl) (by simp) ?_
            refine AllReadyH.cons (o := _) rfl (fun K hK => ?_) AllReadyH.nil
            go_simp
            (with_reducible refine (release_calls H8.out.1 HA.out.1 (by have := HA.out.2.1; omega) k 4 op ov (by omega)).mono ?_)
            rintro y w9 ⟨rfl, hb9, hs9⟩
            have G9 := Lib.hid (And.intro hs9 (And.intro (H8.out.2.1.trans hb9) (And.intro (hb9.keep _ _ _ (by decide) (by decide) (by decide) (by decide) (by decide) H8.out.2.2.1) (hb9.keep _ _ _ (by decide) (by decide) (by decide) (by decide) (by decide) H8.out.2.2.2))))
            clear hb9 hs9
            go_wp2_with fail
            refine hK.out _ _ ?_ (fun hHeldkd7 => ?_)
            · (try dsimp only); exact ⟨by rw [cell_of_row _ _ _ _ _ _ G9.out.2.2.1]; rfl, by rw [cell_of_row _ _ _ _ _ _ G9.out.2.2.1]; rfl, by rw [cell_of_row _ _ _ _ _ _ G9.out.2.2.1]; rfl, by rw [cell_of_row _ _ _ _ _ _ G9.out.2.2.1]; rfl, by rw [cell_of_row _ _ _ _ _ _ G9.out.2.2.2]; rfl⟩
            clear hK K hHeldkd
            try simp only [Act.put, List.getElem_toArray, List.getElem_cons_zero, List.getElem_cons_succ, List.setIfInBounds_toArray, List.set_cons_zero, List.set_cons_succ]
            refine wpAnyH_done (by kernel_rfl) ?_ _
            go_wp2_with fail
            go_roundg (gk - 1)
            case measure => omega
            case rel =>
              have e9 : opA c B ⟨(k : Int), 4, op, ov⟩ = relA B k := by unfold opA; simp
              have h9 := HA.out.2.2.2.1
              rw [e9] at h9
              refine ⟨i + 1, by omega, by go_num, ?_, ?_, ?_, ?_, G9.out.2.1, G9.out.2.2.2⟩ <;> rw [HA.out.2.2.2.2, e9]
              · exact G9.out.1
              · exact h9.1
              · have := HA.out.2.1; have := h9.2.1; omega
              · have := HA.out.2.2.1; have := h9.2.2; omega
        · have hd : decide (i < l.length) = false := decide_eq_false hlt
          obtain rfl : i = l.length := by omega
          rw [List.take_length] at hs hA hcn hvs
          obtain ⟨B, hB⟩ : ∃ B, l.foldl (opA c) (initA c) = B := ⟨_, rfl⟩
          rw [hB] at hs hA hcn hvs
          have H9 := Lib.hid (And.intro hs (And.intro hA (And.intro hcn (And.intro hb (And.intro hvs hB)))))
          have z0 : wr.cell? ⟨bx, 0, none⟩ = some (.int .i64 c.L) := by rw [cell_of_row _ _ _ _ _ _ ((hb.low.block _ (blk_lt H3.out.2.1)).trans H3.out.2.1)]; rfl
          clear hs hA hcn hvs hb ht hB
          have hL2 : (c.L.toNat : Int) = c.L := HWL.out.2.symm
          go_wp2_with fail
          go_loopg [13, 47, 48, 49, 50, 51, 52, 53, 54] (c.L.toNat) (fun gk v13 v47 v48 v49 v50 v51 v52 v53 v54 wr => ∃ k : Nat, k + gk = c.L.toNat ∧ v47 = .int .i64 (k : Int) ∧ SysE c bs bm bc w3.heap.size ((List.range k).foldl relA B) wr ∧ Ok c ((List.range k).foldl relA B) ∧ cnt ((List.range k).foldl relA B) ≤ 20 * l.length + 20 * k ∧ Bel w3.heap.size w3 wr)
          case atStart => exact ⟨0, by omega, rfl, H9.out.1, H9.out.2.1, by show cnt B ≤ _; have := H9.out.2.2.1; omega, H9.out.2.2.2.1⟩
          case round =>
            obtain ⟨k, hk, rfl, hs, hA, hcn, hb⟩ := hrel
            by_cases hlt2 : k < c.L.toNat
            · have hd2 : decide (k < c.L.toNat) = true := decide_eq_true hlt2
              have hd3 : decide ((k : Int) < c.L) = true := decide_eq_true (by omega)
              have hrl := release_calls hs hA (by omega) k 0 0 0 (by omega)
              have HR := Lib.hid hrl
              have H10 := Lib.hid (And.intro hA (And.intro hcn hb))
              clear hs hA hcn hb hrl
              go_wp2_with ((with_reducible refine (HR.out).mono ?_); rintro y w9 ⟨rfl, hb9, hs9⟩; have G9 := Lib.hid (And.intro hs9 hb9); clear hb9 hs9)
              go_roundg (gk - 1)
              case measure => omega
              case rel =>
                refine ⟨k + 1, by omega, by go_num, ?_, ?_, ?_, H10.out.2.2.trans G9.out.2⟩ <;> rw [range_succ_foldl]
                · exact G9.out.1
                · exact H10.out.1.rel k
                · have := cnt_rel H10.out.1 k
                  have := H10.out.2.1
                  omega
            · have hd2 : decide (k < c.L.toNat) = false := decide_eq_false hlt2
              have hd3 : decide ((k : Int) < c.L) = false := decide_eq_false (by omega)
              obtain rfl : k = c.L.toNat := by omega
              obtain ⟨R, hR⟩ : ∃ R, (List.range c.L.toNat).foldl relA B = R := ⟨_, rfl⟩
              rw [hR] at hs hA hcn
              have hRe : runA c l = R := by unfold runA; rw [H9.out.2.2.2.2.2, hR]
              obtain ⟨sv, vv, ps, hs⟩ := hs
              obtain ⟨V, cV, rfl, hVle, _, _⟩ := hs.val.form lenI
              have hct : wr.heap[bx + 1]? = some (.cells #[.int .i64 0, .int .i64 0, .int .i64 0] 34 (0, 0)) := (hb.low.block _ (blk_lt H3.out.2.2)).trans H3.out.2.2
              have F := Lib.hid (And.intro (hs.rest (bb_drew (Below.refl _ _))) (And.intro (show wr.drew.heap[bx + 1]? = some (.cells #[.int .i64 0, .int .i64 0, .int .i64 0] 34 (0, 0)) from hct) (And.intro hb hRe)))
              have HAR := Lib.hid (And.intro hA hcn)
              clear hs hA hcn hb hR hRe hct
              go_upto_region 16 with fail
              refine wp_region_held_drew (S := (fun w' => (w'.cell? ⟨bs, 9, none⟩ = some (.slice V R.vs.length cV) ∧ w'.cell? ⟨bs, 7, none⟩ = some (.slice (some ⟨bm, 0, none⟩) R.m.length R.m.length)) ∧ w'.cell? ⟨bs, 4, none⟩ = some (.int .i64 (R.f : Int)) ∧ w'.cell? ⟨bs, 5, none⟩ = some (.int .i64 (R.wr : Int)) ∧ w'.cell? ⟨bs, 6, none⟩ = some (.int .i64 (R.h : Int)))) (by kernel_rfl) ?_ (fun hHeldw => ?_)
              · (try dsimp only); exact ⟨⟨F.out.1.ten.2.2.2.2.2.2.2.2.2.1, F.out.1.ten.2.2.2.2.2.2.2.1⟩, F.out.1.ten.2.2.2.2.1, F.out.1.ten.2.2.2.2.2.1, F.out.1.ten.2.2.2.2.2.2.1⟩
              refine wpAnyH_take (i := 0) (oi := _) (v := ?vw1) rfl (by kernel_rfl) (by kernel_rfl) (by kernel_rfl) (fun _ _ _ h => h) (Or.inl ⟨by rfl, ?hyw1⟩) (by assumption) ?restw1
              case hyw1 => (intro w hSw; (try dsimp only at hSw); go_simp; all_goals with_reducible rfl)
              try simp only [Act.put, List.getElem_toArray, List.getElem_cons_zero, List.getElem_cons_succ, List.setIfInBounds_toArray, List.set_cons_zero, List.set_cons_succ]
              refine wpAnyH_take (i := 1) (oi := _) (v := ?vw2) rfl (by kernel_rfl) (by kernel_rfl) (by kernel_rfl) (fun _ _ _ h => h) (Or.inl ⟨by rfl, ?hyw2⟩) (by assumption) ?restw2
              case hyw2 => (intro w hSw; (try dsimp only at hSw); go_simp; all_goals with_reducible rfl)
              try simp only [Act.put, List.getElem_toArray, List.getElem_cons_zero, List.getElem_cons_succ, List.setIfInBounds_toArray, List.set_cons_zero, List.set_cons_succ]
              refine wpAnyH_take (i := 2) (oi := _) (v := ?vw3) rfl (by kernel_rfl) (by kernel_rfl) (by kernel_rfl) (fun _ _ _ h => h) (Or.inl ⟨by rfl, ?hyw3⟩) (by assumption) ?restw3
              case hyw3 => (intro w hSw; (try dsimp only at hSw); go_simp; all_goals with_reducible rfl)
              try simp only [Act.put, List.getElem_toArray, List.getElem_cons_zero, List.getElem_cons_succ, List.setIfInBounds_toArray, List.set_cons_zero, List.set_cons_succ]
              refine wpAnyH_take (i := 3) (oi := _) (v := ?vw4) rfl (by kernel_rfl) (by kernel_rfl) (by kernel_rfl) (fun _ _ _ h => h) (Or.inl ⟨by rfl, ?hyw4⟩) (by assumption) ?restw4
              case hyw4 => (intro w hSw; (try dsimp only at hSw); go_simp; all_goals with_reducible rfl)
              try simp only [Act.put, List.getElem_toArray, List.getElem_cons_zero, List.getElem_cons_succ, List.setIfInBounds_toArray, List.set_cons_zero, List.set_cons_succ]
              refine wpAnyH_take (i := 4) (oi := _) (v := ?vw5) rfl (by kernel_rfl) (by kernel_rfl) (by kernel_rfl) (fun _ _ _ h => h) (Or.inl ⟨by rfl, ?hyw5⟩) (by assumption) ?restw5
              case hyw5 => (intro w hSw; (try dsimp only at hSw); go_simp; all_goals with_reducible rfl)
              try simp only [Act.put, List.getElem_toArray, List.getElem_cons_zero, List.getElem_cons_succ, List.setIfInBounds_toArray, List.set_cons_zero, List.set_cons_succ]
              refine wpAnyH_take (i := 5) (oi := _) (v := ?vw6) rfl (by kernel_rfl) (by kernel_rfl) (by kernel_rfl) (fun _ _ _ h => h) (Or.inl ⟨by rfl, ?hyw6⟩) (by assumption) ?restw6
              case hyw6 => (intro w hSw; (try dsimp only at hSw); go_simp; all_goals with_reducible rfl)
              try simp only [Act.put, List.getElem_toArray, List.getElem_cons_zero, List.getElem_cons_succ, List.setIfInBounds_toArray, List.set_cons_zero, List.set_cons_succ]
              refine wpAnyH_take (i := 6) (oi := _) (v := ?vw7) rfl (by kernel_rfl) (by kernel_rfl) (by kernel_rfl) (fun _ _ _ h => h) (Or.inl ⟨by rfl, ?hyw7⟩) (by assumption) ?restw7
              case hyw7 => (intro w hSw; (try dsimp only at hSw); go_simp; all_goals with_reducible rfl)
              try simp only [Act.put, List.getElem_toArray, List.getElem_cons_zero, List.getElem_cons_succ, List.setIfInBounds_toArray, List.set_cons_zero, List.set_cons_succ]
              refine wpAnyH_take (i := 7) (oi := _) (v := ?vw8) rfl (by kernel_rfl) (by kernel_rfl) (by kernel_rfl) (fun _ _ _ h => h) (Or.inl ⟨by rfl, ?hyw8⟩) (by assumption) ?restw8
              case hyw8 => (intro w hSw; (try dsimp only at hSw); go_simp; all_goals with_reducible rfl)
              try simp only [Act.put, List.getElem_toArray, List.getElem_cons_zero, List.getElem_cons_succ, List.setIfInBounds_toArray, List.set_cons_zero, List.set_cons_succ]
              refine wpAnyH_take (i := 8) (oi := _) (v := ?vw9) rfl (by kernel_rfl) (by kernel_rfl) (by kernel_rfl) (fun _ _ _ h => h) (Or.inl ⟨by rfl, ?hyw9⟩) (by assumption) ?restw9
              case hyw9 => (intro w hSw; (try dsimp only at hSw); go_simp; all_goals with_reducible rfl)
              try simp only [Act.put, List.getElem_toArray, List.getElem_cons_zero, List.getElem_cons_succ, List.setIfInBounds_toArray, List.set_cons_zero, List.set_cons_succ]
              refine wpAnyH_take (i := 9) (oi := _) (v := ?vw10) rfl (by kernel_rfl) (by kernel_rfl) (by kernel_rfl) (fun _ _ _ h => h) (Or.inl ⟨by rfl, ?hyw10⟩) (by assumption) ?restw10
              case hyw10 => (intro w hSw; (try dsimp only at hSw); go_simp; all_goals with_reducible rfl)
              try simp only [Act.put, List.getElem_toArray, List.getElem_cons_zero, List.getElem_cons_succ, List.setIfInBounds_toArray, List.set_cons_zero, List.set_cons_succ]
              refine wpAnyH_take (i := 10) (oi := _) (v := ?vw11) rfl (by kernel_rfl) (by kernel_rfl) (by kernel_rfl) (fun _ _ _ h => h) (Or.inl ⟨by rfl, ?hyw11⟩) (by assumption) ?restw11
              case hyw11 => (intro w hSw; (try dsimp only at hSw); go_simp; all_goals with_reducible rfl)
              try simp only [Act.put, List.getElem_toArray, List.getElem_cons_zero, List.getElem_cons_succ, List.setIfInBounds_toArray, List.set_cons_zero, List.set_cons_succ]
              refine wpAnyH_take (i := 11) (oi := _) (v := ?vw12) rfl (by kernel_rfl) (by kernel_rfl) (by kernel_rfl) (fun _ _ _ h => h) (Or.inl ⟨by rfl, ?hyw12⟩) (by assumption) ?restw12
              case hyw12 => (intro w hSw; (try dsimp only at hSw); go_simp; all_goals with_reducible rfl)
              try simp only [Act.put, List.getElem_toArray, List.getElem_cons_zero, List.getElem_cons_succ, List.setIfInBounds_toArray, List.set_cons_zero, List.set_cons_succ]
              refine wpAnyH_take (i := 12) (oi := _) (v := ?vw13) rfl (by kernel_rfl) (by kernel_rfl) (by kernel_rfl) (fun _ _ _ h => h) (Or.inl ⟨by rfl, ?hyw13⟩) (by assumption) ?restw13
              case hyw13 => (intro w hSw; (try dsimp only at hSw); go_simp; all_goals with_reducible rfl)
              try simp only [Act.put, List.getElem_toArray, List.getElem_cons_zero, List.getElem_cons_succ, List.setIfInBounds_toArray, List.set_cons_zero, List.set_cons_succ]
              refine wpAnyH_take (i := 13) (oi := _) (v := ?vw14) rfl (by kernel_rfl) (by kernel_rfl) (by kernel_rfl) (fun _ _ _ h => h) (Or.inl ⟨by rfl, ?hyw14⟩) (by assumption) ?restw14
              case hyw14 => (intro w hSw; (try dsimp only at hSw); go_simp; all_goals with_reducible rfl)
              try simp only [Act.put, List.getElem_toArray, List.getElem_cons_zero, List.getElem_cons_succ, List.setIfInBounds_toArray, List.set_cons_zero, List.set_cons_succ]
              refine wpAnyH_ready (rs := [14]) (by kernel_rfl) (by simp) ?_
              refine AllReadyH.cons (o := _) rfl (fun K hK => ?_) AllReadyH.nil
              have c0 : wr.cell? ⟨bx + 1, 0, none⟩ = some (.int .i64 0) := by rw [cell_of_row _ _ _ _ _ _ (show wr.heap[bx + 1]? = _ from F.out.2.1)]; rfl
              have c1 : wr.cell? ⟨bx + 1, 1, none⟩ = some (.int .i64 0) := by rw [cell_of_row _ _ _ _ _ _ (show wr.heap[bx + 1]? = _ from F.out.2.1)]; rfl
              have c2 : wr.cell? ⟨bx + 1, 2, none⟩ = some (.int .i64 0) := by rw [cell_of_row _ _ _ _ _ _ (show wr.heap[bx + 1]? = _ from F.out.2.1)]; rfl
              have g0 := frozen_of_row _ _ 0 _ _ (show wr.heap[bx + 1]? = _ from F.out.2.1)
              have g1 := frozen_of_row _ _ 1 _ _ (show wr.heap[bx + 1]? = _ from F.out.2.1)
              have g2 := frozen_of_row _ _ 2 _ _ (show wr.heap[bx + 1]? = _ from F.out.2.1)
              go_simp
              clear c0 c1 c2 g0 g1 g2
              have hg := grownBy_trans (grownBy_trans (grownBy_set wr.drew (bx + 1) 0 (.int .i64 (R.f : Int))) (grownBy_set _ (bx + 1) 1 (.int .i64 (R.wr : Int)))) (grownBy_set _ (bx + 1) 2 (.int .i64 (R.h : Int)))
              have hz := F.out.1.keptT hg F.out.2.1 (fun e => absurd e (by decide)) (fun e => absurd e (by decide)) (fun e => absurd e (by decide)) (fun e => absurd e (by decide)) (fun e => absurd e (by decide))
              have hs3 := set3 _ _ _ _ _ (.int .i64 (R.f : Int)) (.int .i64 (R.wr : Int)) (.int .i64 (R.h : Int)) F.out.2.1
              have hlw : Below w.heap.size w (((wr.drew.setCell ⟨bx + 1, 0, none⟩ (.int .i64 (R.f : Int))).setCell ⟨bx + 1, 1, none⟩ (.int .i64 (R.wr : Int))).setCell ⟨bx + 1, 2, none⟩ (.int .i64 (R.h : Int))) := ((((H3.out.1.trans (F.out.2.2.1.low.mono H3.out.1.size)).trans (bb_drew (Below.refl _ _))).setCell (show w.heap.size ≤ bx + 1 from by have := HW.out.2.2.1; omega) _).setCell (show w.heap.size ≤ bx + 1 from by have := HW.out.2.2.1; omega) _).setCell (show w.heap.size ≤ bx + 1 from by have := HW.out.2.2.1; omega) _
              have FZ := Lib.hid (And.intro hz (And.intro hs3 hlw))
              clear hg hz hs3 hlw
              refine hK.out _ _ ?_ (fun hHeldw15 => ?_)
              · (try dsimp only); exact ⟨⟨FZ.out.1.ten.2.2.2.2.2.2.2.2.2.1, FZ.out.1.ten.2.2.2.2.2.2.2.1⟩, FZ.out.1.ten.2.2.2.2.1, FZ.out.1.ten.2.2.2.2.2.1, FZ.out.1.ten.2.2.2.2.2.2.1⟩
              clear hK K hHeldw
              try simp only [Act.put, List.getElem_toArray, List.getElem_cons_zero, List.getElem_cons_succ, List.setIfInBounds_toArray, List.set_cons_zero, List.set_cons_succ]
              refine wpAnyH_take (i := 15) (oi := _) (v := ?vw16) rfl (by kernel_rfl) (by kernel_rfl) (by kernel_rfl) (fun _ _ _ h => h) (Or.inl ⟨by rfl, ?hyw16⟩) (by assumption) ?restw16
              case hyw16 => (intro w hSw; (try dsimp only at hSw); go_simp; all_goals with_reducible rfl)
              try simp only [Act.put, List.getElem_toArray, List.getElem_cons_zero, List.getElem_cons_succ, List.setIfInBounds_toArray, List.set_cons_zero, List.set_cons_succ]
              refine wpAnyH_done (by kernel_rfl) ?_ _
              go_wp2_with fail
              obtain ⟨V2, cV2, he, _, hrd, hrb⟩ := FZ.out.1.val.form lenI
              obtain ⟨rfl, _, rfl⟩ := Value.slice.inj he
              have hrm := FZ.out.1.memRd (by have := HAR.out.1.ml; have := HAR.out.1.cf.2.2.2.1; omega)
              have hs3 := FZ.out.2.1
              have hlw := FZ.out.2.2
              change bodyPost _ _ _ _ _ (((wr.drew.setCell ⟨bx + 1, 0, none⟩ (.int .i64 (R.f : Int))).setCell ⟨bx + 1, 1, none⟩ (.int .i64 (R.wr : Int))).setCell ⟨bx + 1, 2, none⟩ (.int .i64 (R.h : Int)))
              generalize (((wr.drew.setCell ⟨bx + 1, 0, none⟩ (.int .i64 (R.f : Int))).setCell ⟨bx + 1, 1, none⟩ (.int .i64 (R.wr : Int))).setCell ⟨bx + 1, 2, none⟩ (.int .i64 (R.h : Int))) = WF at hs3 hlw hrd hrm ⊢
              have c0 : WF.cell? ⟨bx + 1, 0, none⟩ = some (.int .i64 (R.f : Int)) := by rw [cell_of_row _ _ _ _ _ _ hs3]; rfl
              have c1 : WF.cell? ⟨bx + 1, 1, none⟩ = some (.int .i64 (R.wr : Int)) := by rw [cell_of_row _ _ _ _ _ _ hs3]; rfl
              have c2 : WF.cell? ⟨bx + 1, 2, none⟩ = some (.int .i64 (R.h : Int)) := by rw [cell_of_row _ _ _ _ _ _ hs3]; rfl
              refine bodyPost_ret (v := .tuple #[.slice V R.vs.length cV, .slice (some ⟨bm, 0, none⟩) R.m.length R.m.length, .agg #[.int .i64 (R.f : Int), .int .i64 (R.wr : Int), .int .i64 (R.h : Int)], .int .i64 0]) (by simp [results, Try.results12, go_sem, c0, c1, c2]; try rfl) rfl ?_
              unfold RunPostF
              rw [if_pos HK.out, F.out.2.2.2]
              exact ⟨V, cV, ⟨bm, 0, none⟩, rfl, hrd, hrm, hlw, fun a ha => Nat.le_trans H3.out.1.size (hrb a ha).1, Nat.le_trans H3.out.1.size F.out.1.bm_⟩
  · have HK := Lib.hid hk
    have hkc : (chkF c l != 0) = true := by simpa using hk
    obtain ⟨m, hm⟩ : ∃ m, chkF c l = m := ⟨_, rfl⟩
    rw [hm] at HC hkc
    have HM := Lib.hid hm
    clear hk hm
    go_enter Try.func12, Try.ntmps12
    go_upto_region 1 with fail
    rw [HW.out.1, HW.out.2.1]
    try rw [HW.out.2.2.1]
    go_upto_region 3 with ((with_reducible refine (HC.out).mono ?_); rintro e w3 ⟨rfl, hb3⟩; have H3 := Lib.hid (And.intro (H2.out.1.trans (hb3.mono H2.out.1.size)) ((hb3.block _ (blk_lt H2.out.2.2.1)).trans H2.out.2.2.1)); clear hb3)
    clear y0 y1 y2 y3
    have c0 : w3.cell? ⟨bx + 1, 0, none⟩ = some (.int .i64 0) := by rw [cell_of_row _ _ _ _ _ _ H3.out.2]; rfl
    have c1 : w3.cell? ⟨bx + 1, 1, none⟩ = some (.int .i64 0) := by rw [cell_of_row _ _ _ _ _ _ H3.out.2]; rfl
    have c2 : w3.cell? ⟨bx + 1, 2, none⟩ = some (.int .i64 0) := by rw [cell_of_row _ _ _ _ _ _ H3.out.2]; rfl
    have g0 := frozen_of_row _ _ 0 _ _ H3.out.2
    have g1 := frozen_of_row _ _ 1 _ _ H3.out.2
    have g2 := frozen_of_row _ _ 2 _ _ H3.out.2
    go_wp2_with fail
    have hs3 := set3 _ _ _ _ _ (.int .i64 0) (.int .i64 0) (.int .i64 0) H3.out.2
    have hlw : Below w.heap.size w (((w3.setCell ⟨bx + 1, 0, none⟩ (.int .i64 0)).setCell ⟨bx + 1, 1, none⟩ (.int .i64 0)).setCell ⟨bx + 1, 2, none⟩ (.int .i64 0)) := ((H3.out.1.setCell (show w.heap.size ≤ bx + 1 from by have := HW.out.2.2.1; omega) _).setCell (show w.heap.size ≤ bx + 1 from by have := HW.out.2.2.1; omega) _).setCell (show w.heap.size ≤ bx + 1 from by have := HW.out.2.2.1; omega) _
    clear c0 c1 c2
    generalize (((w3.setCell ⟨bx + 1, 0, none⟩ (.int .i64 0)).setCell ⟨bx + 1, 1, none⟩ (.int .i64 0)).setCell ⟨bx + 1, 2, none⟩ (.int .i64 0)) = WF at hs3 hlw ⊢
    have c0 : WF.cell? ⟨bx + 1, 0, none⟩ = some (.int .i64 0) := by rw [cell_of_row _ _ _ _ _ _ hs3]; rfl
    have c1 : WF.cell? ⟨bx + 1, 1, none⟩ = some (.int .i64 0) := by rw [cell_of_row _ _ _ _ _ _ hs3]; rfl
    have c2 : WF.cell? ⟨bx + 1, 2, none⟩ = some (.int .i64 0) := by rw [cell_of_row _ _ _ _ _ _ hs3]; rfl
    refine bodyPost_ret (v := .tuple #[.slice none 0 0, .slice none 0 0, .agg #[.int .i64 0, .int .i64 0, .int .i64 0], .int .i64 m]) (by simp [results, Try.results12, go_sem, c0, c1, c2]; try rfl) rfl ?_
    unfold RunPostF
    rw [if_neg HK.out, HM.out]
    exact ⟨rfl, hlw⟩
theorem run_calls (c : Cf) (l : List Op) (A : Option Addr) (cp : Nat) (w : World) (hA : Rd encP 4 w A l) :
    Calls Try.prog 12 #[c.val, .slice A l.length cp] w (RunPost c l w) :=
  (run_callsF c l A cp w hA).mono fun e w' h => h.weak
end Go.Proofs.Ytggidakiflnhhaa
