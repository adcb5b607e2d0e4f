import Derived.Test.YthebembnlmddoaaO
import Derived.Test.YthebembnlmddoaaE
namespace Go.Proofs.Ythebembnlmddoaa
open Go.RowKit Go.Shelf
attribute [local go_sem] Oper.semAt_some
set_option maxHeartbeats 8000000
set_option maxRecDepth 100000
set_option linter.unusedSimpArgs false
set_option linter.unusedVariables false

theorem enters_plain (f : Nat) (args : Array Value) (w : World) : (callFunc f args).run Try.prog w = .ok (.enter f args) w ∨ True := Or.inr trivial
/-- the iterator over races keeps its contract -/
theorem races_stops (bx cb base : Nat) (l : List Ev) (hok : ∀ e ∈ l, e.ok) (A : Option Addr) (c : Nat) (hcap : l.length ≤ c) (n : Nat) (hn : 3 ≤ n) (w : World)
    (hbx : w.cell? ⟨bx, 0, none⟩ = some (.pointer (some ⟨cb, 0, none⟩))) (hR : Rd encE 11 w A l) (hC : Ck w base A c l cb) :
    SeqStopsK Fence.wide n Try.prog 56 #[.pointer (some ⟨bx, 0, none⟩)] encR (Kr w.heap.size) (fun ys => ys = racesF l) (fun pre => pre <+: racesF l) (racesF l).length w := by
  intro ll J Jx W hW hJ hJx hY h0
  have hb0 : bx < w.heap.size := World.block_lt_of_cell? _ _ hbx
  exact races1_in n hn ll w.heap.size bx cb base l hok A c hcap J Jx W.heap.size hJ hY W hW.size ((hW.cell (p := ⟨bx, 0, none⟩) hb0).trans hbx) hb0
    (fun W' hb => ⟨hR.below (hW.trans hb), hC.rest (hW.trans hb)⟩) h0
theorem races_calls (cb : Nat) (w : World) : Calls Try.prog 41 #[.pointer (some ⟨cb, 0, none⟩)] w fun e w' => e = .returned (.func (.func 56) #[] #[.pointer (some ⟨w.heap.size, 0, none⟩)]) ∧ w' = w.alloc (.cells #[.pointer (some ⟨cb, 0, none⟩)] 90) := by
  have hmf : ∀ (fn : Fn) (first cap : Array Value) (w : World), (Instr.makeFunc fn first cap).run Try.prog w = .ok (.func fn first cap) w := fun _ _ _ _ => rfl
  go_enter Try.func41, Try.ntmps41
  go_wp2
  go_ret
  exact ⟨rfl, rfl⟩
/-- the cells of a race, a word and a code -/
def RC (W : World) (r : Nat) (i j : Int) (b : Bool) (k : Int) : Prop :=
  W.heap[r]? = some (.cells #[.int .i64 i, .int .i64 j] 29 (0, 0)) ∧ W.heap[r + 1]? = some (.cells #[.bool b] 4 (0, 0)) ∧ W.heap[r + 1 + 1]? = some (.cells #[.int .i64 k] 30 (0, 0))
theorem RC.below {W W' : World} {r : Nat} {i j : Int} {b : Bool} {k : Int} (h : RC W r i j b k) (hb : Below W.heap.size W W') : RC W' r i j b k :=
  ⟨(hb.block _ (Array.getElem?_eq_some_iff.1 h.1).1).trans h.1, (hb.block _ (Array.getElem?_eq_some_iff.1 h.2.1).1).trans h.2.1, (hb.block _ (Array.getElem?_eq_some_iff.1 h.2.2).1).trans h.2.2⟩
theorem blk_kept {W W' : World} {row : Option Nat} {b : Nat} {o : Obj} (h : W.heap[b]? = some o) (ho : o.isCells = true) (hg : W.grownBy W' row) (hrow : ∀ r, row = some r → ∃ o : Obj, W.heap[r]? = some o ∧ o.isCells = false) : W'.heap[b]? = some o :=
  (hg.block b (Array.getElem?_eq_some_iff.1 h).1 (fun e => by
    obtain ⟨o', h1, h2⟩ := hrow b e.symm
    rw [h] at h1; cases h1; rw [ho] at h2; cases h2)).trans h
theorem RC.kept {W W' : World} {row : Option Nat} {r : Nat} {i j : Int} {b : Bool} {k : Int} (h : RC W r i j b k) (hg : W.grownBy W' row) (hrow : ∀ r, row = some r → ∃ o : Obj, W.heap[r]? = some o ∧ o.isCells = false) : RC W' r i j b k :=
  ⟨blk_kept h.1 rfl hg hrow, blk_kept h.2.1 rfl hg hrow, blk_kept h.2.2 rfl hg hrow⟩
/-- the stores of the four cells -/
theorem RC.fill {W : World} {r n0 : Nat} {i0 j0 : Int} {b0 : Bool} {k0 : Int} (h : RC W r i0 j0 b0 k0) (hn : n0 ≤ r) (i j : Int) (b : Bool) (k : Int) {w : World} (hl : Below n0 w W) :
    RC ((((W.setCell ⟨r, 0, none⟩ (.int .i64 i)).setCell ⟨r, 1, none⟩ (.int .i64 j)).setCell ⟨r + 1, 0, none⟩ (.bool b)).setCell ⟨r + 1 + 1, 0, none⟩ (.int .i64 k)) r i j b k ∧
    Below n0 w ((((W.setCell ⟨r, 0, none⟩ (.int .i64 i)).setCell ⟨r, 1, none⟩ (.int .i64 j)).setCell ⟨r + 1, 0, none⟩ (.bool b)).setCell ⟨r + 1 + 1, 0, none⟩ (.int .i64 k)) ∧
    KeepsOthers W ((((W.setCell ⟨r, 0, none⟩ (.int .i64 i)).setCell ⟨r, 1, none⟩ (.int .i64 j)).setCell ⟨r + 1, 0, none⟩ (.bool b)).setCell ⟨r + 1 + 1, 0, none⟩ (.int .i64 k)) := by
  obtain ⟨h1, h2, h3⟩ := h
  have a1 := heap_setCell_same W r 0 _ _ (.int .i64 i) h1
  have a2 := heap_setCell_same _ r 1 _ _ (.int .i64 j) a1
  have b1 : ((W.setCell ⟨r, 0, none⟩ (.int .i64 i)).setCell ⟨r, 1, none⟩ (.int .i64 j)).heap[r + 1]? = some (.cells #[.bool b0] 4 (0, 0)) := by
    rw [heap_setCell_other _ _ _ _ (by simp), heap_setCell_other _ _ _ _ (by simp)]; exact h2
  have b2 := heap_setCell_same _ (r + 1) 0 _ _ (.bool b) b1
  have c1 : (((W.setCell ⟨r, 0, none⟩ (.int .i64 i)).setCell ⟨r, 1, none⟩ (.int .i64 j)).setCell ⟨r + 1, 0, none⟩ (.bool b)).heap[r + 1 + 1]? = some (.cells #[.int .i64 k0] 30 (0, 0)) := by
    rw [heap_setCell_other _ _ _ _ (by simp), heap_setCell_other _ _ _ _ (by simp; omega), heap_setCell_other _ _ _ _ (by simp; omega)]; exact h3
  have c2 := heap_setCell_same _ (r + 1 + 1) 0 _ _ (.int .i64 k) c1
  refine ⟨⟨?_, ?_, c2⟩, ?_, ?_⟩
  · rw [heap_setCell_other _ _ _ _ (by simp; omega), heap_setCell_other _ _ _ _ (by simp)]; exact a2
  · rw [heap_setCell_other _ _ _ _ (by simp)]; exact b2
  · exact (((hl.setCell hn _).setCell hn _).setCell (show n0 ≤ r + 1 by omega) _).setCell (show n0 ≤ r + 1 + 1 by omega) _
  · exact (((KeepsOthers.setCell _ _ _).trans (KeepsOthers.setCell _ _ _)).trans (KeepsOthers.setCell _ _ _)).trans (KeepsOthers.setCell _ _ _)
theorem first_results (tmps : Array Value) (X : World) (r : Nat) (i j : Int) (b : Bool) (k : Int) (h2 : tmps[2]?.getD undef = .pointer (some ⟨r, 0, none⟩)) (h3 : tmps[3]?.getD undef = .pointer (some ⟨r + 1, 0, none⟩)) (h4 : tmps[4]?.getD undef = .pointer (some ⟨r + 1 + 1, 0, none⟩)) (h : RC X r i j b k) :
    (results Try.f12 tmps).run Try.prog X = .ok (.tuple #[.agg #[.int .i64 i, .int .i64 j], .bool b, .int .i64 k]) X := by
  have z0 := cell_of_row _ r 0 _ _ _ h.1
  have z1 := cell_of_row _ r 1 _ _ _ h.1
  have z2 := cell_of_row _ (r + 1) 0 _ _ _ h.2.1
  have z3 := cell_of_row _ (r + 1 + 1) 0 _ _ _ h.2.2
  simp at z0 z1 z2 z3
  simp [results, Try.results12, go_sem, h2, h3, h4, z0, z1, z2, z3]
def firstF (l : List Ev) : Int × Int × Bool × Int := if chkF l = 0 then (match (racesF l).head? with | some x => ((x.1 : Int), (x.2 : Int), true, 0) | none => (0, 0, false, 0)) else (0, 0, false, chkF l)
def FPost (l : List Ev) (w : World) (e : Ending) (w' : World) : Prop := e = .returned (.tuple #[.agg #[.int .i64 (firstF l).1, .int .i64 (firstF l).2.1], .bool (firstF l).2.2.1, .int .i64 (firstF l).2.2.2]) ∧ Below w.heap.size w w'
theorem rtB_fm (l : List Ev) (h : rtB l = true) : ∀ e ∈ l, fmB e = true := by
  intro e he
  obtain ⟨i, hi, rfl⟩ := List.mem_iff_getElem.1 he
  unfold rtB at h
  rw [List.all_eq_true] at h
  have := h i (by simpa using hi)
  rw [okAt_eq l i hi] at this
  unfold okE at this
  simp only [Bool.and_eq_true] at this
  exact this.1.1.1
theorem chk_zero (l : List Ev) (h : chkF l = 0) : l.length ≤ 2000 ∧ rtB l = true := by
  unfold chkF at h
  split at h
  · cases h
  · split at h
    · exact ⟨by omega, by assumption⟩
    · cases h
theorem first_calls (l : List Ev) (hok : ∀ e ∈ l, e.ok) (A : Option Addr) (c : Nat) (hcap : l.length ≤ c) (w : World) (hA : Rd encE 11 w A l) :
    Calls Try.prog 12 #[.slice A l.length c] w (FPost l w) := by
  obtain ⟨W, hW⟩ : ∃ W, ((w.alloc (.cells #[.int .i64 0, .int .i64 0] 29)).alloc (.cells #[.bool false] 4)).alloc (.cells #[.int .i64 0] 30) = W := ⟨_, rfl⟩
  have hb : Below w.heap.size w W := by rw [← hW]; exact (((Below.refl _ w).alloc (Nat.le_refl _) _).alloc (by simp) _).alloc (by simp; omega) _
  have hsz : W.heap.size = w.heap.size + 3 := by rw [← hW]; simp
  have hrc : RC W w.heap.size 0 0 false 0 := by
    rw [← hW]
    refine ⟨?_, ?_, ?_⟩
    · rw [Below.heap_alloc _ _ _ (by simp; omega), Below.heap_alloc _ _ _ (by simp)]; exact Go.heap_alloc_new w _
    · rw [Below.heap_alloc _ _ _ (by simp)]
      have := Go.heap_alloc_new (w.alloc (.cells #[.int .i64 0, .int .i64 0] 29)) (.cells #[.bool false] 4)
      simpa using this
    · have := Go.heap_alloc_new ((w.alloc (.cells #[.int .i64 0, .int .i64 0] 29)).alloc (.cells #[.bool false] 4)) (.cells #[.int .i64 0] 30)
      simpa using this
  have hck := check_calls l hok A c W (hA.below hb)
  have HC := Lib.hid hck
  have HW := Lib.hid (And.intro hW (And.intro hb (And.intro hsz hrc)))
  have HR := Lib.hid (And.intro hA hok)
  have hsm := hA.small
  clear hck hW hb hsz hrc hA hok
  refine (callsIn_wide (n := 5)).1 ?_
  refine callsIn_of_wp_marks Try.func12 rfl trivial ?_ rfl
  refine wpIn_wide.2 ?_
  simp only [Try.ntmps12, List.size_toArray, List.length_cons, List.length_nil, Nat.reduceAdd, Nat.reduceSub, Array.replicate_succ, Array.replicate_zero, List.push_toArray, List.append_toArray, List.nil_append, List.cons_append]
  by_cases hk : chkF l = 0
  · have hkc : (chkF l != 0) = false := by rw [bne_eq_false_iff_eq]; exact hk
    have hz := chk_zero l hk
    have hf1 : firstF l = (match (racesF l).head? with | some x => ((x.1 : Int), (x.2 : Int), true, 0) | none => (0, 0, false, 0)) := by unfold firstF; rw [if_pos hk]
    have HK := Lib.hid (And.intro hk (And.intro hz hf1))
    clear hk hz hf1
    go_wp2_with fail
    rw [HW.out.1]
    (with_reducible refine (HC.out).mono ?_); rintro e w1 ⟨rfl, hb1⟩
    have hlo1 := HW.out.2.1.trans (hb1.mono HW.out.2.1.size)
    have hrc1 := HW.out.2.2.2.below hb1
    have hnc := newClocks_calls l HR.out.2 (rtB_fm l HK.out.2.1.2) HK.out.2.1.1 A c w1 (HR.out.1.below hlo1)
    have HN := Lib.hid hnc
    have H1 := Lib.hid (And.intro hlo1 hrc1)
    clear hb1 hlo1 hrc1 hnc
    go_wp2_with fail
    (with_reducible refine (HN.out).mono ?_); rintro e w2 ⟨cb, rfl, hCk, hb2⟩
    have H2 := Lib.hid (And.intro hCk (And.intro (H1.out.1.trans (hb2.mono H1.out.1.size)) (H1.out.2.below hb2)))
    clear hCk hb2
    go_wp2_with fail
    refine (races_calls cb w2).mono ?_; rintro e w3 ⟨rfl, hw3⟩
    have hb3 : Below w2.heap.size w2 w3 := by rw [hw3]; exact (Below.refl _ _).alloc (Nat.le_refl _) _
    have hbx : w3.cell? ⟨w2.heap.size, 0, none⟩ = some (.pointer (some ⟨cb, 0, none⟩)) := by rw [hw3, cell_of_row _ _ _ _ _ _ (Go.heap_alloc_new w2 _)]; rfl
    have H3 := Lib.hid (And.intro (H2.out.1.rest hb3) (And.intro (H2.out.2.1.trans (hb3.mono H2.out.2.1.size)) (And.intro (H2.out.2.2.below hb3) hbx)))
    clear hw3 hb3 hbx
    go_wp2_with fail
    have hle3 : w.heap.size ≤ w3.heap.size := H3.out.2.1.size
    refine (wpIn_wide (n := 5)).1 ?_
    refine wpIn_rangeFunc_ownH (F := Fence.wide) (n := 5) rfl (by omega) (gf := 56) (lb := #[.pointer (some ⟨w2.heap.size, 0, none⟩)]) rfl trivial (enters_of Try.func56 (by kernel_rfl) rfl) (encs := encR) (Kp := Kr w3.heap.size) (w0 := w3)
      (races_stops w2.heap.size cb w1.heap.size l HR.out.2 A c hcap 4 (by omega) w3 H3.out.2.2.2 (HR.out.1.below H3.out.2.1) H3.out.1)
      (fun h k => h.trans k) (fun W l o o' hl h ho hw => Kr.book (Nat.le_refl _) W l o o' hl h ho hw) (Below.refl _ _) (fun _ => rfl)
      (fun pre W => pre = [] ∧ RC W w.heap.size 0 0 false 0 ∧ Below w.heap.size w W ∧ w3.heap.size ≤ W.heap.size)
      (fun c pre W => c = .ret ∧ ∃ x : Nat × Nat, pre = [x] ∧ RC W w.heap.size x.1 x.2 true 0 ∧ Below w.heap.size w W)
      (fun s A B row hs hg hr => ⟨hs.1, hs.2.1.kept hg (fun r e => (hr r e).2), hs.2.2.1.grown hg hs.2.2.1.size (fun k e => Nat.le_trans hle3 (hr k e).1), Nat.le_trans hs.2.2.2 hg.size⟩)
      (fun c s A B row hs hg hr => by
        obtain ⟨h1, x, h2, h3, h4⟩ := hs
        exact ⟨h1, x, h2, h3.kept hg (fun r e => (hr r e).2), h4.grown hg h4.size (fun k e => Nat.le_trans hle3 (hr k e).1)⟩)
      ⟨rfl, H3.out.2.2.1, H3.out.2.1, Nat.le_refl _⟩
      (fun x a' W => ∃ Bx, W.heap[Bx]? = some (.cells #[.int .i64 (x.1 : Int), .int .i64 (x.2 : Int)] 29 (0, 0)) ∧ a' = { tmps := #[.slice A l.length c, undef, .pointer (some ⟨w.heap.size, 0, none⟩), .pointer (some ⟨w.heap.size + 1, 0, none⟩), .pointer (some ⟨w.heap.size + 1 + 1, 0, none⟩), .int .i64 (chkF l), .pointer (some ⟨Bx, 0, none⟩), .slice A l.length c, .int .i64 (chkF l), .int .i64 (chkF l), .bool false, undef, undef, .slice A l.length c, .pointer (some ⟨cb, 0, none⟩), .func (.func 56) #[] #[.pointer (some ⟨w2.heap.size, 0, none⟩)], .agg #[.int .i64 (x.1 : Int), .int .i64 (x.2 : Int)], undef, undef], defers := [] })
      (fun x a' s A B row hs hg hr => by
        obtain ⟨Bx, h1, h2⟩ := hs
        exact ⟨Bx, blk_kept h1 rfl hg (fun r e => (hr r e).2), h2⟩) ?assign ?body ?done ?stop
    case assign =>
      intro ll pre x U K hI hK
      obtain ⟨hp, hrc, hlow, hsz⟩ := hI
      have HI := Lib.hid (And.intro hp (And.intro hrc (And.intro hlow hsz)))
      clear hp hrc hlow hsz
      gi_wp2
      have hal : Below U.heap.size U (U.alloc (.cells #[.int .i64 (x.1 : Int), .int .i64 (x.2 : Int)] 29)) := (Below.refl _ _).alloc (Nat.le_refl _) _
      refine hK _ _ ((KeepsOthers.alloc _ _).from _) ⟨?_, ?_⟩ ⟨HI.out.1, HI.out.2.1.below hal, HI.out.2.2.1.trans (hal.mono HI.out.2.2.1.size), Nat.le_trans HI.out.2.2.2 hal.size⟩ ⟨U.heap.size, Go.heap_alloc_new U _, rfl⟩
      · exact hal.mono HI.out.2.2.2
      · intro i cs fr hi
        exact (hal.block i (Array.getElem?_eq_some_iff.1 hi).1).trans hi
    case body =>
      rintro ll pre x a' U hl hr ⟨rfl, hrc, hlow, _⟩ ⟨Bx, hBx, rfl⟩ hlt
      have z0 := cell_of_row _ w.heap.size 0 _ _ _ hrc.1
      have z1 := cell_of_row _ w.heap.size 1 _ _ _ hrc.1
      have z2 := cell_of_row _ (w.heap.size + 1) 0 _ _ _ hrc.2.1
      have z3 := cell_of_row _ (w.heap.size + 1 + 1) 0 _ _ _ hrc.2.2
      have f0 := frozen_of_row _ w.heap.size 0 _ _ hrc.1
      have f1 := frozen_of_row _ w.heap.size 1 _ _ hrc.1
      have f2 := frozen_of_row _ (w.heap.size + 1) 0 _ _ hrc.2.1
      have f3 := frozen_of_row _ (w.heap.size + 1 + 1) 0 _ _ hrc.2.2
      have y0 := cell_of_row _ Bx 0 _ _ _ hBx
      have y1 := cell_of_row _ Bx 1 _ _ _ hBx
      simp at z0 z1 z2 z3 y0 y1
      have hfl := hrc.fill (Nat.le_refl _) x.1 x.2 true 0 hlow
      have HF := Lib.hid hfl
      clear hrc hlow hfl hBx hl hr hlt
      gi_wp2
      exact ⟨HF.out.2.2.from _, rfl, x, rfl, HF.out.1, HF.out.2.1⟩
    case done =>
      rintro D xs U hD rfl ⟨hnil, hrc, hlow, _⟩ hdD
      have z0 := cell_of_row _ w.heap.size 0 _ _ _ hrc.1
      have z1 := cell_of_row _ w.heap.size 1 _ _ _ hrc.1
      have z2 := cell_of_row _ (w.heap.size + 1) 0 _ _ _ hrc.2.1
      have z3 := cell_of_row _ (w.heap.size + 1 + 1) 0 _ _ _ hrc.2.2
      have f0 := frozen_of_row _ w.heap.size 0 _ _ hrc.1
      have f1 := frozen_of_row _ w.heap.size 1 _ _ hrc.1
      have f2 := frozen_of_row _ (w.heap.size + 1) 0 _ _ hrc.2.1
      have f3 := frozen_of_row _ (w.heap.size + 1 + 1) 0 _ _ hrc.2.2
      simp at z0 z1 z2 z3
      have hfl := hrc.fill (Nat.le_refl _) 0 0 false 0 hlow
      have hf0 : firstF l = (0, 0, false, 0) := by rw [HK.out.2.2, hnil]; rfl
      have hwD : w.heap.size ≤ D := Nat.le_trans hle3 hD
      have HF := Lib.hid (And.intro hfl (And.intro hdD (And.intro hf0 hwD)))
      obtain ⟨Z, hZ⟩ : ∃ Z, (((((U.setCell ⟨w.heap.size, 0, none⟩ (.int .i64 0)).setCell ⟨w.heap.size, 1, none⟩ (.int .i64 0)).setCell ⟨w.heap.size + 1, 0, none⟩ (.bool false)).setCell ⟨w.heap.size + 1 + 1, 0, none⟩ (.int .i64 0))) = Z := ⟨_, rfl⟩
      have HZ := Lib.hid hZ
      clear hrc hlow hfl hf0 hnil hdD hZ
      go_wp2_with fail
      have hdz := HF.out.1.2.2.same D _ HF.out.2.1 rfl
      refine ⟨by simp, .inl ⟨_, _, rfl, run_takeDeferred hdz, ?_⟩⟩
      have hrz : RC _ w.heap.size 0 0 false 0 := HF.out.1.1.kept (grownBy_putObj' _ D (.deferred none)) (fun r e => by cases e; exact ⟨_, hdz, rfl⟩)
      refine ⟨_, first_results _ _ w.heap.size 0 0 false 0 rfl rfl rfl hrz, ?_, HF.out.1.2.1.trans (belowK_b (w := w) (Nat.le_refl _) _ D _ _ HF.out.2.2.2 hdz rfl rfl)⟩
      rw [HF.out.2.2.1]
    case stop =>
      rintro D c pre U hD hpre ⟨rfl, x, rfl, hrc, hlow⟩ hdD
      have hf0 : firstF l = ((x.1 : Int), (x.2 : Int), true, (0 : Int)) := by
        rw [HK.out.2.2]
        obtain ⟨t, ht⟩ := hpre
        rw [← ht]
        rfl
      have hwD : w.heap.size ≤ D := Nat.le_trans hle3 hD
      have HF := Lib.hid (And.intro hrc (And.intro hdD (And.intro hf0 (And.intro hwD hlow))))
      clear hrc hlow hf0 hdD hpre
      gi_wp2
      refine ⟨by simp, .inl ⟨_, _, rfl, run_takeDeferred HF.out.2.1, ?_⟩⟩
      have hrz : RC _ w.heap.size x.1 x.2 true 0 := HF.out.1.kept (grownBy_putObj' _ D (.deferred none)) (fun r e => by cases e; exact ⟨_, HF.out.2.1, rfl⟩)
      refine ⟨_, first_results _ _ w.heap.size x.1 x.2 true 0 rfl rfl rfl hrz, ?_, HF.out.2.2.2.2.trans (belowK_b (w := w) (Nat.le_refl _) _ D _ _ HF.out.2.2.2.1 HF.out.2.1 rfl rfl)⟩
      rw [HF.out.2.2.1]
  · have hkc : (chkF l != 0) = true := by rw [bne_iff_ne]; exact hk
    have hf1 : firstF l = (0, 0, false, chkF l) := by unfold firstF; rw [if_neg hk]
    have HK := Lib.hid hf1
    clear hk hf1
    go_wp2_with fail
    rw [HW.out.1]
    (with_reducible refine (HC.out).mono ?_); rintro e w1 ⟨rfl, hb1⟩
    have hlo1 := HW.out.2.1.trans (hb1.mono HW.out.2.1.size)
    have hrc := HW.out.2.2.2.below hb1
    have z0 := cell_of_row _ w.heap.size 0 _ _ _ hrc.1
    have z1 := cell_of_row _ w.heap.size 1 _ _ _ hrc.1
    have z2 := cell_of_row _ (w.heap.size + 1) 0 _ _ _ hrc.2.1
    have z3 := cell_of_row _ (w.heap.size + 1 + 1) 0 _ _ _ hrc.2.2
    have f0 := frozen_of_row _ w.heap.size 0 _ _ hrc.1
    have f1 := frozen_of_row _ w.heap.size 1 _ _ hrc.1
    have f2 := frozen_of_row _ (w.heap.size + 1) 0 _ _ hrc.2.1
    have f3 := frozen_of_row _ (w.heap.size + 1 + 1) 0 _ _ hrc.2.2
    simp at z0 z1 z2 z3
    have hfl := hrc.fill (Nat.le_refl _) 0 0 false (chkF l) hlo1
    have HF := Lib.hid hfl
    clear hb1 hlo1 hrc hfl
    go_wp2_with fail
    refine ⟨_, first_results _ _ w.heap.size 0 0 false (chkF l) rfl rfl rfl HF.out.1, ?_, HF.out.2.1⟩
    rw [HK.out]
end Go.Proofs.Ythebembnlmddoaa
