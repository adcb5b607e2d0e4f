import Derived.Test.YtggidakiflnhhaaG
namespace Go.Proofs.Ytggidakiflnhhaa
open Go.RowKit
set_option maxHeartbeats 8000000
set_option maxRecDepth 100000
set_option linter.unusedSimpArgs false
set_option linter.unusedVariables false

theorem info4 : (Try.prog.info? 4).map (fun i => (i.zero, i.size, i.bytes)) = some (some (.bool false), 1, 1) := by kernel_rfl
theorem eq105 (d : Nat) (a0 a1 a2 a3 b0 b1 b2 b3 : Bool) (w : World) : (Op.equalIn (d + 2) 105 (.agg #[.bool a0, .bool a1, .bool a2, .bool a3]) (.agg #[.bool b0, .bool b1, .bool b2, .bool b3])).run Try.prog w = .ok (a0 == b0 && (a1 == b1 && (a2 == b2 && a3 == b3))) w := by
  have hu : Try.prog.underlying 105 = some (.array 4 4) := Try.underlying105
  have hag : (isAgg 4).run Try.prog w = .ok false w := by
    unfold isAgg
    rw [Sem.run_bind, run_underlying Try.underlying4 w]
    rfl
  obtain ⟨i0, hi, hz0, hz1, hz2⟩ := info_parts info4
  have hr : List.range' 0 4 = [0, 1, 2, 3] := rfl
  have hs : Std.Legacy.Range.size [:4] = 4 := rfl
  simp only [Op.equalIn, Sem.run_bind, run_underlying hu, Result.andThen_ok, sizeOf, typeInfo, run_program, hi]
  simp [Std.Legacy.Range.forIn_eq_forIn_range', hs, hr, part, hag, hz1, Op.equalIn, run_underlying Try.underlying4]
  cases a0 <;> cases a1 <;> cases a2 <;> cases a3 <;> cases b0 <;> cases b1 <;> cases b2 <;> cases b3 <;> rfl
abbrev boolsV (t : Nat → Bool) : Value := .agg #[.bool (t 0), .bool (t 1), .bool (t 2), .bool (t 3)]
theorem run_clean (t : Nat → Bool) (w : World) : (binOp .eql 105 (boolsV t) (.agg #[.bool false, .bool false, .bool false, .bool false])).run Try.prog w = .ok (.bool (!anyT t)) w := by
  rw [run_eql_struct, eq105 9998]
  simp only [Result.andThen_ok, anyT]
  cases t 0 <;> cases t 1 <;> cases t 2 <;> cases t 3 <;> rfl
theorem wpList_clean {ops : Array Oper} {rest : List Oper} {o : Oper} {a : Act} {w : World} {Q : Exit → Act → World → Prop} (hgd : o.guard = none) (x y : Operand) (d : TypeId) (t : Nat → Bool)
    (ho : o.op = .binOp .eql 105 x y d) (hx : a.eval x = boolsV t) (hy : a.eval y = .agg #[.bool false, .bool false, .bool false, .bool false])
    (h : wpList Try.prog ops Q rest (a.put o.dst (.bool (!anyT t))) w) : wpList Try.prog ops Q (o :: rest) a w :=
  wpList_plain hgd fun K hK => by
    unfold Oper.wp execOp
    simp only [ho, hx, hy, Sem.run_bind, run_eqGuard_agg (P := Try.prog) w .eql 105 x y _ _ (by kernel_rfl), Result.andThen_ok, run_clean t w, Sem.run_pure]
    exact hK _ _ h

theorem set_same {α : Type} {xs : List α} {i : Nat} {x : α} (h : xs[i]? = some x) : xs.set i x = xs := by
  apply List.ext_getElem?
  intro j
  rw [List.getElem?_set]
  split
  · rename_i e
    subst e
    rw [h]
    have := (List.getElem?_eq_some_iff.1 h).1
    simp [this]
  · rfl
theorem idx105 (x0 x1 x2 x3 : Value) (w : World) : (Instr.index 105 (.agg #[x0, x1, x2, x3]) (.int .i64 0)).run Try.prog w = .ok x0 w ∧ (Instr.index 105 (.agg #[x0, x1, x2, x3]) (.int .i64 1)).run Try.prog w = .ok x1 w ∧ (Instr.index 105 (.agg #[x0, x1, x2, x3]) (.int .i64 2)).run Try.prog w = .ok x2 w ∧ (Instr.index 105 (.agg #[x0, x1, x2, x3]) (.int .i64 3)).run Try.prog w = .ok x3 w := by
  refine ⟨?_, ?_, ?_, ?_⟩ <;> (simp [Instr.index, run_underlying Try.underlying105, asIntOf, go_sem]; try rfl)
theorem Sys.bp_size {c : Cf} {bs bm bc base : Nat} {hole : Option Nat} {sv : List Value} {vv : Value} {ps : List (List Nat)} {A : AS} {w : World} (h : Sys c bs bm bc base hole sv vv ps A w) : base ≤ w.heap.size := Nat.le_trans h.bs_ (Nat.le_of_lt (blk_lt h.top))
/-- what lies below the system stands, and what is of no type of the system's -/
structure Bel (base : Nat) (w w' : World) : Prop where
  low : Below base w w'
  keep : ∀ (b : Nat) (cs : Array Value) (t : TypeId), t ≠ 71 → t ≠ 3 → t ≠ 99 → t ≠ 100 → t ≠ 115 → w.heap[b]? = some (.cells cs t (0, 0)) → w'.heap[b]? = some (.cells cs t (0, 0))
theorem Bel.size {base : Nat} {w w' : World} (h : Bel base w w') : w.heap.size ≤ w'.heap.size := h.low.size
theorem Bel.refl (base : Nat) (w : World) : Bel base w w := ⟨Below.refl _ _, fun _ _ _ _ _ _ _ _ h => h⟩
theorem Bel.trans {base : Nat} {a b c : World} (h : Bel base a b) (h' : Bel base b c) : Bel base a c := ⟨h.low.trans h'.low, fun x cs t a b d e f g => h'.keep x cs t a b d e f (h.keep x cs t a b d e f g)⟩
theorem Bel.drew {base : Nat} {w W : World} (h : Bel base w W) : Bel base w W.drew := ⟨⟨h.low.os, h.low.tape, h.low.output, h.low.size, h.low.block⟩, h.keep⟩
theorem Bel.of {base : Nat} {w w' : World} (h : Below w.heap.size w w') (hb : base ≤ w.heap.size) : Bel base w w' := ⟨h.mono hb, fun b cs t _ _ _ _ _ g => (h.block b (blk_lt g)).trans g⟩
theorem Bel.drewN {base : Nat} (w : World) (n : Nat) : Bel base w (w.drewN n) := ⟨drewN_below (Below.refl _ _) _, fun _ _ _ _ _ _ _ _ h => h⟩
def Part (w : World) (base x : Nat) : Prop := base ≤ x ∧ ∃ cs t, w.heap[x]? = some (.cells cs t (0, 0)) ∧ (t = 71 ∨ t = 3 ∨ t = 99 ∨ t = 100 ∨ t = 115)
theorem Sys.below {c : Cf} {bs bm bc base : Nat} {hole : Option Nat} {sv : List Value} {vv : Value} {ps : List (List Nat)} {A : AS} {w w' : World} (h : Sys c bs bm bc base hole sv vv ps A w) {x : Nat} (hx : Part w base x) (hg : w.grownBy w' (some x)) : Bel base w w' := by
  refine ⟨(Below.refl base w).grown hg h.bp_size (fun b hb => by cases hb; exact hx.1), fun b cs t h1 h2 h3 h4 h5 hb => ?_⟩
  refine (hg.block b (blk_lt hb) (fun e => ?_)).trans hb
  obtain rfl := Option.some.inj e
  obtain ⟨_, cs', t', h6, h7⟩ := hx
  rw [hb] at h6
  simp only [Option.some.injEq, Obj.cells.injEq] at h6
  obtain ⟨_, rfl, _⟩ := h6
  rcases h7 with rfl | rfl | rfl | rfl | rfl
  · exact h1 rfl
  · exact h2 rfl
  · exact h3 rfl
  · exact h4 rfl
  · exact h5 rfl
section
variable {c : Cf} {bs bm bc base : Nat} {hole : Option Nat} {sv : List Value} {vv : Value} {ps : List (List Nat)} {A : AS} {w : World}
theorem Sys.pbs (h : Sys c bs bm bc base hole sv vv ps A w) : Part w base bs := ⟨h.bs_, _, _, h.top, by simp⟩
theorem Sys.pbm (h : Sys c bs bm bc base hole sv vv ps A w) : Part w base bm := ⟨h.bm_, _, _, h.mem, by simp⟩
theorem Sys.pbc (h : Sys c bs bm bc base hole sv vv ps A w) : Part w base bc := ⟨h.bc_, _, _, h.tab, by simp⟩
theorem Sys.pen (h : Sys c bs bm bc base hole sv vv ps A w) {k i p : Nat} {l : List Nat} (hk : ps[k]? = some l) (hi : l[i]? = some p) : Part w base p := by
  obtain ⟨_, _, _, _, h9⟩ := h.ent' hk hi
  exact ⟨h.bp _ _ _ hk (List.mem_of_getElem? hi), _, _, h9, by simp⟩
theorem Sys.pvv (h : Sys c bs bm bc base hole sv vv ps A w) {x : Nat} (hx : vv.ownBlock = some x) : Part w base x := by
  obtain ⟨h1, _, cur, h2⟩ := h.val.blk x hx
  exact ⟨h1, _, _, h2, by simp⟩
theorem Own.part {v : Value} {l : List Nat} (h : Own encQ 1 100 w base v l) {x : Nat} (hx : v.ownBlock = some x) : Part w base x := by
  obtain ⟨h1, _, cur, h2⟩ := h.blk x hx
  exact ⟨h1, _, _, h2, by simp⟩
end
def FlPost (c : Cf) (bs bm bc base : Nat) (hole : Option Nat) (sv : List Value) (vv : Value) (ps : List (List Nat)) (A : AS) (k i : Nat) (es : List En) (e : En) (w : World) (x : Ending) (w' : World) : Prop :=
  x = .returned (.tuple #[]) ∧ Sys c bs bm bc base hole sv vv ps { wb A e with cs := A.cs.set k (es.set i (clE e)) } w' ∧ Bel base w w'
theorem flush_calls {c : Cf} {bs bm bc base : Nat} {hole : Option Nat} {sv : List Value} {vv : Value} {ps : List (List Nat)} {A : AS} {w : World} (h : Sys c bs bm bc base hole sv vv ps A w)
    {k i : Nat} {l : List Nat} {p : Nat} {es : List En} {e : En} (hk : ps[k]? = some l) (hi : l[i]? = some p) (hc : A.cs[k]? = some es) (he : es[i]? = some e) (hm : A.m.length ≤ 256) (hl : e.l * 4 + 4 ≤ A.m.length) (hw : A.wr < 1000000000) :
    Calls Try.prog 48 #[ptr bs, ptr p] w (FlPost c bs bm bc base hole sv vv ps A k i es e w) := by
  have hen : EnAt w p e := h.ent _ _ _ _ _ _ hk hc hi he
  have hself : A.cs.set k (es.set i e) = A.cs := by rw [set_same he, set_same hc]
  obtain ⟨y0, y1, y2, y3, y4, y5, y6, y7, y8, y9, y10, y11, y12⟩ := hen.thirteen
  by_cases hd : anyT e.t = true
  · obtain ⟨s0, s1, s2, s3, s4, s5, s6, s7, s8, s9, s10⟩ := h.ten
    have hf := s10 5
    obtain ⟨W1, hW1⟩ : ∃ W1, w.setCell ⟨bs, 5, none⟩ (.int .i64 ((A.wr : Int) + 1)) = W1 := ⟨_, rfl⟩
    have hg1 : w.grownBy W1 (some bs) := by rw [← hW1]; exact grownBy_set _ _ _ _
    have h1 : Sys c bs bm bc base hole sv vv ps { A with wr := A.wr + 1 } W1 := h.count _ rfl rfl rfl hg1 (by rw [← hW1, heap_setCell_same w bs 5 _ 71 _ h.top]; rfl)
    have hen1 : EnAt W1 p e := h1.ent _ _ _ _ _ _ hk hc hi he
    have w1 : IntKind.i64.wrap ((e.l : Int) * 4) = (e.l : Int) * 4 := by rw [IntKind.wrap_i64]; omega
    have w2 : wrap64 ((e.l : Int) * 4) = (e.l : Int) * 4 := wrap64_fit _ (by omega)
    have w3 : ((e.l : Int) * 4).toNat = e.l * 4 := by omega
    have w4 : (0 : Int) ≤ (e.l : Int) * 4 := by omega
    have w5 : (e.l : Int) * 4 ≤ (A.m.length : Int) := by omega
    have w6 : (A.m.length = e.l * 4) = False := by simp; omega
    have w7 : 4 ≤ A.m.length - e.l * 4 := by omega
    have w8 : e.l * 4 ≤ A.m.length := by omega
    have HW := Lib.hid hW1
    have H1 := Lib.hid (And.intro h1 (And.intro hen1 hg1))
    have H0 := Lib.hid (And.intro h (And.intro hk (And.intro hi (And.intro hc he))))
    have HD := Lib.hid hd
    have HS := Lib.hid hself
    clear hself hk hi hc he hen h hW1 h1 hen1 hg1
    go_enter Try.func48, Try.ntmps48
    go_upto_region 2 with (refine wpList_clean rfl _ _ _ e.t rfl rfl rfl ?_; rw [HD.out]; simp only [Bool.not_true])
    rw [HW.out]
    have hs7 := H1.out.1.ten.2.2.2.2.2.2.2.1
    have he0 := H1.out.2.1.thirteen.1
    simp only at hs7
    clear y0 y1 y2 y3 y4 y5 y6 y7 y8 y9 y10 y11 y12 s0 s1 s2 s3 s4 s5 s6 s7 s8 s9 s10 hf
    go_quiet (fail)
    have z9 := H1.out.2.1.thirteen.2.2.2.2.2.2.2.2.2
    obtain ⟨z9, z10, z11, z12⟩ := z9
    go_wp2_with fail
    go_loopg [5, 6, 37, 38, 39, 40, 41, 42, 43, 44, 45, 46, 47, 48, 49, 50, 51] 4 (fun gk v5 v6 v37 v38 v39 v40 v41 v42 v43 v44 v45 v46 v47 v48 v49 v50 v51 wr => ∃ j : Nat, j + gk = 4 ∧ v37 = .int .i64 (j : Int) ∧ Sys c bs bm bc base hole sv vv ps { A with m := (List.range j).foldl (wrS e) A.m, wr := A.wr + 1 } wr ∧ Bel base w wr)
    case atStart => exact ⟨0, rfl, rfl, H1.out.1.rest (drewN_below (Below.refl _ _) _), (H0.out.1.below H0.out.1.pbs H1.out.2.2).trans (Bel.drewN _ _)⟩
    case round =>
      obtain ⟨j, hj, rfl, hs, hb⟩ := hrel
      by_cases hlt : j < 4
      · have hd : decide (j < 4) = true := decide_eq_true hlt
        rcases show j = 0 ∨ j = 1 ∨ j = 2 ∨ j = 3 by omega with rfl | rfl | rfl | rfl
        · have xw := hs.word (e.l * 4) (by simp only [fold_wrS_len]; omega)
          obtain ⟨x, hx⟩ : ∃ x, wr.cell? ⟨bm, e.l * 4, none⟩ = some x := ⟨_, xw.1⟩
          have hxf := xw.2
          have hen2 : EnAt wr p e := hs.ent _ _ _ _ _ _ H0.out.2.1 H0.out.2.2.2.1 H0.out.2.2.1 H0.out.2.2.2.2
          have hz := hen2.cell 1 _ rfl
          have HX := Lib.hid (And.intro hs hb)
          clear hs hb xw hen2
          have hix2 := fun w => (idx105 (.bool (e.t 0)) (.bool (e.t 1)) (.bool (e.t 2)) (.bool (e.t 3)) w).1
          go_wp2_with fail
          · rename_i ht
            have HT := Lib.hid (show e.t 0 = true by simpa using ht)
            go_roundg (gk - 1)
            case measure => omega
            case rel =>
              have h2 := HX.out.1.setMem (e.l * 4) (by simp only [fold_wrS_len]; omega) (e.d 0)
              refine ⟨0 + 1, by omega, by go_num, ?_, HX.out.2.trans (HX.out.1.below HX.out.1.pbm h2.2)⟩
              rw [range_succ_foldl]
              unfold wrS
              rw [if_pos HT.out]
              exact h2.1
          · rename_i ht
            have HT := Lib.hid (show ¬ e.t 0 = true by simpa using ht)
            go_roundg (gk - 1)
            case measure => omega
            case rel =>
              refine ⟨0 + 1, by omega, by go_num, ?_, HX.out.2⟩
              rw [range_succ_foldl]
              unfold wrS
              rw [if_neg HT.out]
              exact HX.out.1
        · have xw := hs.word (e.l * 4 + 1) (by simp only [fold_wrS_len]; omega)
          obtain ⟨x, hx⟩ : ∃ x, wr.cell? ⟨bm, e.l * 4 + 1, none⟩ = some x := ⟨_, xw.1⟩
          have hxf := xw.2
          have hen2 : EnAt wr p e := hs.ent _ _ _ _ _ _ H0.out.2.1 H0.out.2.2.2.1 H0.out.2.2.1 H0.out.2.2.2.2
          have hz := hen2.cell 2 _ rfl
          have HX := Lib.hid (And.intro hs hb)
          clear hs hb xw hen2
          have hix2 := fun w => (idx105 (.bool (e.t 0)) (.bool (e.t 1)) (.bool (e.t 2)) (.bool (e.t 3)) w).2.1
          go_wp2_with fail
          · rename_i ht
            have HT := Lib.hid (show e.t 1 = true by simpa using ht)
            go_roundg (gk - 1)
            case measure => omega
            case rel =>
              have h2 := HX.out.1.setMem (e.l * 4 + 1) (by simp only [fold_wrS_len]; omega) (e.d 1)
              refine ⟨1 + 1, by omega, by go_num, ?_, HX.out.2.trans (HX.out.1.below HX.out.1.pbm h2.2)⟩
              rw [range_succ_foldl]
              unfold wrS
              rw [if_pos HT.out]
              exact h2.1
          · rename_i ht
            have HT := Lib.hid (show ¬ e.t 1 = true by simpa using ht)
            go_roundg (gk - 1)
            case measure => omega
            case rel =>
              refine ⟨1 + 1, by omega, by go_num, ?_, HX.out.2⟩
              rw [range_succ_foldl]
              unfold wrS
              rw [if_neg HT.out]
              exact HX.out.1
        · have xw := hs.word (e.l * 4 + 2) (by simp only [fold_wrS_len]; omega)
          obtain ⟨x, hx⟩ : ∃ x, wr.cell? ⟨bm, e.l * 4 + 2, none⟩ = some x := ⟨_, xw.1⟩
          have hxf := xw.2
          have hen2 : EnAt wr p e := hs.ent _ _ _ _ _ _ H0.out.2.1 H0.out.2.2.2.1 H0.out.2.2.1 H0.out.2.2.2.2
          have hz := hen2.cell 3 _ rfl
          have HX := Lib.hid (And.intro hs hb)
          clear hs hb xw hen2
          have hix2 := fun w => (idx105 (.bool (e.t 0)) (.bool (e.t 1)) (.bool (e.t 2)) (.bool (e.t 3)) w).2.2.1
          go_wp2_with fail
          · rename_i ht
            have HT := Lib.hid (show e.t 2 = true by simpa using ht)
            go_roundg (gk - 1)
            case measure => omega
            case rel =>
              have h2 := HX.out.1.setMem (e.l * 4 + 2) (by simp only [fold_wrS_len]; omega) (e.d 2)
              refine ⟨2 + 1, by omega, by go_num, ?_, HX.out.2.trans (HX.out.1.below HX.out.1.pbm h2.2)⟩
              rw [range_succ_foldl]
              unfold wrS
              rw [if_pos HT.out]
              exact h2.1
          · rename_i ht
            have HT := Lib.hid (show ¬ e.t 2 = true by simpa using ht)
            go_roundg (gk - 1)
            case measure => omega
            case rel =>
              refine ⟨2 + 1, by omega, by go_num, ?_, HX.out.2⟩
              rw [range_succ_foldl]
              unfold wrS
              rw [if_neg HT.out]
              exact HX.out.1
        · have xw := hs.word (e.l * 4 + 3) (by simp only [fold_wrS_len]; omega)
          obtain ⟨x, hx⟩ : ∃ x, wr.cell? ⟨bm, e.l * 4 + 3, none⟩ = some x := ⟨_, xw.1⟩
          have hxf := xw.2
          have hen2 : EnAt wr p e := hs.ent _ _ _ _ _ _ H0.out.2.1 H0.out.2.2.2.1 H0.out.2.2.1 H0.out.2.2.2.2
          have hz := hen2.cell 4 _ rfl
          have HX := Lib.hid (And.intro hs hb)
          clear hs hb xw hen2
          have hix2 := fun w => (idx105 (.bool (e.t 0)) (.bool (e.t 1)) (.bool (e.t 2)) (.bool (e.t 3)) w).2.2.2
          go_wp2_with fail
          · rename_i ht
            have HT := Lib.hid (show e.t 3 = true by simpa using ht)
            go_roundg (gk - 1)
            case measure => omega
            case rel =>
              have h2 := HX.out.1.setMem (e.l * 4 + 3) (by simp only [fold_wrS_len]; omega) (e.d 3)
              refine ⟨3 + 1, by omega, by go_num, ?_, HX.out.2.trans (HX.out.1.below HX.out.1.pbm h2.2)⟩
              rw [range_succ_foldl]
              unfold wrS
              rw [if_pos HT.out]
              exact h2.1
          · rename_i ht
            have HT := Lib.hid (show ¬ e.t 3 = true by simpa using ht)
            go_roundg (gk - 1)
            case measure => omega
            case rel =>
              refine ⟨3 + 1, by omega, by go_num, ?_, HX.out.2⟩
              rw [range_succ_foldl]
              unfold wrS
              rw [if_neg HT.out]
              exact HX.out.1
      · have hd : decide (j < 4) = false := decide_eq_false hlt
        obtain rfl : j = 4 := by omega
        have hen : EnAt wr p e := hs.ent _ _ _ _ _ _ H0.out.2.1 H0.out.2.2.2.1 H0.out.2.2.1 H0.out.2.2.2.2
        have k9 := hen.cell 9 _ rfl
        have k10 := hen.cell 10 _ rfl
        have k11 := hen.cell 11 _ rfl
        have k12 := hen.cell 12 _ rfl
        have f9 := hen.frozen 9
        have f10 := hen.frozen 10
        have f11 := hen.frozen 11
        have f12 := hen.frozen 12
        have HX := Lib.hid (And.intro hs (And.intro hb hen))
        clear hs hb hen
        go_wp2_with fail
        (first | go_end0 | go_ret)
        have e1 : EnAt (wr.setCell ⟨p, 9, none⟩ (.bool false)) p { e with t := upd e.t 0 false } := HX.out.2.2.set 9 _ (En.set_t e 0 (by decide) false)
        have e2 := e1.set 10 (.bool false) (En.set_t _ 1 (by decide) false)
        have e3 := e2.set 11 (.bool false) (En.set_t _ 2 (by decide) false)
        have e4 := e3.set 12 (.bool false) (En.set_t _ 3 (by decide) false)
        have hg := grownBy_trans (grownBy_trans (grownBy_trans (grownBy_set wr p 9 (.bool false)) (grownBy_set _ p 10 (.bool false))) (grownBy_set _ p 11 (.bool false))) (grownBy_set _ p 12 (.bool false))
        have h5 := HX.out.1.setEnt H0.out.2.1 H0.out.2.2.1 H0.out.2.2.2.1 (clE e) hg (by
          unfold EnAt at e4
          rw [e4]
          unfold clE
          rw [if_pos HD.out]
          rfl)
        refine ⟨rfl, ?_, HX.out.2.1.trans (HX.out.1.below ?_ hg)⟩
        · unfold wb
          rw [if_pos HD.out]
          exact h5
        · exact HX.out.1.pen H0.out.2.1 H0.out.2.2.1
  · have hA : { wb A e with cs := A.cs.set k (es.set i (clE e)) } = A := by
      unfold wb clE
      rw [if_neg hd, if_neg hd, hself]
    have hd : anyT e.t = false := by simpa using hd
    have H0 := Lib.hid (And.intro h (And.intro hd hA))
    clear hself hk hi hc he hen h hA hd
    go_enter Try.func48, Try.ntmps48
    go_wp2_with (refine wpList_clean rfl _ _ _ e.t rfl rfl rfl ?_; rw [H0.out.2.1])
    (first | go_end0 | go_ret)
    unfold FlPost
    rw [H0.out.2.2]
    exact ⟨rfl, H0.out.1, Bel.refl _ _⟩
end Go.Proofs.Ytggidakiflnhhaa
