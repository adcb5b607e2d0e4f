import Derived.Test.YthebembnlmddoaaAM
import Derived.Great.Walk
namespace Go.Proofs.Ythebembnlmddoaa
open Go.RowKit
set_option maxHeartbeats 4000000
set_option maxRecDepth 100000
set_option linter.unusedSimpArgs false
set_option linter.unusedVariables false

theorem zeros_rep (n : Nat) : Builtin.zeroCells (Value.int .i64 0).cells n = Array.replicate n (.int .i64 0) := by
  apply Array.ext
  · simp [Builtin.zeroCells, Value.cells]
  · intro i h1 h2
    simp [Builtin.zeroCells, Value.cells, Nat.mod_one]
/-- append(nil, make([]int, m)...) -/
theorem run_append_made (w : World) (m : Nat) (ty : TypeId) (h0 : 0 < m) (h1 : m ≤ 1024) :
    ∃ g cap w', (Builtin.append_ #[33, 3] ty #[.slice none 0 0, .int .i64 (m : Int)]).run Try.prog w = .ok (.slice (some ⟨g, 0, none⟩) m cap) w' ∧
      Own encI 1 3 w' w.heap.size (.slice (some ⟨g, 0, none⟩) 0 cap) [] ∧ w.grownBy w' none := by
  obtain ⟨i0, hi, hz0, hz1, hz2⟩ := info_parts info3
  have hw : IntKind.i64.wrap (m : Int) = (m : Int) := by rw [IntKind.wrap_i64]; omega
  have hm0 : ¬ ((m : Int) < 0) := by omega
  have hm1 : ¬ (281474976710656 < (m : Int) * 8) := by omega
  have hu3 : Try.prog.underlying 3 = some (.int .i64) := Try.underlying3
  have hge := grownCap_ge w m 0 3
  have hcm : grownCap w m 0 3 ≤ maxLen := grownCap_le_maxLen w m 0 3 (by simp only [maxLen]; omega)
  refine ⟨w.heap.size, grownCap w m 0 3, w.drew.alloc (.cells (Builtin.zeroCells (Value.int .i64 0).cells m ++ Builtin.zeroCells (Value.int .i64 0).cells (grownCap w m 0 3 - m)) 3), ?_, ⟨rfl, .inr ⟨w.heap.size, _, _, rfl, Nat.le_refl _, heap_alloc_new w.drew _, Nat.zero_le _, hcm, ?_, by simp⟩⟩, ⟨rfl, rfl, rfl, by simp, fun k hk _ => heap_alloc_old w.drew _ hk⟩⟩
  · have hn0 : m ≠ 0 := by omega
    have hc : Builtin.nextslicecap m 0 = m := nextslicecap_zero h0
    have hc2 : ¬ (281474976710656 < m * 8) := by omega
    have h63' : ¬ (9223372036854775807 < (m : Int)) := by omega
    simp [Builtin.append_, run_underlying Try.underlying33, run_underlying hu3, sizeOf, typeInfo, zeroValue, hi, hz0, hz1, hz2, asInt, asIntOf, hw, hm0, hm1, hn0, hc, hc2, h63', Question.forced, run_firstCells_none, newRow, grownCap]
  · simp only [Array.size_append, size_zeroCells]
    have : (Value.int IntKind.i64 0).cells.size = 1 := rfl
    rw [this]
    omega
/-- append(s, nil...) -/
theorem run_append_nil (w : World) (base n : Nat) (ty : TypeId) (v : Value) (xs : List Int) (hown : Own encI 1 3 w base v xs) (hn : xs.length ≤ 1000000) :
    (Builtin.append_ #[33, 33] ty #[v, .slice none 0 0]).run Try.prog w = .ok v w := by
  obtain ⟨i0, hi, hz0, hz1, hz2⟩ := info_parts info3
  have hu3 : Try.prog.underlying 3 = some (.int .i64) := Try.underlying3
  have hu44 := fun w => run_underlying (P := Try.prog) Try.underlying33 w
  rcases hown.2 with ⟨rfl, h0⟩ | ⟨g, cap, cur, rfl, hbg, hg, hnc, hcm, hcs, htake⟩
  · simp [Builtin.append_, run_underlying Try.underlying33, run_underlying hu3, sizeOf, typeInfo, zeroValue, hi, hz0, hz1, hz2, run_firstCells_none, storeCells, Builtin.lenOf]
  · have h63' : ¬ (9223372036854775807 < (xs.length : Int)) := by omega
    simp [Builtin.append_, run_underlying Try.underlying33, run_underlying hu3, sizeOf, typeInfo, zeroValue, hi, hz0, hz1, hz2, run_firstCells_none, storeCells, hnc, h63', Builtin.lenOf]
theorem wpList_append_run {ops : Array Oper} {rest : List Oper} {o : Oper} {a : Act} {w : World} {Q : Exit → Act → World → Prop} (hgd : o.guard = none) (s x : Operand) (ts : Array TypeId)
    (ho : o.op = .call { callee := .builtin .append, args := #[s, x], argTypes := ts }) (u1 u2 v' : Value) (w' : World) (h1 : a.eval s = u1) (h2 : a.eval x = u2) (hr : (Builtin.append_ ts o.type #[u1, u2]).run Try.prog w = .ok v' w')
    (h : wpList Try.prog ops Q rest (a.put o.dst v') w') : wpList Try.prog ops Q (o :: rest) a w := by
  refine wpList_plain hgd fun K hK => ?_
  unfold Oper.wp execOp
  simp only [ho, resolve, invoke, builtin, Sem.run_bind, Sem.run_pure, Result.andThen_ok, List.map_toArray, List.map_cons, List.map_nil, h1, h2, hr]
  exact hK _ _ h
theorem wpList_append_nil {ops : Array Oper} {rest : List Oper} {o : Oper} {a : Act} {w : World} {Q : Exit → Act → World → Prop} (hgd : o.guard = none) (s x : Operand)
    (ho : o.op = .call { callee := .builtin .append, args := #[s, x], argTypes := #[33, 33] }) (v : Value) (hv : a.eval s = v) (hx : a.eval x = .slice none 0 0) (base : Nat) (xs : List Int) (hown : Own encI 1 3 w base v xs) (hn : xs.length ≤ 1000000)
    (h : wpList Try.prog ops Q rest (a.put o.dst v) w) : wpList Try.prog ops Q (o :: rest) a w := by
  refine wpList_plain hgd fun K hK => ?_
  unfold Oper.wp execOp
  simp only [ho, resolve, invoke, builtin, Sem.run_bind, Sem.run_pure, Result.andThen_ok, List.map_toArray, List.map_cons, List.map_nil, hv, hx, run_append_nil w base 0 o.type v xs hown hn]
  exact hK _ _ h
/-- slices.Grow of nil -/
theorem grow_calls (m : Nat) (h0 : 0 < m) (h1 : m ≤ 1024) (w : World) : Calls Try.prog 59 #[.slice none 0 0, .int .i64 (m : Int)] w fun e w' => ∃ g cap, e = .returned (.slice (some ⟨g, 0, none⟩) 0 cap) ∧ Own encI 1 3 w' w.heap.size (.slice (some ⟨g, 0, none⟩) 0 cap) [] ∧ Below w.heap.size w w' := by
  obtain ⟨g, cap, w1, hr, ho, hg⟩ := run_append_made w m 33 h0 h1
  have hb : Below w.heap.size w w1 := (Below.refl _ w).grown hg (Nat.le_refl _) (fun b hb => by cases hb)
  have HE := Lib.hid (And.intro ho hb)
  have d1 : decide (0 < m) = true := decide_eq_true h0
  have d2 : decide ((0 : Int) < (m : Int)) = true := decide_eq_true (by omega)
  clear ho hg hb
  go_enter Try.func59, Try.ntmps59
  go_wp2_with (at_builtin; go_must (refine wpList_append_run rfl (.tmp 20) (.tmp 21) #[33, 3] rfl (.slice none 0 0) (.int .i64 (m : Int)) (.slice (some ⟨g, 0, none⟩) m cap) w1 rfl rfl hr ?_))
  go_ret
  exact ⟨g, cap, rfl, HE.out⟩
/-- lists of numbers in memory, to be joined -/
abbrev encL (r : Option Addr × List Int × Nat) : List Value := [.slice r.1 r.2.1.length r.2.2]
theorem lenL (r : Option Addr × List Int × Nat) : (encL r).length = 1 := rfl
/-- slices.Concat -/
theorem concat_calls (rs : List (Option Addr × List Int × Nat)) (A : Option Addr) (c : Nat) (w : World) (hA : Rd encL 1 w A rs) (hR : ∀ r ∈ rs, Rd encI 1 w r.1 r.2.1 ∧ (r.1 = Option.none → r.2.2 = 0)) (h0 : 0 < (rs.flatMap (·.2.1)).length) (h1 : (rs.flatMap (·.2.1)).length ≤ 1024) :
    Calls Try.prog 54 #[.slice A rs.length c] w fun e w' => ∃ v, e = .returned v ∧ Own encI 1 3 w' w.heap.size v (rs.flatMap (·.2.1)) ∧ Below w.heap.size w w' := by
  have hsm := hA.small
  have hpre : ∀ k, ((rs.take k).flatMap (·.2.1)).length ≤ (rs.flatMap (·.2.1)).length := fun k => by
    have := congrArg (fun l => (l.flatMap (fun r : Option Addr × List Int × Nat => r.2.1)).length) (List.take_append_drop k rs)
    simp only [List.flatMap_append, List.length_append] at this
    omega
  have hsn : ∀ k (h : k < rs.length), (rs.take (k + 1)).flatMap (·.2.1) = (rs.take k).flatMap (·.2.1) ++ rs[k].2.1 := fun k h => by
    rw [take_snoc rs k h, List.flatMap_append]
    simp
  have HR := Lib.hid (And.intro hA (And.intro hR (And.intro hpre (And.intro hsn h0))))
  obtain ⟨tot, htot⟩ : ∃ tot, (rs.flatMap (·.2.1)).length = tot := ⟨_, rfl⟩
  have hgr := fun w' => grow_calls tot (by omega) (by omega) w'
  have HG := Lib.hid hgr
  have HT := Lib.hid htot
  rw [htot] at h1
  clear hA hR hpre hsn h0 hgr htot
  go_enter Try.func54, Try.ntmps54
  go_wp2_with fail
  go_loopg [3, 5, 11, 12, 13, 14, 15, 16, 17, 18, 19, 20, 21, 22] rs.length (fun gk v3 v5 v11 v12 v13 v14 v15 v16 v17 v18 v19 v20 v21 v22 wr => ∃ k : Nat, k + gk = rs.length ∧ v11 = .int .i64 (k : Int) ∧ v3 = .int .i64 (((rs.take k).flatMap (·.2.1)).length : Int) ∧ w = wr)
  case atStart => exact ⟨0, by omega, rfl, rfl, rfl⟩
  case round =>
    obtain ⟨k, hk, rfl, rfl, rfl⟩ := hrel
    by_cases hkl : k < rs.length
    · have hd : decide (k < rs.length) = true := decide_eq_true hkl
      obtain ⟨a, rfl, hc⟩ := HR.out.1.cell k hkl
      have hcv := hc 0 _ rfl
      rw [Nat.mul_one, Nat.add_zero] at hcv
      have hs := HR.out.2.2.2.1 k hkl
      have hp := HR.out.2.2.1 (k + 1)
      rw [HT.out] at hp
      rw [hs, List.length_append] at hp
      have HS := Lib.hid hs
      generalize rs[k] = r at *
      obtain ⟨S, xs, cx⟩ := r
      dsimp only at hcv hp
      generalize (rs.take k).flatMap (·.2.1) = ys at *
      have e0 : decide ((ys.length : Int) + (xs.length : Int) < 0) = false := decide_eq_false (by omega)
      have e1 : ys.length + xs.length ≤ 1024 := by omega
      clear hs hp hc
      go_wp2_with fail
      go_roundg (gk - 1)
      case measure => omega
      case rel => exact ⟨k + 1, by omega, by go_num, by rw [HS.out, List.length_append]; go_num, rfl⟩
    · have hd : decide (k < rs.length) = false := decide_eq_false hkl
      obtain rfl : k = rs.length := by omega
      rw [List.take_length, HT.out]
      go_wp2_with fail
      (with_reducible refine (HG.out w).mono ?_); rintro e w2 ⟨g, cap, rfl, hown, hb2⟩
      have H2 := Lib.hid (And.intro hown hb2)
      clear hown hb2
      go_wp2_with fail
      go_loopg [6, 8, 27, 28, 29, 30, 31, 32, 33, 34] rs.length (fun gk v6 v8 v27 v28 v29 v30 v31 v32 v33 v34 wq => ∃ (k : Nat) (v : Value), k + gk = rs.length ∧ v27 = .int .i64 (k : Int) ∧ v6 = v ∧ Own encI 1 3 wq w.heap.size v ((rs.take k).flatMap (·.2.1)) ∧ Below w.heap.size w wq)
      case atStart => exact ⟨0, _, by omega, rfl, rfl, H2.out⟩
      case round =>
        obtain ⟨k, v, hk, rfl, rfl, hown, hbl⟩ := hrel
        obtain ⟨wo, hwo⟩ : ∃ wo, wo = wr := ⟨_, rfl⟩
        by_cases hkl : k < rs.length
        · have hd : decide (k < rs.length) = true := decide_eq_true hkl
          obtain ⟨a, rfl, hc⟩ := (HR.out.1.below hbl).cell k hkl
          have hcv := hc 0 _ rfl
          rw [Nat.mul_one, Nat.add_zero] at hcv
          have hr := HR.out.2.1 _ (List.getElem_mem hkl)
          have hs := HR.out.2.2.2.1 k hkl
          have hp := HR.out.2.2.1 (k + 1)
          rw [HT.out] at hp
          rw [hs, List.length_append] at hp
          generalize rs[k] = r at *
          obtain ⟨S, xs, cx⟩ := r
          dsimp only at hcv hp hr hs
          generalize (rs.take k).flatMap (·.2.1) = ys at *
          cases S with
          | none =>
            obtain rfl : xs = [] := hr.1.none
            obtain rfl : cx = 0 := hr.2 rfl
            rw [List.append_nil] at hs
            have HS := Lib.hid (And.intro hs (And.intro hown hbl))
            have hyl : ys.length ≤ 1000000 := by omega
            clear hs hp hc hown hbl hr
            go_wp2_with (at_builtin; go_must (refine wpList_append_nil rfl (.tmp 31) (.tmp 32) rfl _ rfl rfl w.heap.size ys HS.out.2.1 hyl ?_))
            go_roundg (gk - 1)
            case measure => omega
            case rel => exact ⟨k + 1, _, by omega, by go_num, rfl, by rw [HS.out.1]; exact HS.out.2⟩
          | some ad =>
            have hrd := hr.1.below hbl
            have HS := Lib.hid (And.intro hs (And.intro hown (And.intro hbl (And.intro hrd (show (ys.length + xs.length) * 8 ≤ 140737488355328 by omega)))))
            clear hs hp hc hown hbl hr hrd
            go_wp2_with (at_builtin; go_must (refine wpList_append_typed lenI oneI _ rfl (.tmp 31) (.tmp 32) 33 rfl w.heap.size 3 _ 8 Try.underlying33 info3 rfl (by decide) (by decide) _ ys rfl HS.out.2.1 ad xs.length cx xs rfl rfl HS.out.2.2.2.1 HS.out.2.2.2.2 HS.out.2.2.1.size ?_); intro v' w' ho' hg'; have HO := Lib.hid (And.intro ho' hg'); clear ho' hg')
            go_roundg (gk - 1)
            case measure => omega
            case rel => exact ⟨k + 1, _, by omega, by go_num, rfl, by rw [HS.out.1]; exact HO.out.1, HS.out.2.2.1.grown HO.out.2 HS.out.2.2.1.size (fun b hb => (HS.out.2.1.blk b hb).1)⟩
        · have hd : decide (k < rs.length) = false := decide_eq_false hkl
          obtain rfl : k = rs.length := by omega
          rw [List.take_length] at hown
          have HE := Lib.hid (And.intro hown hbl)
          clear hown hbl
          go_wp2_with fail
          go_ret
          exact ⟨_, rfl, HE.out⟩
end Go.Proofs.Ythebembnlmddoaa
