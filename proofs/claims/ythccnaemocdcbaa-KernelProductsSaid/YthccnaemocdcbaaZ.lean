import Derived.Test.YthccnaemocdcbaaY
import Derived.BigRegion
namespace Go.Proofs.Ythccnaemocdcbaa
open Go.RowKit
set_option maxHeartbeats 4000000
set_option maxRecDepth 100000
set_option linter.unusedSimpArgs false
set_option linter.unusedVariables false

theorem rd_litI (w : World) (m : Int) (t g : Nat) (hg : g = w.heap.size) : Rd encI 1 (w.alloc (.cells #[.int .i64 m] t)) (some ⟨g, 0, none⟩) [m] := by
  subst hg
  refine ⟨by simp, fun k hk => ⟨_, rfl, fun j v hv => ?_⟩⟩
  obtain rfl : k = 0 := by simp at hk; omega
  match j, hv with
  | 0, hv => cases hv; simp [Addr.add]
  | (j + 1), hv => simp at hv
def PreP (o : List Int) (k code : Int) (w : World) (e : Ending) (w' : World) : Prop :=
  ∃ vo, e = .returned (.tuple #[vo, .int .i64 k, .int .i64 code]) ∧ Own encI 1 3 w' w.heap.size vo o ∧ Below w.heap.size w w'
theorem shl_one (k : Nat) (hk : k ≤ 10) : wrap64 ((2 : Int) ^ k) = ((2 ^ k : Nat) : Int) := by
  have h : ((2 : Int) ^ k) = ((2 ^ k : Nat) : Int) := by simp
  have h2 : 2 ^ k ≤ 2 ^ 10 := Nat.pow_le_pow_right (by omega) hk
  rw [h]
  generalize 2 ^ k = p at *
  exact wrap64_fit _ (by omega)
theorem wpList_append_run {ops : Array Oper} {rest : List Oper} {o : Oper} {a : Act} {w : World} {Q : Exit → Act → World → Prop} (hgd : o.guard = none) (s x : Operand)
    (ho : o.op = .call { callee := .builtin .append, args := #[s, x], argTypes := #[44, 3] }) (v y v' : Value) (w' : World) (hs : a.eval s = v) (hx : a.eval x = y)
    (hr : (Builtin.append_ #[44, 3] o.type #[v, y]).run Try.prog w = .ok v' w') (h : wpList Try.prog ops Q rest (a.put o.dst v') w') : wpList Try.prog ops Q (o :: rest) a w :=
  wpList_plain hgd fun K hK => by
    unfold Oper.wp execOp
    simp only [ho, resolve, invoke, builtin, Sem.run_bind, Sem.run_pure, Result.andThen_ok, List.map_toArray, List.map_cons, List.map_nil, hs, hx, hr]
    exact hK _ _ h
theorem wpList_load_run {ops : Array Oper} {rest : List Oper} {o : Oper} {a : Act} {w : World} {Q : Exit → Act → World → Prop} (hgd : o.guard = none) (x : Operand)
    (ho : o.op = .load 84 x) (y v' : Value) (w' : World) (hx : a.eval x = y)
    (hr : (Instr.loadAt 84 y).run Try.prog w = .ok v' w') (h : wpList Try.prog ops Q rest (a.put o.dst v') w') : wpList Try.prog ops Q (o :: rest) a w :=
  wpList_plain hgd fun K hK => by
    unfold Oper.wp execOp
    simp only [ho, Sem.run_bind, Sem.run_pure, Result.andThen_ok, hx, hr]
    exact hK _ _ h
theorem wpList_alloc_run {ops : Array Oper} {rest : List Oper} {o : Oper} {a : Act} {w : World} {Q : Exit → Act → World → Prop} (hgd : o.guard = none)
    (ho : o.op = .alloc 84) (v' : Value) (w' : World)
    (hr : (Instr.alloc 84 true (.tuple #[])).run Try.prog w = .ok v' w') (h : wpList Try.prog ops Q rest (a.put o.dst v') w') : wpList Try.prog ops Q (o :: rest) a w :=
  wpList_plain hgd fun K hK => by
    unfold Oper.wp execOp
    simp only [ho, Sem.run_bind, Sem.run_pure, Result.andThen_ok, hr]
    exact hK _ _ h
theorem wpList_store_run {ops : Array Oper} {rest : List Oper} {o : Oper} {a : Act} {w : World} {Q : Exit → Act → World → Prop} (hgd : o.guard = none) (x y : Operand)
    (ho : o.op = .store 84 x y) (u v : Value) (w' : World) (hx : a.eval x = u) (hy : a.eval y = v)
    (hr : (Instr.storeAt 84 u v).run Try.prog w = .ok () w') (h : wpList Try.prog ops Q rest (a.put o.dst undef) w') : wpList Try.prog ops Q (o :: rest) a w :=
  wpList_plain hgd fun K hK => by
    unfold Oper.wp execOp
    simp only [ho, Sem.run_bind, Sem.run_pure, Result.andThen_ok, hx, hy, hr]
    exact hK _ _ h
theorem tree_first (l : List Int) (m : Nat) (h : l.length + m = 1024) (i : Nat) (hi : i < 1024) : (l ++ List.replicate m 0).getD i 0 = belowF l 1 i := by
  rw [belowF_one, List.getD_eq_getElem?_getD]
  by_cases h1 : i < l.length
  · rw [List.getElem?_append_left h1, List.getElem?_eq_getElem h1, pre_succ l i h1]
    simp
    omega
  · rw [List.getElem?_append_right (by omega), pre_far l i (by omega), List.getElem?_replicate, if_pos (by omega)]
    simp
/-- the tree's leaves, laid into a new variable -/
theorem tree_laid (w : World) (base n m : Nat) (v : Value) (l : List Int) (hn : l.length = n) (hown : Own encI 1 3 w base v l) (hN : n + m = 1024) (hbase : base ≤ w.heap.size) (hlow : ∀ b, v.ownBlock = some b → base ≤ b) (w0 : World) (hb0 : Below base w0 w) :
    ∃ v' p A b W W1 W2, (Builtin.append_ #[44, 3] 44 #[v, .int .i64 (m : Int)]).run Try.prog w = .ok v' W ∧ (Instr.arrayAt 84 v').run Try.prog W = .ok p W ∧ (Instr.loadAt 84 p).run Try.prog W = .ok (.agg A) W ∧
      (Instr.alloc 84 true (.tuple #[])).run Try.prog W = .ok (.pointer (some ⟨b, 0, none⟩)) W1 ∧ (Instr.storeAt 84 (.pointer (some ⟨b, 0, none⟩)) (.agg A)).run Try.prog W1 = .ok () W2 ∧
      Tree W2 b (belowF l 1) ∧ Below base w0 W2 ∧ base ≤ b := by
  obtain ⟨g, cap, W, h1, h2, h3⟩ := run_append_zeros w base n m 1024 44 v l hn hown hN (by omega) (by omega) hbase
  obtain ⟨A, k1, k2, k3, k4, k5⟩ := tree_made W base g cap _ (by simp; omega) h2
  obtain ⟨i0, hi, hz0, hz1, hz2⟩ := info_parts info84
  have hlow2 : Below base w0 W := hb0.grown h3 hbase hlow
  have hbW := hlow2.size
  refine ⟨_, _, A, W.heap.size, W, W.alloc (.cells (Array.replicate 1024 (.int .i64 0)) 84), (W.alloc (.cells (Array.replicate 1024 (.int .i64 0)) 84)).setRow W.heap.size A, h1, k1, k2, ?_, ?_, k5.congr (fun i hi => tree_first l m (by omega) i hi), ?_, Nat.le_trans hbase h3.size⟩
  · simp [Instr.alloc, zeroValue, typeInfo, hi, hz0, newVar, newRow, newObj, Value.cells]
    rfl
  · have := run_storeVar_row (P := Try.prog) (W.alloc (.cells (Array.replicate 1024 (.int .i64 0)) 84)) W.heap.size 84 84 _ A (heap_alloc_new W _) (by rw [hi, Option.map_some, hz1, k3]) (by simp [k3]) k4
    simp [Instr.storeAt, Instr.sureAddr, this]
  · have hg1 : W.grownBy (W.alloc (.cells (Array.replicate 1024 (.int .i64 0)) 84)) none := World.grownBy_alloc _ _ _
    have hl1 := hlow2.grown hg1 (Nat.le_trans hbase h3.size) (fun b hb => by cases hb)
    exact ⟨hl1.os, hl1.tape, hl1.output, by simpa using hl1.size, fun k hk => (setRow_other _ _ k _ (by have := Nat.le_trans hbase h3.size; omega)).trans (hl1.block k hk)⟩
theorem Tree.apart {w : World} {b : Nat} {f : Nat → Int} (h : Tree w b f) {base : Nat} {v : Value} {xs : List Int} (ho : Own encI 1 3 w base v xs) : some b ≠ v.ownBlock := by
  obtain ⟨cs, h1, h2, h3⟩ := h
  rcases ho.2 with ⟨rfl, _⟩ | ⟨g, cap, cur, rfl, hbg, hg, _⟩
  · simp [Value.ownBlock]
  · intro e
    obtain rfl : b = g := by simpa [Value.ownBlock] using e
    rw [hg] at h1
    cases h1
theorem prefix_ok (l : List Int) (hl : l.length ≤ 1024) (hv : l.any (fun n => !wI 1000000000000 n) = false) (A : Option Addr) (c : Nat) (w : World) (hA : Rd encI 1 w A l) :
    Calls Try.prog 19 #[.slice A l.length c] w (PreP (sums l) (rdF l.length) 0 w) := by
  have h1 := containsFuncI_calls (fun n => !wI 1000000000000 n) 42 #[] A l c w hA f42 (fun x w1 hb1 => by
    have h := out3_calls x w1
    exact h.mono (fun e w2 ⟨e1, e2⟩ => ⟨e1, e2 ▸ Below.refl _ _⟩))
  rw [hv] at h1
  have H1 := Lib.hid h1
  have hsm := hA.small
  have hcl := fun w' (hb : Below w.heap.size w w') => clone43_calls A l c w' (hA.below hb) (by omega)
  have HC := Lib.hid hcl
  have HI := Lib.hid (And.intro hA hv)
  have hn10 : l.length ≤ 2 ^ 10 := by simpa using hl
  have HN := Lib.hid hn10
  clear h1 hA hcl hv hn10
  go_enter Try.func19, Try.ntmps19
  go_upto_region 5 with ((with_reducible refine (H1.out).mono ?_); rintro e w1 ⟨rfl, hb1⟩)
  go_wp2_with fail
  go_loop [5, 19, 20, 21, 22, 23, 24, 25] (fun v5 v19 v20 v21 v22 v23 v24 v25 => ∃ k : Nat, k ≤ 10 ∧ v5 = .int .i64 (k : Int) ∧ (∀ j, j < k → ¬ l.length ≤ 2 ^ j)) (fun v5 _ _ _ _ _ _ _ => 10 - (intOf v5).toNat)
  case atStart => exact ⟨0, by omega, rfl, fun j hj => by omega⟩
  case round =>
    obtain ⟨k, hk, rfl, hall⟩ := hrel
    have hsh := shl_one k hk
    by_cases hlt : 2 ^ k < l.length
    · have hk10 : k < 10 := by
        by_cases e : k = 10
        · subst e; have := HN.out; omega
        · omega
      have HA := Lib.hid hall
      have HT := Lib.hid hlt
      generalize hp : 2 ^ k = p at hsh hlt
      clear hp
      have hd : decide (p < l.length) = true := decide_eq_true hlt
      clear hall
      go_wp2_with fail
      go_round
      case rel => exact ⟨k + 1, by omega, by go_num, fun j hj => by
        by_cases e : j = k
        · subst e; have := HT.out; omega
        · exact HA.out j (by omega)⟩
      case measure => simp [intOf]; omega
    · have hrd := rdF_at l.length k (by omega) (by omega) hall
      have HR := Lib.hid hrd
      generalize hp : 2 ^ k = p at hsh hlt
      clear hp
      have hd : decide (p < l.length) = false := decide_eq_false hlt
      clear hall hrd
      go_upto_region 8 with fail
      have h2 := HC.out w1 hb1
      have H2 := Lib.hid h2
      have HB1 := Lib.hid hb1
      clear h2 hb1
      go_wp2_with fail
      (with_reducible refine (H2.out).mono ?_); rintro e w2 ⟨v, rfl, hv, hb2⟩
      obtain ⟨m, hm⟩ : ∃ m, l.length + m = 1024 := ⟨1024 - l.length, by omega⟩
      obtain ⟨v', p', A', b, W, W1, W2, r1, r2, r3, r4, r5, htree, hlow, hbb⟩ := tree_laid w2 w1.heap.size l.length m v l rfl hv hm hb2.size (fun b hb => (hv.blk b hb).1) w1 hb2
      have hm2 : (1024 : Int) - (l.length : Int) = (m : Int) := by omega
      have HL := Lib.hid (And.intro htree (And.intro (HB1.out.trans (hlow.mono HB1.out.size)) (Nat.le_trans HB1.out.size hbb)))
      clear hv htree hlow hbb hb2 hm
      go_wp2_with (first | (refine wpList_append_run rfl _ _ rfl v (.int .i64 (m : Int)) v' W rfl rfl r1 ?_) | (refine wpList_load_run rfl _ rfl p' (.agg A') W rfl r3 ?_) | (refine wpList_alloc_run rfl rfl (.pointer (some ⟨b, 0, none⟩)) W1 r4 ?_) | (refine wpList_store_run rfl _ _ rfl (.pointer (some ⟨b, 0, none⟩)) (.agg A') W2 rfl rfl r5 ?_))
      clear r1 r2 r3 r4 r5
      have hbd := fun i => pre_bound l (fun x hx => by
        have := HI.out.2
        rw [List.any_eq_false] at this
        have := this x hx
        simp [wI] at this
        exact this) i
      have HP := Lib.hid hbd
      clear hbd
      go_loopg [7, 8, 34, 35, 36, 37, 38, 39, 40, 41, 42, 43, 44, 45, 46, 47, 48, 49, 50, 51, 52, 53, 54, 55, 56] 10 (fun gk v7 v8 v34 v35 v36 v37 v38 v39 v40 v41 v42 v43 v44 v45 v46 v47 v48 v49 v50 v51 v52 v53 v54 v55 v56 wr => ∃ kk s : Nat, kk + gk = 10 ∧ s = 2 ^ kk ∧ v7 = .int .i64 (s : Int) ∧ Tree wr b (belowF l s) ∧ Below w.heap.size w wr)
      case atStart => exact ⟨0, 1, rfl, rfl, rfl, HL.out.1, HL.out.2.1⟩
      case round =>
        obtain ⟨kk, s, hkg, hs, rfl, ht, hbw⟩ := hrel
        by_cases hk10 : kk < 10
        · have hs512 : s ≤ 512 := by rw [hs]; exact Nat.pow_le_pow_right (n := 2) (i := kk) (j := 9) (by omega) (by omega)
          have hs1 : 1 ≤ s := by rw [hs]; exact Nat.one_le_two_pow
          have hd : decide (s < 1024) = true := decide_eq_true (by omega)
          have HT := Lib.hid (And.intro hs (And.intro ht (And.intro hbw hk10)))
          clear hs ht hbw hk10
          go_wp2_with fail
          obtain ⟨wo, hwo⟩ : ∃ wo : World, wo = wr := ⟨_, rfl⟩
          subst hwo
          obtain ⟨g1, hg1⟩ : ∃ g1 : Nat, g1 = gk := ⟨_, rfl⟩
          subst hg1
          go_loopg [8, 41, 42, 43, 44, 45, 46, 47, 48, 49, 50, 51, 52, 53, 54, 55, 56] (1024 + 1) (fun g2 v8 v41 v42 v43 v44 v45 v46 v47 v48 v49 v50 v51 v52 v53 v54 v55 v56 wr => ∃ i : Nat, i + g2 = 1024 + 2 * s ∧ v8 = .int .i64 (i : Int) ∧ 2 * s ∣ i + 1 ∧ 2 * s ≤ i + 1 ∧ i + 1 ≤ 1024 + 2 * s ∧ Tree wr b (upF l s (i + 1 - 2 * s)) ∧ Below w.heap.size w wr)
          case atStart => exact ⟨2 * s - 1, by omega, by rw [show ((2 * s - 1 : Nat) : Int) = 2 * (s : Int) - 1 by omega], ⟨1, by omega⟩, by omega, by omega, HT.out.2.1.congr (fun i hi => by rw [show 2 * s - 1 + 1 - 2 * s = 0 by omega, upF_zero]), HT.out.2.2.1⟩
          case round =>
            obtain ⟨i, hig, rfl, hdv, hi1, hi2, ht2, hbw2⟩ := hrel
            by_cases hi : i < 1024
            · have hd2 : decide (i < 1024) = true := decide_eq_true hi
              obtain ⟨u1, u2, u3⟩ := up_step l kk i (by rw [← HT.out.1]; exact hdv) (by rw [← HT.out.1]; exact hi1)
              rw [← HT.out.1] at u1 u2 u3
              have c1 := ht2.cell i hi
              have c2 := ht2.cell (i - s) (by omega)
              rw [u1] at c1
              rw [u2] at c2
              have t3 := ht2.set i hi (pre l (i + 1) - pre l (i + 1 - 2 * s))
              have b1 := HP.out (i + 1)
              have b2 := HP.out (i + 1 - s)
              have b3 := HP.out (i + 1 - 2 * s)
              have hi3 : s ≤ i := by omega
              have hx1 : ((i + 1 : Nat) : Int) ≤ 1024 := by omega
              have T4 : Tree (wr.setCell ⟨b, i, none⟩ (.int .i64 (pre l (i + 1) - pre l (i + 1 - 2 * s)))) b (upF l s (i + 1 + 2 * s - 2 * s)) := by
                refine t3.congr (fun j hj => ?_)
                rw [show i + 1 + 2 * s - 2 * s = i + 1 by omega, u3 j]
              have hbw3 : Below w.heap.size w (wr.setCell ⟨b, i, none⟩ (.int .i64 (pre l (i + 1) - pre l (i + 1 - 2 * s)))) := hbw2.setCell HL.out.2.2 _
              have hdv2 : 2 * s ∣ i + 2 * s + 1 := by rw [show i + 2 * s + 1 = i + 1 + 2 * s by omega]; exact Nat.dvd_add hdv (Nat.dvd_refl _)
              generalize hp1 : pre l (i + 1) = p1 at *
              generalize hp2 : pre l (i + 1 - s) = p2 at *
              generalize hp3 : pre l (i + 1 - 2 * s) = p3 at *
              have e1 : p1 - p2 + (p2 - p3) = p1 - p3 := by omega
              have e2 : wrap64 (p1 - p3) = p1 - p3 := wrap64_fit _ (by omega)
              have e3 : IntKind.i64.wrap (p1 - p3) = p1 - p3 := by rw [IntKind.wrap_i64]; omega
              obtain ⟨x1, hxx1⟩ : ∃ x1, p1 - p2 = x1 := ⟨_, rfl⟩
              obtain ⟨x2, hxx2⟩ : ∃ x2, p2 - p3 = x2 := ⟨_, rfl⟩
              obtain ⟨x3, hxx3⟩ : ∃ x3, p1 - p3 = x3 := ⟨_, rfl⟩
              rw [hxx1] at c1 e1
              rw [hxx2] at c2 e1
              rw [hxx3] at T4 hbw3 e1 e2 e3
              obtain ⟨q, hq⟩ : ∃ q, i - s = q := ⟨_, rfl⟩
              rw [hq] at c2
              have hq2 : (i : Int) - (s : Int) = (q : Int) := by omega
              have hq3 : IntKind.i64.wrap (q : Int) = (q : Int) := by rw [IntKind.wrap_i64]; omega
              have hq4 : (q : Int) < 1024 := by omega
              have hi4 : (i : Int) < 1024 := by omega
              obtain ⟨WZ, hWZ⟩ : ∃ WZ, wr.setCell ⟨b, i, none⟩ (.int .i64 x3) = WZ := ⟨_, rfl⟩
              rw [hWZ] at T4 hbw3
              obtain ⟨c11, c12⟩ := c1
              obtain ⟨c21, c22⟩ := c2
              have HZ := Lib.hid (And.intro hWZ (And.intro T4 (And.intro hbw3 hdv2)))
              have HQ := Lib.hid hq
              clear hWZ T4 hbw3 hp1 hp2 hp3 hxx1 hxx2 hxx3 b1 b2 b3 t3 u1 u2 u3 ht2 hbw2 hdv hdv2 hq hx1
              go_wp2_with fail
              go_region
              all_goals
                go_wp2_with fail
                go_roundg (gk - 2 * s)
                case measure => omega
                case rel => exact ⟨i + 2 * s, by omega, by go_num, HZ.out.2.2.2, by omega, by omega, by rw [HZ.out.1, show i + 2 * s + 1 - 2 * s = i + 1 + 2 * s - 2 * s by omega]; exact (HZ.out.2.1).rest (Below.refl _ _).drew, by rw [HZ.out.1]; exact (HZ.out.2.2.1).drew⟩
            · have hd2 : decide (i < 1024) = false := decide_eq_false hi
              have hie := level_end kk i HT.out.2.2.2 (by rw [← HT.out.1]; exact hdv) (by omega) (by rw [← HT.out.1]; exact hi2)
              rw [← HT.out.1] at hie
              have ht3 : Tree wr b (belowF l (2 * s)) := ht2.congr (fun j hj => upF_all l s _ j (by omega))
              have hs2 : 2 * s = 2 ^ (kk + 1) := by rw [Nat.pow_succ, ← HT.out.1]; omega
              have HE := Lib.hid (And.intro ht3 (And.intro hbw2 hs2))
              clear ht2 hbw2 ht3 hs2 hdv hie
              go_wp2_with fail
              go_roundg (g1 - 1)
              case measure => have := HT.out.2.2.2; omega
              case rel => exact ⟨kk + 1, 2 * s, by have := HT.out.2.2.2; omega, HE.out.2.2, by go_num, HE.out.1, HE.out.2.1⟩
        · have hk11 : kk = 10 := by omega
          obtain rfl : s = 1024 := by rw [hs, hk11]
          have hd : decide ((1024 : Nat) < 1024) = false := rfl
          have c1 := ht.cell 1023 (by omega)
          have t3 := (ht.set 1023 (by omega) 0).congr (fun i hi => top_eq l i hi)
          have b3 : Below w.heap.size w (wr.setCell ⟨b, 1023, none⟩ (.int .i64 0)) := hbw.setCell HL.out.2.2 _
          obtain ⟨WY, hWY⟩ : ∃ WY, wr.setCell ⟨b, 1023, none⟩ (.int .i64 0) = WY := ⟨_, rfl⟩
          rw [hWY] at t3 b3
          have HY := Lib.hid (And.intro t3 b3)
          obtain ⟨c11, c12⟩ := c1
          clear hs hk11 ht hbw t3 b3
          go_upto_region 17 with fail
          try rw [hWY]
          clear hWY c11 c12
          go_wp2_with fail
          go_loopg [9, 10, 58, 59, 60, 61, 62, 63, 64, 65, 66, 67, 68, 69, 70, 71, 72, 73, 74, 75, 76, 77, 78, 79, 80, 81, 82, 83, 84, 85, 86, 87, 88] 10 (fun gk v9 v10 v58 v59 v60 v61 v62 v63 v64 v65 v66 v67 v68 v69 v70 v71 v72 v73 v74 v75 v76 v77 v78 v79 v80 v81 v82 v83 v84 v85 v86 v87 v88 wr => ∃ kk s : Nat, (kk = gk ∧ kk ≤ 10) ∧ s = 2 ^ kk ∧ v9 = .int .i64 ((s / 2 : Nat) : Int) ∧ Tree wr b (downF l s) ∧ Below w.heap.size w wr)
          case atStart => exact ⟨10, 1024, ⟨rfl, by omega⟩, rfl, rfl, HY.out.1, HY.out.2⟩
          case round =>
            obtain ⟨kk, s2, hkg, hs, rfl, ht, hbw⟩ := hrel
            by_cases hk0 : kk = 0
            · subst hk0
              obtain rfl : s2 = 1 := hs
              have ht2 := ht.congr (fun i hi => downF_one l i)
              have HE := Lib.hid (And.intro ht2 hbw)
              clear ht ht2 hbw hkg
              go_upto_region 25 with fail
              have hown0 : Own encI 1 3 wr w.heap.size (.slice none 0 0) ([] : List Int) := World.ownsRow_nil _ _ _ _
              go_wp2_with fail
              go_loopg [11, 12, 13, 91, 92, 93, 94, 95, 96, 97, 98, 99, 100, 101, 102, 103, 104] l.length (fun gk v11 v12 v13 v91 v92 v93 v94 v95 v96 v97 v98 v99 v100 v101 v102 v103 v104 wx => ∃ i : Nat, i + gk = l.length ∧ v91 = .int .i64 (i : Int) ∧ (∃ S cs, v11 = .slice S i cs ∧ Own encI 1 3 wx w.heap.size (.slice S i cs) ((sums l).take i)) ∧ Tree wx b (pre l) ∧ Below w.heap.size w wx)
              case atStart => exact ⟨0, by omega, rfl, ⟨_, _, rfl, hown0⟩, HE.out.1, HE.out.2⟩
              case round =>
                obtain ⟨i, hi, rfl, ⟨S, cs, rfl, ho⟩, ht, hbx⟩ := hrel
                by_cases hil : i < l.length
                · have hd1 : decide (i < l.length) = true := decide_eq_true hil
                  obtain ⟨a, rfl, q1⟩ := (HI.out.1.below hbx).int i hil
                  have c1 := ht.cell i (by omega)
                  have hst := sums_take l i hil
                  have hps := pre_succ l i hil
                  have b1 := HP.out i
                  have b2 := HP.out (i + 1)
                  have hap := ht.apart ho
                  have hlen : ((sums l).take i).length = i := by rw [List.length_take, sums_len]; omega
                  have HO := Lib.hid (And.intro ho (And.intro ht (And.intro hbx (And.intro hst (And.intro hap (And.intro hlen (And.intro (show (((sums l).take i).length + 1) * 8 ≤ 140737488355328 by omega) (show w.heap.size ≤ (wr.alloc (.cells #[.int .i64 (pre l (i + 1))] 3)).heap.size by have := hbx.size; simp; omega))))))))
                  generalize hy : pre l (i + 1) = y at *
                  generalize pre l i = x at *
                  generalize l[i] = n at *
                  have e1 : x + n = y := hps.symm
                  have e2 : wrap64 y = y := wrap64_fit _ (by omega)
                  have hi4 : (i : Int) < 1024 := by omega
                  obtain ⟨c11, c12⟩ := c1
                  clear hst hps b1 b2 hap ho ht hbx hy hlen
                  go_wp2_with (at_builtin; refine wpList_append_typed lenI oneI _ rfl (.tmp 96) (.tmp 102) 44 rfl w.heap.size 3 (.int .i64 0) 8 Try.underlying44 info3 rfl (by decide) (by decide) _ ((sums l).take i) rfl (HO.out.1.rest ((Below.refl _ _).alloc (Nat.le_refl _) _)) ⟨wr.heap.size, 0, none⟩ 1 1 [y] rfl rfl (rd_litI _ _ _ _ rfl) HO.out.2.2.2.2.2.2.1 HO.out.2.2.2.2.2.2.2 ?_; intro v' w1 hown hgrow)
                  have HG := Lib.hid (And.intro hown hgrow)
                  clear hown hgrow
                  go_wp2_with fail
                  have hal : Below wr.heap.size wr (wr.alloc (.cells #[.int .i64 y] 3)) := (Below.refl _ _).alloc (Nat.le_refl _) _
                  have hq1 := HO.out.2.1.rest hal
                  have hq2 := HO.out.2.2.1.trans (hal.mono HO.out.2.2.1.size)
                  go_roundg (gk - 1)
                  case measure => omega
                  case rel =>
                    obtain ⟨S', c', rfl, _, _, _⟩ := HG.out.1.form lenI
                    have ho2 := HG.out.1
                    rw [List.length_append, HO.out.2.2.2.2.2.1, ← HO.out.2.2.2.1] at ho2
                    refine ⟨i + 1, by omega, by go_num, ⟨S', c', ?_, ho2⟩, hq1.grown HG.out.2 (hq1.apart (HO.out.1.rest hal)), hq2.grown HG.out.2 hq2.size (fun k hk => (HO.out.1.blk k hk).1)⟩
                    rw [List.length_append, HO.out.2.2.2.2.2.1]
                    rfl
                · have hd1 : decide (i < l.length) = false := decide_eq_false hil
                  have him : i = l.length := by omega
                  subst him
                  have ho2 := ho
                  rw [List.take_of_length_le (by rw [sums_len]; omega)] at ho2
                  have HF := Lib.hid (And.intro ho2 hbx)
                  clear ho ho2 hbx ht
                  go_wp2_with fail
                  refine bodyPost_ret (by simp [results, Try.results19, go_sem]; try rfl) rfl ?_
                  exact ⟨_, by rw [HR.out], HF.out.1, HF.out.2⟩
            · obtain ⟨k1, rfl⟩ : ∃ k1, kk = k1 + 1 := ⟨kk - 1, by omega⟩
              obtain ⟨s, hs'⟩ : ∃ s, s = 2 ^ k1 := ⟨_, rfl⟩
              have hs2 : s2 = 2 * s := by rw [hs, hs', Nat.pow_succ]; omega
              subst hs2
              have hhalf : 2 * s / 2 = s := by omega
              rw [hhalf]
              have hk10 : k1 < 10 := by omega
              have hs512 : s ≤ 512 := by rw [hs']; exact Nat.pow_le_pow_right (n := 2) (i := k1) (j := 9) (by omega) (by omega)
              have hs1 : 1 ≤ s := by rw [hs']; exact Nat.one_le_two_pow
              have HT := Lib.hid (And.intro hs' (And.intro ht (And.intro hbw (And.intro hk10 hkg))))
              have hd : decide ((s : Int) > 0) = true := decide_eq_true (by omega)
              obtain ⟨t, htq⟩ : ∃ t, s / 2 = t := ⟨_, rfl⟩
              have hdv2 : (s : Int) / 2 = (t : Int) := by omega
              have hdv3 : (s : Int).tdiv 2 = (t : Int) := by rw [Int.tdiv_eq_ediv_of_nonneg (by omega)]; omega
              have htb : t ≤ 512 := by omega
              have HQ2 := Lib.hid htq
              clear htq
              clear hs hs' ht hbw hhalf hk10 hkg hk0
              go_wp2_with fail
              obtain ⟨wo, hwo⟩ : ∃ wo : World, wo = wr := ⟨_, rfl⟩
              subst hwo
              obtain ⟨g1, hg1⟩ : ∃ g1 : Nat, g1 = gk := ⟨_, rfl⟩
              subst hg1
              go_loopg [10, 65, 66, 67, 68, 69, 70, 71, 72, 73, 74, 75, 76, 77, 78, 79, 80, 81, 82, 83, 84, 85, 86, 87, 88] (1024 + 1) (fun gk v10 v65 v66 v67 v68 v69 v70 v71 v72 v73 v74 v75 v76 v77 v78 v79 v80 v81 v82 v83 v84 v85 v86 v87 v88 wr => ∃ i : Nat, i + gk = 1024 + 2 * s ∧ v10 = .int .i64 (i : Int) ∧ 2 * s ∣ i + 1 ∧ 2 * s ≤ i + 1 ∧ i + 1 ≤ 1024 + 2 * s ∧ Tree wr b (dnF l s (i + 1 - 2 * s)) ∧ Below w.heap.size w wr)
              case atStart => exact ⟨2 * s - 1, by omega, by rw [show ((2 * s - 1 : Nat) : Int) = 2 * (s : Int) - 1 by omega], ⟨1, by omega⟩, by omega, by omega, HT.out.2.1.congr (fun i hi => by rw [show 2 * s - 1 + 1 - 2 * s = 0 by omega, dnF_zero]), HT.out.2.2.1⟩
              case round =>
                obtain ⟨i, hig, rfl, hdv, hi1, hi2, ht2, hbw2⟩ := hrel
                by_cases hi : i < 1024
                · have hd2 : decide (i < 1024) = true := decide_eq_true hi
                  obtain ⟨u1, u2, u3⟩ := dn_step l k1 i (by rw [← HT.out.1]; exact hdv) (by rw [← HT.out.1]; exact hi1)
                  rw [← HT.out.1] at u1 u2 u3
                  have c1 := ht2.cell i hi
                  have c2 := ht2.cell (i - s) (by omega)
                  rw [u1] at c1
                  rw [u2] at c2
                  have hi3 : s ≤ i := by omega
                  have t3 := (ht2.set (i - s) (by omega) (pre l (i + 1 - 2 * s))).set i hi (pre l (i + 1 - s))
                  have b1 := HP.out (i + 1)
                  have b2 := HP.out (i + 1 - s)
                  have b3 := HP.out (i + 1 - 2 * s)
                  have T4 := t3.congr (g := dnF l s (i + 1 + 2 * s - 2 * s)) (fun j hj => by rw [show i + 1 + 2 * s - 2 * s = i + 1 by omega, u3 j])
                  have hbw3 : Below w.heap.size w ((wr.setCell ⟨b, i - s, none⟩ (.int .i64 (pre l (i + 1 - 2 * s)))).setCell ⟨b, i, none⟩ (.int .i64 (pre l (i + 1 - s)))) := (hbw2.setCell HL.out.2.2 _).setCell HL.out.2.2 _
                  have hdv3 : 2 * s ∣ i + 2 * s + 1 := by rw [show i + 2 * s + 1 = i + 1 + 2 * s by omega]; exact Nat.dvd_add hdv (Nat.dvd_refl _)
                  generalize hp1 : pre l (i + 1) = p1 at *
                  generalize hp2 : pre l (i + 1 - s) = p2 at *
                  generalize hp3 : pre l (i + 1 - 2 * s) = p3 at *
                  obtain ⟨x2, hxx2⟩ : ∃ x2, p2 - p3 = x2 := ⟨_, rfl⟩
                  have e1 : p3 + x2 = p2 := by omega
                  have e2 : wrap64 p2 = p2 := wrap64_fit _ (by omega)
                  have e3 : IntKind.i64.wrap p2 = p2 := by rw [IntKind.wrap_i64]; omega
                  rw [hxx2] at c2
                  obtain ⟨q, hq⟩ : ∃ q, i - s = q := ⟨_, rfl⟩
                  rw [hq] at c2 T4 hbw3
                  have hq2 : (i : Int) - (s : Int) = (q : Int) := by omega
                  have hq3 : IntKind.i64.wrap (q : Int) = (q : Int) := by rw [IntKind.wrap_i64]; omega
                  have hq4 : (q : Int) < 1024 := by omega
                  have hi4 : (i : Int) < 1024 := by omega
                  have hqi : q ≠ i := by omega
                  obtain ⟨WX, hWX⟩ : ∃ WX, wr.setCell ⟨b, q, none⟩ (.int .i64 p3) = WX := ⟨_, rfl⟩
                  obtain ⟨WZ, hWZ⟩ : ∃ WZ, WX.setCell ⟨b, i, none⟩ (.int .i64 p2) = WZ := ⟨_, rfl⟩
                  rw [hWX, hWZ] at T4 hbw3
                  obtain ⟨c11, c12⟩ := c1
                  obtain ⟨c21, c22⟩ := c2
                  have HZ := Lib.hid (And.intro hWX (And.intro hWZ (And.intro T4 (And.intro hbw3 hdv3))))
                  have HQ := Lib.hid hq
                  clear hWX hWZ T4 hbw3 hp1 hp2 hp3 hxx2 b1 b2 b3 t3 u1 u2 u3 ht2 hbw2 hdv hdv3 hq
                  go_wp2_with fail
                  go_region
                  all_goals
                    go_wp2_with fail
                    go_roundg (gk - 2 * s)
                    case measure => omega
                    case rel => exact ⟨i + 2 * s, by omega, by go_num, HZ.out.2.2.2.2, by omega, by omega, by rw [HZ.out.1, HZ.out.2.1, show i + 2 * s + 1 - 2 * s = i + 1 + 2 * s - 2 * s by omega]; exact (HZ.out.2.2.1).rest (Below.refl _ _).drew, by rw [HZ.out.1, HZ.out.2.1]; exact (HZ.out.2.2.2.1).drew⟩
                · have hd2 : decide (i < 1024) = false := decide_eq_false hi
                  have hie := level_end k1 i HT.out.2.2.2.1 (by rw [← HT.out.1]; exact hdv) (by omega) (by rw [← HT.out.1]; exact hi2)
                  rw [← HT.out.1] at hie
                  have ht3 : Tree wr b (downF l s) := ht2.congr (fun j hj => dnF_all l s _ j (by omega))
                  have HE := Lib.hid (And.intro ht3 hbw2)
                  clear ht2 hbw2 ht3 hdv hie
                  go_wp2_with fail
                  go_roundg (g1 - 1)
                  case measure => have := HT.out.2.2.2.2; omega
                  case rel => exact ⟨k1, s, ⟨by have := HT.out.2.2.2.2; omega, by have := HT.out.2.2.2.2; omega⟩, HT.out.1, by rw [HQ2.out], HE.out.1, HE.out.2⟩

theorem PreP.err {code : Int} {w w' : World} (h : Below w.heap.size w w') : PreP [] 0 code w (.returned (.tuple #[.slice none 0 0, .int .i64 0, .int .i64 code])) w' :=
  ⟨_, rfl, World.ownsRow_nil _ _ _ _, h⟩
theorem prefix_err410 (ll c : Nat) (hl : 1024 < ll) (hm : ll ≤ maxLen) (A : Option Addr) (w : World) :
    Calls Try.prog 19 #[.slice A ll c] w (PreP [] 0 410 w) := by
  unfold maxLen at hm
  go_enter Try.func19, Try.ntmps19
  go_wp2_with fail
  refine bodyPost_ret (by simp [results, Try.results19, go_sem]; try rfl) rfl ?_
  exact PreP.err (Below.refl _ _)
theorem prefix_err1 (l : List Int) (hl : l.length ≤ 1024) (hv : l.any (fun n => !wI 1000000000000 n) = true) (A : Option Addr) (c : Nat) (w : World) (hA : Rd encI 1 w A l) :
    Calls Try.prog 19 #[.slice A l.length c] w (PreP [] 0 1 w) := by
  have h1 := containsFuncI_calls (fun n => !wI 1000000000000 n) 42 #[] A l c w hA f42 (fun x w1 hb1 => by
    have h := out3_calls x w1
    exact h.mono (fun e w2 ⟨e1, e2⟩ => ⟨e1, e2 ▸ Below.refl _ _⟩))
  rw [hv] at h1
  have H1 := Lib.hid h1
  have hsm := hA.small
  clear h1 hA hv
  go_enter Try.func19, Try.ntmps19
  go_wp2_with ((with_reducible refine (H1.out).mono ?_); rintro e w1 ⟨rfl, hb1⟩)
  refine bodyPost_ret (by simp [results, Try.results19, go_sem]; try rfl) rfl ?_
  exact PreP.err hb1
/-- the code of a prefix, its sums and its rounds -/
def preC (l : List Int) : Int := if 1024 < l.length then 410 else if l.any (fun n => !wI 1000000000000 n) = true then 1 else 0
def preO (l : List Int) : List Int := if preC l = 0 then sums l else []
def preK (l : List Int) : Int := if preC l = 0 then (rdF l.length : Int) else 0
theorem prefix_calls (l : List Int) (A : Option Addr) (c : Nat) (w : World) (hA : Rd encI 1 w A l) :
    Calls Try.prog 19 #[.slice A l.length c] w (PreP (preO l) (preK l) (preC l) w) := by
  by_cases h1 : 1024 < l.length
  · have hc : preC l = 410 := by unfold preC; rw [if_pos h1]
    unfold preO preK
    rw [hc]
    exact prefix_err410 _ _ h1 hA.small _ _
  · by_cases h2 : l.any (fun n => !wI 1000000000000 n) = true
    · have hc : preC l = 1 := by unfold preC; rw [if_neg h1, if_pos h2]
      unfold preO preK
      rw [hc]
      exact prefix_err1 l (by omega) h2 A c w hA
    · have hc : preC l = 0 := by unfold preC; rw [if_neg h1, if_neg h2]
      unfold preO preK
      rw [hc, if_pos rfl, if_pos rfl]
      exact prefix_ok l (by omega) (Bool.eq_false_iff.2 h2) A c w hA
end Go.Proofs.Ythccnaemocdcbaa
