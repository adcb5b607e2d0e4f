import Derived.Test.YthccnaemocdcbaaZ
import Derived.Test.YthccnaemocdcbaaW
import Derived.Test.YthccnaemocdcbaaAA
import Derived.Outline
namespace Go.Proofs.Ythccnaemocdcbaa
open Go.RowKit Go.Maps Go.WideMaps
set_option maxHeartbeats 4000000
set_option maxRecDepth 100000
set_option linter.unusedSimpArgs false
set_option linter.unusedVariables false

/-! ### the reference's Prefix -/
theorem badP (x : Int) : (!wI 1000000000000 x) = (decide (x < -1000000000000) || decide (1000000000000 < x)) := by
  unfold wI
  by_cases h1 : -1000000000000 ≤ x <;> by_cases h2 : x ≤ 1000000000000 <;> simp [h1, h2] <;> omega
theorem rprefix_err410 (ll c : Nat) (hl : 1024 < ll) (hm : ll ≤ maxLen) (A : Option Addr) (w : World) :
    Calls Try.prog 20 #[.slice A ll c] w (PreP [] 0 410 w) := by
  unfold maxLen at hm
  go_enter Try.func20, Try.ntmps20
  go_wp2_with fail
  refine bodyPost_ret (by simp [results, Try.results20, go_sem]; try rfl) rfl ?_
  exact PreP.err (Below.refl _ _)
theorem rprefix_calls (l : List Int) (A : Option Addr) (c : Nat) (w : World) (hA : Rd encI 1 w A l) :
    Calls Try.prog 20 #[.slice A l.length c] w (PreP (preO l) (preK l) (preC l) w) := by
  by_cases h1 : 1024 < l.length
  · have hc : preC l = 410 := by unfold preC; rw [if_pos h1]
    unfold preO preK
    rw [hc]
    exact rprefix_err410 _ _ h1 hA.small _ _
  · have hsm := hA.small
    have hl : l.length ≤ 1024 := by omega
    have HI := Lib.hid hA
    clear hA h1
    go_enter Try.func20, Try.ntmps20
    go_wp2_with fail
    go_loop [2, 3, 4, 5, 14, 15, 16, 17, 18, 19, 20, 21, 22, 23, 24, 25, 26, 27, 28, 29, 30, 31] (fun v2 v3 v4 v5 v14 v15 v16 v17 v18 v19 v20 v21 v22 v23 v24 v25 v26 v27 v28 v29 v30 v31 => ∃ i : Nat, i ≤ l.length ∧ v5 = .int .i64 (i : Int) ∧ (∀ j (h : j < i) (h' : j < l.length), (!wI 1000000000000 l[j]) = false)) (fun _ _ _ v5 _ _ _ _ _ _ _ _ _ _ _ _ _ _ _ _ _ _ => l.length - (intOf v5).toNat)
    case atStart => exact ⟨0, by omega, rfl, fun j hj => by omega⟩
    case round =>
      obtain ⟨i, hi, rfl, hall⟩ := hrel
      by_cases hil : i < l.length
      · have hd : decide (i < l.length) = true := decide_eq_true hil
        obtain ⟨a, rfl, q1⟩ := HI.out.int i hil
        have hb := badP l[i]
        have hany : (!wI 1000000000000 l[i]) = true → preC l = 1 := by
          intro h
          unfold preC
          rw [if_neg (by omega), if_pos]
          rw [List.any_eq_true]
          exact ⟨_, List.getElem_mem hil, h⟩
        have HH := Lib.hid (And.intro hall hany)
        have HB := Lib.hid hb
        generalize hx : l[i] = x at *
        clear hb hall hany
        have HX := Lib.hid hx
        clear hx
        by_cases h1 : x < -1000000000000
        · have hC : preC l = 1 := HH.out.2 (by rw [HB.out, decide_eq_true h1]; rfl)
          unfold preO preK
          rw [hC]
          clear hC
          go_wp2_with fail
          refine bodyPost_ret (by simp [results, Try.results20, go_sem]; try rfl) rfl ?_
          exact PreP.err (Below.refl _ _)
        · by_cases h2 : 1000000000000 < x
          · have hC : preC l = 1 := HH.out.2 (by rw [HB.out, decide_eq_true h2]; simp)
            unfold preO preK
            rw [hC]
            clear hC
            go_wp2_with fail
            refine bodyPost_ret (by simp [results, Try.results20, go_sem]; try rfl) rfl ?_
            exact PreP.err (Below.refl _ _)
          · go_wp2_with fail
            go_round
            case rel => exact ⟨i + 1, by omega, by go_num, fun j h h' => by
              by_cases e : j = i
              · subst e; rw [HX.out, HB.out, decide_eq_false h1, decide_eq_false h2]; rfl
              · exact HH.out.1 j (by omega) h'⟩
            case measure => simp [intOf]; omega
      · have hd : decide (i < l.length) = false := decide_eq_false hil
        have hC : preC l = 0 := by
          unfold preC
          rw [if_neg (by omega), if_neg]
          rw [Bool.not_eq_true, List.any_eq_false]
          intro x hx
          obtain ⟨j, hj, rfl⟩ := List.mem_iff_getElem.1 hx
          rw [hall j (by omega) hj]
          decide
        have hin : ∀ x ∈ l, -1000000000000 ≤ x ∧ x ≤ 1000000000000 := by
          intro x hx
          obtain ⟨j, hj, rfl⟩ := List.mem_iff_getElem.1 hx
          have := hall j (by omega) hj
          rw [badP] at this
          simp at this
          omega
        have HC := Lib.hid (And.intro hC (And.intro (show preO l = sums l by unfold preO; rw [hC, if_pos rfl]) (show preK l = (rdF l.length : Int) by unfold preK; rw [hC, if_pos rfl])))
        have HP := Lib.hid (pre_bound l hin)
        clear hC hin hall
        have hn10 : l.length ≤ 2 ^ 10 := by simpa using hl
        have HN := Lib.hid hn10
        have hown0 : Own encI 1 3 w w.heap.size (.slice none 0 0) ([] : List Int) := World.ownsRow_nil _ _ _ _
        clear hn10
        go_wp2_with fail
        go_loopg [6, 7, 8, 32, 33, 34, 35, 36, 37, 38, 39, 40, 41, 42, 43, 44, 45, 46, 47] l.length (fun gk v6 v7 v8 v32 v33 v34 v35 v36 v37 v38 v39 v40 v41 v42 v43 v44 v45 v46 v47 wx => ∃ i : Nat, i + gk = l.length ∧ v8 = .int .i64 (i : Int) ∧ v7 = .int .i64 (pre l i) ∧ (∃ S cs, v6 = .slice S i cs ∧ Own encI 1 3 wx w.heap.size (.slice S i cs) ((sums l).take i)) ∧ Below w.heap.size w wx)
        case atStart => exact ⟨0, by omega, rfl, by rw [pre_zero], ⟨_, _, rfl, hown0⟩, Below.refl _ _⟩
        case round =>
          obtain ⟨i, hi, rfl, rfl, ⟨S, cs, rfl, ho⟩, hbx⟩ := hrel
          by_cases hil : i < l.length
          · have hd : decide (i < l.length) = true := decide_eq_true hil
            obtain ⟨a, rfl, q1⟩ := (HI.out.below hbx).int i hil
            have hst := sums_take l i hil
            have hps := pre_succ l i hil
            have b2 := HP.out (i + 1)
            have hlen : ((sums l).take i).length = i := by rw [List.length_take, sums_len]; omega
            have HO := Lib.hid (And.intro ho (And.intro hbx (And.intro hst (And.intro hlen (show (i + 1) * 8 ≤ 140737488355328 by omega)))))
            generalize hy : pre l (i + 1) = y at *
            generalize pre l i = x at *
            generalize l[i] = n at *
            have e1 : x + n = y := hps.symm
            have e2 : wrap64 y = y := wrap64_fit _ (by omega)
            have HY := Lib.hid hy
            clear hst hps b2 ho hbx hy hlen
            go_wp2_with (at_builtin; refine wpList_append_told lenI oneI _ rfl (.tmp 44) (.tmp 46) 44 rfl w.heap.size 3 (.int .i64 0) 8 Try.underlying44 info3 rfl (by decide) (by decide) _ _ i HO.out.2.2.2.1 rfl (HO.out.1.rest ((Below.refl _ _).alloc (Nat.le_refl _) _)) ⟨wr.heap.size, 0, none⟩ 1 1 [y] rfl rfl (by decide) (rd_litI _ _ _ _ rfl) HO.out.2.2.2.2 (Nat.le_trans HO.out.2.1.size (by simp)) ?_; intro g1 cap1 w1 hown hgr hl1; have HG := Lib.hid (And.intro hown hgr); clear hown hgr hl1)
            have hal : Below wr.heap.size wr (wr.alloc (.cells #[.int .i64 y] 3)) := (Below.refl _ _).alloc (Nat.le_refl _) _
            have hq2 := HO.out.2.1.trans (hal.mono HO.out.2.1.size)
            go_roundg (gk - 1)
            case measure => omega
            case rel =>
              refine ⟨i + 1, by omega, by go_num, by rw [HY.out], ⟨_, _, rfl, ?_⟩, hq2.grown HG.out.2 hq2.size (fun k hk => (HO.out.1.blk k hk).1)⟩
              rw [HO.out.2.2.1]
              exact HG.out.1
          · have hd : decide (i < l.length) = false := decide_eq_false hil
            obtain rfl : i = l.length := by omega
            rw [List.take_of_length_le (by rw [sums_len]; omega)] at ho
            have HO := Lib.hid (And.intro ho hbx)
            clear ho hbx
            go_upto_region 16 with fail
            go_loop [9, 10, 48, 49, 50, 51, 52, 53, 54, 55] (fun v9 v10 v48 v49 v50 v51 v52 v53 v54 v55 => ∃ k p : Nat, k ≤ 10 ∧ p = 2 ^ k ∧ v9 = .int .i64 (k : Int) ∧ v10 = .int .i64 (p : Int) ∧ (∀ j, j < k → ¬ l.length ≤ 2 ^ j)) (fun v9 _ _ _ _ _ _ _ _ _ => 10 - (intOf v9).toNat)
            case atStart => exact ⟨0, 1, by omega, rfl, rfl, rfl, fun j hj => by omega⟩
            case round =>
              obtain ⟨k, p, hk, hp, rfl, rfl, hall⟩ := hrel
              have hp1 : p ≤ 2 ^ 10 := by rw [hp]; exact Nat.pow_le_pow_right (by omega) hk
              have hp2 : p ≤ 1024 := by simpa using hp1
              by_cases hlt : p < l.length
              · have hk10 : k < 10 := by
                  by_cases e : k = 10
                  · subst e; have := HN.out; omega
                  · omega
                have HA := Lib.hid (And.intro hall hp)
                have hd : decide (p < l.length) = true := decide_eq_true hlt
                clear hall hp hp1
                go_wp2_with fail
                go_round
                case rel => exact ⟨k + 1, 2 * p, by omega, by rw [HA.out.2, Nat.pow_succ]; omega, by go_num, by go_num, fun j hj => by
                  by_cases e : j = k
                  · subst e; have := HA.out.2; omega
                  · exact HA.out.1 j (by omega)⟩
                case measure => simp [intOf]; omega
              · have hrd := rdF_at l.length k (by omega) (by omega) hall
                have HR := Lib.hid hrd
                have hd : decide (p < l.length) = false := decide_eq_false hlt
                clear hall hrd hp hp1
                go_wp2_with fail
                refine bodyPost_ret (by simp [results, Try.results20, go_sem]; try rfl) rfl ?_
                rw [HC.out.1, HC.out.2.1, HC.out.2.2]
                exact ⟨_, by rw [HR.out], HO.out.1, HO.out.2⟩
end Go.Proofs.Ythccnaemocdcbaa
