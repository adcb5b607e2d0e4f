import Derived.Test.YthccnaemocdcbaaS
import Derived.Maps.AppendAt
namespace Go.Proofs.Ythccnaemocdcbaa
open Go.RowKit
set_option maxHeartbeats 2000000
set_option maxRecDepth 100000
set_option linter.unusedSimpArgs false
set_option linter.unusedVariables false

theorem info3 : (Try.prog.info? 3).map (fun i => (i.zero, i.size, i.bytes)) = some (some (.int .i64 0), 1, 8) := by kernel_rfl

theorem ints_calls (xs : List Int) (A A' : Option Addr) (c c' : Nat) (w : World) (h : Rd encI 1 w A xs) (h' : Rd encI 1 w A' xs) :
    Calls Try.prog 18 #[.slice A xs.length c, .slice A' xs.length c'] w fun e w' => e = .returned (.bool true) ∧ Below w.heap.size w w' := by
  have hl := h.small
  have HR := Lib.hid (And.intro h h')
  clear h h'
  generalize hn : xs.length = n at *
  have HN := Lib.hid hn
  clear hn
  go_enter Try.func18, Try.ntmps18
  go_wp2_with fail
  go_loopg [5, 11, 12, 13, 14, 15, 16, 17, 18, 19, 20, 21, 22, 23, 24, 25] n (fun gk v5 v11 v12 v13 v14 v15 v16 v17 v18 v19 v20 v21 v22 v23 v24 v25 wx => ∃ j : Nat, j + gk = n ∧ v5 = .int .i64 (j : Int) ∧ Below w.heap.size w wx)
  case atStart => exact ⟨0, by omega, rfl, Below.refl _ _⟩
  case round =>
    obtain ⟨j, hj, rfl, hbx⟩ := hrel
    by_cases hjn : j < n
    · have hb1 : decide (j < n) = true := decide_eq_true hjn
      have hjz : j < xs.length := by rw [HN.out]; exact hjn
      obtain ⟨a, rfl, q1⟩ := (HR.out.1.below hbx).int j hjz
      obtain ⟨a', rfl, q2⟩ := (HR.out.2.below hbx).int j hjz
      generalize xs[j] = x at q1 q2
      have HB := Lib.hid hbx
      clear hbx
      go_upto_region 6 with fail
      go_quiet (fail)
      go_wp2_with fail
      go_roundg (gk - 1)
      case measure => omega
      case rel => exact ⟨j + 1, by omega, by go_num, drewN_below HB.out nq⟩
    · have hb1 : decide (j < n) = false := decide_eq_false hjn
      have HBX := Lib.hid hbx
      clear hbx
      go_wp2_with fail
      go_ret
      exact ⟨rfl, HBX.out⟩

theorem clone43_calls (A : Option Addr) (xs : List Int) (c : Nat) (w : World) (hx : Rd encI 1 w A xs) (hb : xs.length ≤ 1000000) :
    Calls Try.prog 43 #[.slice A xs.length c] w (ClonePost encI 1 3 xs w) := by
  cases A with
  | none =>
    obtain rfl := hx.none
    have heq := fun (w : World) => Lib.run_eql_slice_nil (P := Try.prog) w 44 3 none 0 c 0 0 Try.underlying44
    clear hx
    go_enter Try.func43, Try.ntmps43
    go_wp2
    go_ret
    exact ⟨_, rfl, World.ownsRow_nil _ _ _ _, Below.refl _ _⟩
  | some a =>
    have heq := fun (w : World) => Lib.run_eql_slice_nil (P := Try.prog) w 44 3 (some a) xs.length c 0 0 Try.underlying44
    have hb0 : Below w.heap.size w (w.alloc (.cells #[] 3)) := (Below.refl _ _).alloc (Nat.le_refl _) _
    have HX := Lib.hid (And.intro hx hb0)
    have HB := Lib.hid hb
    clear hx hb0 hb
    go_enter Try.func43, Try.ntmps43
    go_wp2_with (at_builtin; refine wpList_append_typed lenI oneI _ rfl (.tmp 5) (.tmp 6) 44 rfl w.heap.size 3 (.int .i64 0) 8 Try.underlying44 info3 rfl (by decide) (by decide) _ [] rfl (Own.empty _ _ _ _ _ (Nat.le_refl _)) a xs.length c xs rfl rfl (HX.out.1.below HX.out.2) (by have := HB.out; simp; omega) (by simp) ?_; intro v' w1 hown hgrow)
    rw [List.nil_append] at hown
    have HO := Lib.hid (And.intro hown hgrow)
    clear hown hgrow
    go_wp2
    go_ret
    exact ⟨_, rfl, HO.out.1, HX.out.2.grown HO.out.2 (by simp) (fun k hk => Nat.le_of_eq (Option.some.inj hk))⟩

/-- the reference's part of an index -/
theorem rpart_calls (n i p : Nat) (hn : n ≤ 1024) (hi : i < n) (hp : 1 ≤ p) (hp16 : p ≤ 16) (w : World) :
    Calls Try.prog 41 #[.int .i64 i, .int .i64 n, .int .i64 p] w fun e w' => e = .returned (.int .i64 ((ptF n i p : Nat) : Int)) ∧ Below w.heap.size w w' := by
  have HI := Lib.hid (And.intro hi (And.intro hp hn))
  have hp0 : (p : Int) ≠ 0 := by omega
  clear hi hp hn
  go_enter Try.func41, Try.ntmps41
  go_wp2_with fail
  go_loopg [7, 8, 9, 10, 11, 12, 13, 14, 15, 16, 17, 18, 19, 20, 21] p (fun gk v7 v8 v9 v10 v11 v12 v13 v14 v15 v16 v17 v18 v19 v20 v21 wr => ∃ k : Nat, k + gk = p ∧ v7 = .int .i64 (k : Int) ∧ (∀ j, j < k → ¬ i < (j + 1) * n / p) ∧ Below w.heap.size w wr)
  case atStart => exact ⟨0, by omega, rfl, fun j hj => by omega, Below.refl _ _⟩
  case round =>
    obtain ⟨k, hk, rfl, hall, hbl⟩ := hrel
    by_cases hkp : k < p
    · have hb1 : decide (k < p) = true := decide_eq_true hkp
      obtain ⟨P, P1, Q, Q1, hQ, hQ1, w1, w2, w3, w4⟩ := part_facts n k p HI.out.2.2 (by omega)
      have HA := Lib.hid (And.intro hall hbl)
      clear hall hbl
      by_cases hto : i < (k + 1) * n / p
      · have HT := Lib.hid hto
        rw [hQ1] at hto
        clear hQ hQ1
        have hd2 : decide ((i : Int) < (Q1 : Int)) = true := decide_eq_true (by omega)
        go_wp2_with fail
        go_ret
        exact ⟨by rw [ptF_at n i p k hkp HT.out HA.out.1]; rfl, HA.out.2⟩
      · have HT := Lib.hid hto
        rw [hQ1] at hto
        clear hQ hQ1
        have hd2 : decide ((i : Int) < (Q1 : Int)) = false := decide_eq_false (by omega)
        go_wp2_with fail
        go_roundg (gk - 1)
        case measure => omega
        case rel => exact ⟨k + 1, by omega, by go_num, fun j hj => by
          by_cases e : j = k
          · subst e; exact HT.out
          · exact HA.out.1 j (by omega), HA.out.2⟩
    · exact absurd (part_last n i p HI.out.1 HI.out.2.1 (fun j hj => hall j (by omega))) id
end Go.Proofs.Ythccnaemocdcbaa
