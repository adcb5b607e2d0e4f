import Derived.Test.YthebembnlmddoaaT
namespace Go.Proofs.Ythebembnlmddoaa
open Go.RowKit
set_option maxHeartbeats 8000000
set_option maxRecDepth 100000
set_option linter.unusedSimpArgs false
set_option linter.unusedVariables false

/-! ### Index, Contains, IndexFunc, ContainsFunc of numbers -/
theorem index_calls (xs : List Int) (y : Int) (A : Option Addr) (c : Nat) (w : World) (hx : Rd encI 1 w A xs) :
    Calls Try.prog 32 #[.slice A xs.length c, .int .i64 y] w fun e w' => e = .returned (.int .i64 (idxF (fun x => decide (y = x)) xs)) ∧ w' = w := by
  have hl := hx.small
  have HX := Lib.hid hx
  clear hx
  go_enter Try.func32, Try.ntmps32
  go_wp2_with fail
  go_loopg [4, 5, 8, 9, 10, 11, 12, 13, 14, 15, 16, 17, 18] xs.length (fun gk v4 v5 v8 v9 v10 v11 v12 v13 v14 v15 v16 v17 v18 wr => ∃ k : Nat, k + gk = xs.length ∧ v8 = .int .i64 (k : Int) ∧ v4 = .int .i64 0 ∧ (∀ j (h : j < k) (h' : j < xs.length), decide (y = xs[j]) = false) ∧ wr = w)
  case atStart => exact ⟨0, by omega, rfl, rfl, fun j hj => by omega, rfl⟩
  case round =>
    obtain ⟨k, hk, rfl, rfl, hall, rfl⟩ := hrel
    by_cases hlt : k < xs.length
    · have hd : decide (k < xs.length) = true := decide_eq_true hlt
      obtain ⟨a, rfl, hca⟩ := HX.out.int k hlt
      have HL := Lib.hid hall
      clear hall
      by_cases he : y = xs[k]
      · have hb : (y == xs[k]) = true := by simpa using he
        have HE := Lib.hid (decide_eq_true he)
        clear he
        generalize hx : xs[k] = x at *
        have HXX := Lib.hid hx
        clear hx
        go_wp2_with fail
        go_ret
        exact ⟨ret_int (idxF_at _ xs k hlt (by rw [HXX.out]; exact HE.out) (fun j h => HL.out j h (by omega))).symm, rfl⟩
      · have hb : (y == xs[k]) = false := by simpa using he
        have HE := Lib.hid (decide_eq_false he)
        clear he
        generalize hx : xs[k] = x at *
        have HXX := Lib.hid hx
        clear hx
        go_wp2_with fail
        go_roundg (gk - 1)
        case measure => omega
        case rel => exact ⟨k + 1, by omega, by go_num, rfl, fun j hj hj' => by
          by_cases e : j = k
          · subst e; rw [HXX.out]; exact HE.out
          · exact HL.out j (by omega) hj', rfl⟩
    · have hd : decide (k < xs.length) = false := decide_eq_false hlt
      have HL := Lib.hid hall
      clear hall
      go_wp2_with fail
      go_ret
      exact ⟨ret_int (idxF_none _ xs (fun j h => HL.out j (by omega) h)).symm, rfl⟩
theorem contains_calls (xs : List Int) (y : Int) (A : Option Addr) (c : Nat) (w : World) (hx : Rd encI 1 w A xs) :
    Calls Try.prog 31 #[.slice A xs.length c, .int .i64 y] w fun e w' => e = .returned (.bool (xs.any (fun x => decide (y = x)))) ∧ w' = w := by
  have h1 := index_calls xs y A c w hx
  have H1 := Lib.hid h1
  have HA := Lib.hid (idxF_any (fun x => decide (y = x)) xs)
  clear h1 hx
  go_enter Try.func31, Try.ntmps31
  go_wp2_with fail
  (with_reducible refine (H1.out).mono ?_); rintro e w2 ⟨rfl, rfl⟩
  generalize idxF (fun x => decide (y = x)) xs = ix at *
  have ha := HA.out
  clear HA H1
  go_wp2_with fail
  go_ret
  exact ⟨rfl, rfl⟩
/-- IndexFunc of places by a closure -/
theorem indexFunc_calls (p : Nat → Bool) (fid : Nat) (cap : Array Value) (xs : List Nat) (A : Option Addr) (c : Nat) (w : World) (hx : Rd encN 1 w A xs)
    (hf : ∀ (args : Array Value) (w : World), (callFunc fid args).run Try.prog w = .ok (.enter fid args) w)
    (hp : ∀ k (h : k < xs.length) w1, Below w.heap.size w w1 → Calls Try.prog fid (#[.int .i64 (xs[k] : Int)] ++ cap) w1 fun e w' => e = .returned (.bool (p xs[k])) ∧ Below w1.heap.size w1 w') :
    Calls Try.prog 58 #[.slice A xs.length c, .func (.func fid) #[] cap] w fun e w' => e = .returned (.int .i64 (idxF p xs)) ∧ Below w.heap.size w w' := by
  have hl := hx.small
  have HX := Lib.hid hx
  have HP := Lib.hid hp
  clear hx hp
  go_enter Try.func58, Try.ntmps58
  go_wp2_with fail
  go_loopg [4, 5, 8, 9, 10, 11, 12, 13, 14, 15, 16, 17, 18] xs.length (fun gk v4 v5 v8 v9 v10 v11 v12 v13 v14 v15 v16 v17 v18 wr => ∃ k : Nat, k + gk = xs.length ∧ v8 = .int .i64 (k : Int) ∧ v4 = .int .i64 0 ∧ (∀ j (h : j < k) (h' : j < xs.length), p xs[j] = false) ∧ Below w.heap.size w wr)
  case atStart => exact ⟨0, by omega, rfl, rfl, fun j hj => by omega, Below.refl _ _⟩
  case round =>
    obtain ⟨k, hk, rfl, rfl, hall, hb⟩ := hrel
    by_cases hlt : k < xs.length
    · have hd : decide (k < xs.length) = true := decide_eq_true hlt
      obtain ⟨a, rfl, hca⟩ := (HX.out.below hb).cell k hlt
      have hcv := hca 0 _ rfl
      rw [Nat.mul_one, Nat.add_zero] at hcv
      have hp1 := HP.out k hlt wr hb
      have HP1 := Lib.hid hp1
      have HL := Lib.hid (And.intro hall hb)
      clear hp1 hall hb hca
      obtain ⟨pb, hpb⟩ : ∃ pb, p xs[k] = pb := ⟨_, rfl⟩
      rw [hpb] at HP1
      have HT := Lib.hid hpb
      clear hpb
      generalize hxk : xs[k] = x at *
      have HXK := Lib.hid hxk
      clear hxk
      cases pb with
      | true =>
        go_wp2_with ((with_reducible refine (HP1.out).mono ?_); rintro e w' ⟨rfl, hb1⟩)
        go_ret
        exact ⟨ret_int (idxF_at p xs k hlt (by rw [HXK.out]; exact HT.out) (fun j h => HL.out.1 j h (by omega))).symm, HL.out.2.trans (hb1.mono HL.out.2.size)⟩
      | false =>
        go_wp2_with ((with_reducible refine (HP1.out).mono ?_); rintro e w' ⟨rfl, hb1⟩)
        go_roundg (gk - 1)
        case measure => omega
        case rel => exact ⟨k + 1, by omega, by go_num, rfl, fun j hj hj' => by
          by_cases e : j = k
          · subst e; rw [HXK.out]; exact HT.out
          · exact HL.out.1 j (by omega) hj', HL.out.2.trans (hb1.mono HL.out.2.size)⟩
    · have hd : decide (k < xs.length) = false := decide_eq_false hlt
      have HL := Lib.hid (And.intro hall hb)
      clear hall hb
      go_wp2_with fail
      go_ret
      exact ⟨ret_int (idxF_none _ xs (fun j h => HL.out.1 j (by omega) h)).symm, HL.out.2⟩
theorem containsFunc_calls (p : Nat → Bool) (fid : Nat) (cap : Array Value) (xs : List Nat) (A : Option Addr) (c : Nat) (w : World) (hx : Rd encN 1 w A xs)
    (hf : ∀ (args : Array Value) (w : World), (callFunc fid args).run Try.prog w = .ok (.enter fid args) w)
    (hp : ∀ k (h : k < xs.length) w1, Below w.heap.size w w1 → Calls Try.prog fid (#[.int .i64 (xs[k] : Int)] ++ cap) w1 fun e w' => e = .returned (.bool (p xs[k])) ∧ Below w1.heap.size w1 w') :
    Calls Try.prog 50 #[.slice A xs.length c, .func (.func fid) #[] cap] w fun e w' => e = .returned (.bool (xs.any p)) ∧ Below w.heap.size w w' := by
  have h1 := indexFunc_calls p fid cap xs A c w hx hf hp
  have H1 := Lib.hid h1
  have HA := Lib.hid (idxF_any p xs)
  clear h1 hx hp hf
  go_enter Try.func50, Try.ntmps50
  go_wp2_with fail
  (with_reducible refine (H1.out).mono ?_); rintro e w2 ⟨rfl, hb⟩
  have HB := Lib.hid hb
  clear hb H1
  generalize idxF p xs = ix at *
  have ha := HA.out
  clear HA
  go_wp2_with fail
  go_ret
  exact ⟨rfl, HB.out⟩
end Go.Proofs.Ythebembnlmddoaa
