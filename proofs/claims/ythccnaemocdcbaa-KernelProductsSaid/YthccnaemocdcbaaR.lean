import Derived.Test.YthccnaemocdcbaaA
import Derived.BigRegion
import Derived.Deep.DeepCutAuto
namespace Go.Proofs.Ythccnaemocdcbaa
open Go.RowKit
set_option maxHeartbeats 2000000
set_option maxRecDepth 100000
set_option linter.unusedSimpArgs false
set_option linter.unusedVariables false

abbrev encI (x : Int) : List Value := [.int .i64 x]
theorem Rd.int {w : World} {A : Option Addr} {xs : List Int} (h : Rd encI 1 w A xs) (k : Nat) (hk : k < xs.length) : ∃ a, A = some a ∧ w.cell? (a.add k) = some (.int .i64 xs[k]) := by
  obtain ⟨a, ha, hc⟩ := h.cell k hk
  exact ⟨a, ha, by simpa using hc 0 _ rfl⟩
/-- an entry -/
structure En where
  r : Int
  c : Int
  v : Int
abbrev encN (e : En) : List Value := [.int .i64 e.r, .int .i64 e.c, .int .i64 e.v]
abbrev En.val (e : En) : Value := .agg #[.int .i64 e.r, .int .i64 e.c, .int .i64 e.v]
theorem lenI (x : Int) : (encI x).length = 1 := rfl
theorem lenN (x : En) : (encN x).length = 3 := rfl
theorem oneI (x : Int) : ∀ u ∈ encI x, u.oneCell' = true := fun u hu => by simp at hu; subst hu; rfl
theorem oneN (x : En) : ∀ u ∈ encN x, u.oneCell' = true := fun u hu => by
  simp at hu; rcases hu with rfl | rfl | rfl <;> rfl
theorem add_field (a : Addr) (n j : Nat) (hj : j ≠ 0) : a.add (n + j) = ⟨(a.add n).block, (a.add n).off + j, Option.none⟩ := by
  unfold Addr.add
  rw [if_neg (by omega)]
  split
  · rename_i h; subst h; simp
  · simp; omega
theorem Rd.ent {w : World} {A : Option Addr} {xs : List En} (h : Rd encN 3 w A xs) (k : Nat) (hk : k < xs.length) : ∃ a, A = some a ∧ w.cell? (a.add (k * 3)) = some (.int .i64 xs[k].r) ∧ w.cell? ⟨(a.add (k * 3)).block, (a.add (k * 3)).off + 1, Option.none⟩ = some (.int .i64 xs[k].c) ∧ w.cell? ⟨(a.add (k * 3)).block, (a.add (k * 3)).off + 2, Option.none⟩ = some (.int .i64 xs[k].v) := by
  obtain ⟨a, ha, hc⟩ := h.cell k hk
  exact ⟨a, ha, hc 0 _ rfl, by rw [← add_field _ _ 1 (by omega)]; exact hc 1 _ rfl, by rw [← add_field _ _ 2 (by omega)]; exact hc 2 _ rfl⟩

theorem indexFuncI_calls (p : Int → Bool) (fid : Nat) (cap : Array Value) (A : Option Addr) (xs : List Int) (c : Nat) (w : World)
    (hx : Rd encI 1 w A xs)
    (hf : ∀ (args : Array Value) (w : World), (callFunc fid args).run Try.prog w = .ok (.enter fid args) w)
    (hp : ∀ x w1, Below w.heap.size w w1 → Calls Try.prog fid (#[.int .i64 x] ++ cap) w1 fun e w' => e = .returned (.bool (p x)) ∧ Below w1.heap.size w1 w') :
    Calls Try.prog 60 #[.slice A xs.length c, .func (.func fid) #[] cap] w fun e w' => e = .returned (.int .i64 (idxF p xs)) ∧ Below w.heap.size w w' := by
  have hl := hx.small
  have HX := Lib.hid hx
  have HP := Lib.hid hp
  clear hx hp
  go_enter Try.func60, Try.ntmps60
  go_wp2
  go_loopw [4, 5, 8, 9, 10, 11, 12, 13, 14, 15, 16, 17, 18] (fun v4 v5 v8 v9 v10 v11 v12 v13 v14 v15 v16 v17 v18 wr => ∃ k : Nat, k ≤ xs.length ∧ v8 = .int .i64 k ∧ v4 = .int .i64 0 ∧ (∀ j (h : j < k) (h' : j < xs.length), p xs[j] = false) ∧ Below w.heap.size w wr) (fun _ _ v8 _ _ _ _ _ _ _ _ _ _ _ => xs.length - (intOf v8).toNat)
  case atStart => exact ⟨0, Nat.zero_le _, rfl, rfl, fun j hj => by omega, Below.refl _ _⟩
  case round =>
    obtain ⟨k, hk, rfl, rfl, hall, hb⟩ := hrel
    have HA := Lib.hid hall
    have HB := Lib.hid hb
    clear hall hb
    by_cases hlt : k < xs.length
    · obtain ⟨a, rfl, hc0⟩ := (HX.out.below HB.out).int k hlt
      have hp1 := HP.out xs[k] wr HB.out
      have HP1 := Lib.hid hp1
      clear hp1
      cases hb : p xs[k] with
      | true =>
        rw [hb] at HP1
        have HT := Lib.hid hb
        clear hb
        go_wp2_with ((with_reducible refine (HP1.out).mono ?_); rintro e w' ⟨rfl, hb1⟩)
        go_ret
        exact ⟨ret_int (idxF_at p xs k hlt HT.out (fun j h => HA.out j h (by omega))).symm, HB.out.trans (hb1.mono HB.out.size)⟩
      | false =>
        rw [hb] at HP1
        have HT := Lib.hid hb
        clear hb
        go_wp2_with ((with_reducible refine (HP1.out).mono ?_); rintro e w' ⟨rfl, hb1⟩)
        go_roundw
        case rel => exact ⟨k+1, by omega, by go_num, rfl, fun j hj hj' => by
          by_cases e : j = k
          · subst e; exact HT.out
          · exact HA.out j (by omega) hj', HB.out.trans (hb1.mono HB.out.size)⟩
        case measure => simp [intOf]; omega
    · go_wp2
      go_ret
      exact ⟨ret_int (idxF_none p xs (fun j h => HA.out j (by omega) h)).symm, HB.out⟩

theorem containsFuncI_calls (p : Int → Bool) (fid : Nat) (cap : Array Value) (A : Option Addr) (xs : List Int) (c : Nat) (w : World)
    (hx : Rd encI 1 w A xs)
    (hf : ∀ (args : Array Value) (w : World), (callFunc fid args).run Try.prog w = .ok (.enter fid args) w)
    (hp : ∀ x w1, Below w.heap.size w w1 → Calls Try.prog fid (#[.int .i64 x] ++ cap) w1 fun e w' => e = .returned (.bool (p x)) ∧ Below w1.heap.size w1 w') :
    Calls Try.prog 35 #[.slice A xs.length c, .func (.func fid) #[] cap] w fun e w' => e = .returned (.bool (xs.any p)) ∧ Below w.heap.size w w' := by
  have h1 := indexFuncI_calls p fid cap A xs c w hx hf hp
  have H1 := Lib.hid h1
  clear h1 hx hp hf
  go_enter Try.func35, Try.ntmps35
  go_wp2_with (go_at_call 60; (with_reducible refine (H1.out).mono ?_); rintro e w' ⟨rfl, hb⟩)
  go_ret
  exact ⟨ret_bool (idxF_any p xs), hb⟩
theorem indexFuncN_calls (p : En → Bool) (fid : Nat) (cap : Array Value) (A : Option Addr) (xs : List En) (c : Nat) (w : World)
    (hx : Rd encN 3 w A xs)
    (hf : ∀ (args : Array Value) (w : World), (callFunc fid args).run Try.prog w = .ok (.enter fid args) w)
    (hp : ∀ x w1, Below w.heap.size w w1 → Calls Try.prog fid (#[En.val x] ++ cap) w1 fun e w' => e = .returned (.bool (p x)) ∧ Below w1.heap.size w1 w') :
    Calls Try.prog 61 #[.slice A xs.length c, .func (.func fid) #[] cap] w fun e w' => e = .returned (.int .i64 (idxF p xs)) ∧ Below w.heap.size w w' := by
  have hl := hx.small
  have HX := Lib.hid hx
  have HP := Lib.hid hp
  clear hx hp
  go_enter Try.func61, Try.ntmps61
  go_wp2
  go_loopw [4, 5, 8, 9, 10, 11, 12, 13, 14, 15, 16, 17, 18] (fun v4 v5 v8 v9 v10 v11 v12 v13 v14 v15 v16 v17 v18 wr => ∃ k : Nat, k ≤ xs.length ∧ v8 = .int .i64 k ∧ v4 = .int .i64 0 ∧ (∀ j (h : j < k) (h' : j < xs.length), p xs[j] = false) ∧ Below w.heap.size w wr) (fun _ _ v8 _ _ _ _ _ _ _ _ _ _ _ => xs.length - (intOf v8).toNat)
  case atStart => exact ⟨0, Nat.zero_le _, rfl, rfl, fun j hj => by omega, Below.refl _ _⟩
  case round =>
    obtain ⟨k, hk, rfl, rfl, hall, hb⟩ := hrel
    have HA := Lib.hid hall
    have HB := Lib.hid hb
    clear hall hb
    by_cases hlt : k < xs.length
    · obtain ⟨a, rfl, hc0, hc1, hc2⟩ := (HX.out.below HB.out).ent k hlt
      have hp1 := HP.out xs[k] wr HB.out
      have HP1 := Lib.hid hp1
      clear hp1
      cases hb : p xs[k] with
      | true =>
        rw [hb] at HP1
        have HT := Lib.hid hb
        clear hb
        go_wp2_with ((with_reducible refine (HP1.out).mono ?_); rintro e w' ⟨rfl, hb1⟩)
        go_ret
        exact ⟨ret_int (idxF_at p xs k hlt HT.out (fun j h => HA.out j h (by omega))).symm, HB.out.trans (hb1.mono HB.out.size)⟩
      | false =>
        rw [hb] at HP1
        have HT := Lib.hid hb
        clear hb
        go_wp2_with ((with_reducible refine (HP1.out).mono ?_); rintro e w' ⟨rfl, hb1⟩)
        go_roundw
        case rel => exact ⟨k+1, by omega, by go_num, rfl, fun j hj hj' => by
          by_cases e : j = k
          · subst e; exact HT.out
          · exact HA.out j (by omega) hj', HB.out.trans (hb1.mono HB.out.size)⟩
        case measure => simp [intOf]; omega
    · go_wp2
      go_ret
      exact ⟨ret_int (idxF_none p xs (fun j h => HA.out j (by omega) h)).symm, HB.out⟩

theorem containsFuncN_calls (p : En → Bool) (fid : Nat) (cap : Array Value) (A : Option Addr) (xs : List En) (c : Nat) (w : World)
    (hx : Rd encN 3 w A xs)
    (hf : ∀ (args : Array Value) (w : World), (callFunc fid args).run Try.prog w = .ok (.enter fid args) w)
    (hp : ∀ x w1, Below w.heap.size w w1 → Calls Try.prog fid (#[En.val x] ++ cap) w1 fun e w' => e = .returned (.bool (p x)) ∧ Below w1.heap.size w1 w') :
    Calls Try.prog 38 #[.slice A xs.length c, .func (.func fid) #[] cap] w fun e w' => e = .returned (.bool (xs.any p)) ∧ Below w.heap.size w w' := by
  have h1 := indexFuncN_calls p fid cap A xs c w hx hf hp
  have H1 := Lib.hid h1
  clear h1 hx hp hf
  go_enter Try.func38, Try.ntmps38
  go_wp2_with (go_at_call 61; (with_reducible refine (H1.out).mono ?_); rintro e w' ⟨rfl, hb⟩)
  go_ret
  exact ⟨ret_bool (idxF_any p xs), hb⟩

/-- from -most to most -/
def wI (most n : Int) : Bool := decide (-most ≤ n) && decide (n ≤ most)
theorem within_calls (n most : Int) (hm : 0 ≤ most ∧ most ≤ 1000000000000000000) (w : World) :
    Calls Try.prog 37 #[.int .i64 n, .int .i64 most] w fun e w' => e = .returned (.bool (wI most n)) ∧ w = w' := by
  have hw : wrap64 (-most) = -most := by unfold wrap64; omega
  have hw' : wrap64 (0 - most) = -most := by unfold wrap64; omega
  by_cases h1 : -most ≤ n
  · by_cases h2 : n ≤ most
    · have hr : wI most n = true := by simp [wI, h1, h2]
      rw [hr]
      go_enter Try.func37, Try.ntmps37
      go_wp2
      go_ret
      exact ⟨rfl, rfl⟩
    · have hr : wI most n = false := by simp [wI, h2]
      rw [hr]
      go_enter Try.func37, Try.ntmps37
      go_wp2
      go_ret
      exact ⟨rfl, rfl⟩
  · have hr : wI most n = false := by simp [wI, h1]
    rw [hr]
    go_enter Try.func37, Try.ntmps37
    go_wp2
    go_ret
    exact ⟨rfl, rfl⟩
theorem out1_calls (n : Int) (w : World) : Calls Try.prog 36 #[.int .i64 n] w fun e w' => e = .returned (.bool (!wI 1000000 n)) ∧ w = w' := by
  have h := within_calls n 1000000 (by decide) w
  have H := Lib.hid h
  clear h
  go_enter Try.func36, Try.ntmps36
  go_wp2_with fail
  (with_reducible refine (H.out).mono ?_); rintro e w' ⟨rfl, rfl⟩
  go_wp2_with fail
  go_ret
  exact ⟨rfl, rfl⟩
theorem out3_calls (n : Int) (w : World) : Calls Try.prog 42 #[.int .i64 n] w fun e w' => e = .returned (.bool (!wI 1000000000000 n)) ∧ w = w' := by
  have h := within_calls n 1000000000000 (by decide) w
  have H := Lib.hid h
  clear h
  go_enter Try.func42, Try.ntmps42
  go_wp2_with fail
  (with_reducible refine (H.out).mono ?_); rintro e w' ⟨rfl, rfl⟩
  go_wp2_with fail
  go_ret
  exact ⟨rfl, rfl⟩
theorem f36 (args : Array Value) (w : World) : (callFunc 36 args).run Try.prog w = .ok (.enter 36 args) w := by kernel_rfl
theorem f39 (args : Array Value) (w : World) : (callFunc 39 args).run Try.prog w = .ok (.enter 39 args) w := by kernel_rfl
theorem f42 (args : Array Value) (w : World) : (callFunc 42 args).run Try.prog w = .ok (.enter 42 args) w := by kernel_rfl
/-- an entry that a matrix has not -/
def badN (rows lv : Int) (e : En) : Bool := decide (e.r < 0) || decide (rows ≤ e.r) || decide (e.c < 0) || decide (lv ≤ e.c) || !wI 1000000 e.v
theorem out2_calls (e : En) (rows : Int) (V : Option Addr) (lv cv : Nat) (b1 b2 : Addr) (w : World) (hc1 : w.cell? b1 = some (.int .i64 rows)) (hc2 : w.cell? b2 = some (.slice V lv cv)) :
    Calls Try.prog 39 #[e.val, .pointer (some b1), .pointer (some b2)] w fun x w' => x = .returned (.bool (badN rows lv e)) ∧ Below w.heap.size w w' := by
  have hb : Below w.heap.size w (w.alloc (.cells #[.int .i64 e.r, .int .i64 e.c, .int .i64 e.v] 78)) := (Below.refl _ w).alloc (Nat.le_refl _) _
  have h := fun w => within_calls e.v 1000000 (by decide) w
  have H := Lib.hid h
  have HB := Lib.hid hb
  have k1 := (hb.cell (World.block_lt_of_cell? _ _ hc1)).trans hc1
  have k2 := (hb.cell (World.block_lt_of_cell? _ _ hc2)).trans hc2
  clear h hb
  obtain ⟨r, c, v⟩ := e
  simp only at *
  by_cases h1 : r < 0
  · have hr : badN rows lv ⟨r, c, v⟩ = true := by simp [badN, h1]
    rw [hr]
    go_enter Try.func39, Try.ntmps39
    go_wp2_with fail
    go_ret
    exact ⟨rfl, HB.out⟩
  · by_cases h2 : rows ≤ r
    · have hr : badN rows lv ⟨r, c, v⟩ = true := by simp [badN, h2]
      rw [hr]
      go_enter Try.func39, Try.ntmps39
      go_wp2_with fail
      go_ret
      exact ⟨rfl, HB.out⟩
    · by_cases h3 : c < 0
      · have hr : badN rows lv ⟨r, c, v⟩ = true := by simp [badN, h3]
        rw [hr]
        go_enter Try.func39, Try.ntmps39
        go_wp2_with fail
        go_ret
        exact ⟨rfl, HB.out⟩
      · by_cases h4 : (lv : Int) ≤ c
        · have hr : badN rows lv ⟨r, c, v⟩ = true := by simp [badN, h4]
          rw [hr]
          go_enter Try.func39, Try.ntmps39
          go_wp2_with fail
          go_ret
          exact ⟨rfl, HB.out⟩
        · have hr : badN rows lv ⟨r, c, v⟩ = !wI 1000000 v := by simp [badN, h1, h2, h3, h4]
          rw [hr]
          go_enter Try.func39, Try.ntmps39
          go_wp2_with fail
          (with_reducible refine (H.out _).mono ?_); rintro e w' ⟨rfl, rfl⟩
          go_wp2_with fail
          go_ret
          exact ⟨rfl, HB.out⟩
end Go.Proofs.Ythccnaemocdcbaa
