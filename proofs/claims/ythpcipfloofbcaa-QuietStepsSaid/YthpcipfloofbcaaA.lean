import Derived.Test.YthpcipfloofbcaaProg
import Derived.WalkKit
import Derived.WalkSpells
import Derived.WalkLawsBesides
import Derived.BigQuiet
import Derived.Lib.Hide
namespace Go.Proofs.Ythpcipfloofbcaa
open Go.RowKit
set_option maxHeartbeats 400000
set_option linter.unusedSimpArgs false
set_option linter.unusedVariables false

theorem ret_int {k : IntKind} {a b : Int} (h : a = b) : Ending.returned (.int k a) = .returned (.int k b) := by rw [h]
theorem ret_bool {a b : Bool} (h : a = b) : Ending.returned (.bool a) = .returned (.bool b) := by rw [h]

/-! reading of rows -/
/-- the slice at A reads as the elements xs, each of so many cells -/
structure Rd {α : Type} (enc : α → List Value) (sz : Nat) (w : World) (A : Option Addr) (xs : List α) : Prop where
  small : xs.length ≤ 9223372036854775807
  cell : ∀ k (h : k < xs.length), ∃ a, A = some a ∧ ∀ j v, (enc xs[k])[j]? = some v → w.cell? (a.add (k * sz + j)) = some v

theorem Rd.below {α : Type} {enc : α → List Value} {sz : Nat} {w w' : World} {A : Option Addr} {xs : List α} (h : Rd enc sz w A xs) (hb : Below w.heap.size w w') : Rd enc sz w' A xs :=
  ⟨h.small, fun k hk => by
    obtain ⟨a, ha, hc⟩ := h.cell k hk
    exact ⟨a, ha, fun j v hv => (hb.cell (World.block_lt_of_cell? w _ (hc j v hv))).trans (hc j v hv)⟩⟩

theorem Rd.nil {α : Type} (enc : α → List Value) (sz : Nat) (w : World) (A : Option Addr) : Rd enc sz w A [] := ⟨by simp, fun k h => by simp at h⟩

abbrev encI (x : Int) : List Value := [.int .i64 x]

theorem Rd.int {w : World} {A : Option Addr} {xs : List Int} (h : Rd encI 1 w A xs) (k : Nat) (hk : k < xs.length) : ∃ a, A = some a ∧ w.cell? (a.add k) = some (.int .i64 xs[k]) := by
  obtain ⟨a, ha, hc⟩ := h.cell k hk
  exact ⟨a, ha, by simpa using hc 0 _ rfl⟩

def wB (most n : Int) : Bool := decide (n < 0) || decide (most < n)

theorem within1_calls (n most : Int) (b : Addr) (w : World) (hc : w.cell? b = some (.int .i64 most)) :
    Calls Try.prog 49 #[.int .i64 n, .pointer (some b)] w fun e w' => e = .returned (.bool (wB most n)) ∧ w = w' := by
  by_cases h : n < 0
  · go_enter Try.func49, Try.ntmps49
    go_wp2
    go_ret
    exact ⟨by simp [wB, h], rfl⟩
  · go_enter Try.func49, Try.ntmps49
    go_wp2
    go_ret
    exact ⟨by simp [wB]; intro; omega, rfl⟩

/-- the place of the first element that a test holds of; -1 without one -/
def idxF {α : Type} (p : α → Bool) (xs : List α) : Int := match xs.findIdx? p with | some i => (i : Int) | none => -1
theorem idxF_at {α : Type} (p : α → Bool) (xs : List α) (k : Nat) (hk : k < xs.length) (ht : p xs[k] = true) (hf : ∀ j (h : j < k), p (xs[j]'(by omega)) = false) : idxF p xs = k := by
  unfold idxF
  have : xs.findIdx? p = some k := by
    rw [List.findIdx?_eq_some_iff_getElem]
    exact ⟨hk, ht, fun j hj => by simp [hf j hj]⟩
  rw [this]
theorem idxF_none {α : Type} (p : α → Bool) (xs : List α) (hf : ∀ j (h : j < xs.length), p xs[j] = false) : idxF p xs = -1 := by
  unfold idxF
  have : xs.findIdx? p = none := by
    rw [List.findIdx?_eq_none_iff]
    intro x hx
    obtain ⟨j, hj, rfl⟩ := List.mem_iff_getElem.1 hx
    exact hf j hj
  rw [this]
theorem idxF_any {α : Type} (p : α → Bool) (xs : List α) : decide (0 ≤ idxF p xs) = xs.any p := by
  unfold idxF
  cases h : xs.findIdx? p with
  | none =>
    rw [List.findIdx?_eq_none_iff] at h
    simp
    intro x hx; exact h x hx
  | some i =>
    rw [List.findIdx?_eq_some_iff_getElem] at h
    obtain ⟨h1, h2, _⟩ := h
    simp
    exact ⟨_, List.getElem_mem h1, h2⟩

theorem indexFunc_calls (p : Int → Bool) (fid : Nat) (cap : Array Value) (A : Option Addr) (xs : List Int) (c : Nat) (w : World)
    (hx : Rd encI 1 w A xs)
    (hf : ∀ (args : Array Value) (w : World), (callFunc fid args).run Try.prog w = .ok (.enter fid args) w)
    (hp : ∀ x, Calls Try.prog fid (#[.int .i64 x] ++ cap) w fun e w' => e = .returned (.bool (p x)) ∧ w = w') :
    Calls Try.prog 50 #[.slice A xs.length c, .func (.func fid) #[] cap] w fun e w' => e = .returned (.int .i64 (idxF p xs)) ∧ w = w' := by
  have hl := hx.small
  have HX := Lib.hid hx
  have HP := Lib.hid hp
  clear hx hp
  go_enter Try.func50, Try.ntmps50
  go_wp2
  go_loop [4, 5, 8, 9, 10, 11, 12, 13, 14, 15, 16, 17, 18] (fun v4 v5 v8 v9 v10 v11 v12 v13 v14 v15 v16 v17 v18 => ∃ k : Nat, k ≤ xs.length ∧ v8 = .int .i64 k ∧ v4 = .int .i64 0 ∧ ∀ j (h : j < k) (h' : j < xs.length), p xs[j] = false) (fun _ _ v8 _ _ _ _ _ _ _ _ _ _ => xs.length - (intOf v8).toNat)
  case atStart => exact ⟨0, Nat.zero_le _, rfl, rfl, fun j hj => by omega⟩
  case round =>
    obtain ⟨k, hk, rfl, rfl, hall⟩ := hrel
    have HA := Lib.hid hall
    clear hall
    by_cases hlt : k < xs.length
    · obtain ⟨a, rfl, hc⟩ := HX.out.int k hlt
      have hp1 := HP.out xs[k]
      have HP1 := Lib.hid hp1
      clear hp1
      cases hb : p xs[k] with
      | true =>
        rw [hb] at HP1
        have HB := Lib.hid hb
        clear hb
        go_wp2_with ((with_reducible refine (HP1.out).mono ?_); rintro e w' ⟨rfl, rfl⟩)
        go_ret
        exact ⟨ret_int (idxF_at p xs k hlt HB.out (fun j h => HA.out j h (by omega))).symm, rfl⟩
      | false =>
        rw [hb] at HP1
        have HB := Lib.hid hb
        clear hb
        go_wp2_with ((with_reducible refine (HP1.out).mono ?_); rintro e w' ⟨rfl, rfl⟩)
        go_round
        case rel => exact ⟨k+1, by omega, by go_num, rfl, fun j hj hj' => by
          by_cases e : j = k
          · subst e; exact HB.out
          · exact HA.out j (by omega) hj'⟩
        case measure => simp [intOf]; omega
    · go_wp2
      go_ret
      exact ⟨ret_int (idxF_none p xs (fun j h => HA.out j (by omega) h)).symm, rfl⟩

theorem containsFunc_calls (p : Int → Bool) (fid : Nat) (cap : Array Value) (A : Option Addr) (xs : List Int) (c : Nat) (w : World)
    (hx : Rd encI 1 w A xs)
    (hf : ∀ (args : Array Value) (w : World), (callFunc fid args).run Try.prog w = .ok (.enter fid args) w)
    (hp : ∀ x, Calls Try.prog fid (#[.int .i64 x] ++ cap) w fun e w' => e = .returned (.bool (p x)) ∧ w = w') :
    Calls Try.prog 48 #[.slice A xs.length c, .func (.func fid) #[] cap] w fun e w' => e = .returned (.bool (xs.any p)) ∧ w = w' := by
  have h1 := indexFunc_calls p fid cap A xs c w hx hf hp
  have H1 := Lib.hid h1
  clear h1 hx hp hf
  go_enter Try.func48, Try.ntmps48
  go_wp2_with (go_at_call 50; (with_reducible refine (H1.out).mono ?_); rintro e w' ⟨rfl, rfl⟩)
  go_ret
  exact ⟨ret_bool (idxF_any p xs), rfl⟩

theorem f49 (args : Array Value) (w : World) : (callFunc 49 args).run Try.prog w = .ok (.enter 49 args) w := by kernel_rfl

theorem within_calls (most : Int) (A : Option Addr) (xs : List Int) (c : Nat) (w : World) (hx : Rd encI 1 w A xs) :
    Calls Try.prog 39 #[.int .i64 most, .slice A xs.length c] w fun e w' => e = .returned (.bool (!xs.any (wB most))) ∧ Below w.heap.size w w' := by
  have hb : Below w.heap.size w (w.alloc (.cells #[.int .i64 most] 3)) := (Below.refl _ w).alloc (Nat.le_refl _) _
  have h1 := containsFunc_calls (wB most) 49 #[.pointer (some ⟨w.heap.size, 0, none⟩)] A xs c (w.alloc (.cells #[.int .i64 most] 3)) (hx.below hb) f49
    (fun x => within1_calls x most _ _ (by simp))
  have H1 := Lib.hid h1
  clear h1 hx
  go_enter Try.func39, Try.ntmps39
  go_wp2_with (go_at_call 48; (with_reducible refine (H1.out).mono ?_); rintro e w' ⟨rfl, rfl⟩)
  go_ret
  exact ⟨rfl, hb⟩
end Go.Proofs.Ythpcipfloofbcaa
