import Derived.Test.YtggidakiflnhhaaAC
namespace Go.Proofs.Ytggidakiflnhhaa
open Go.RowKit
set_option maxHeartbeats 8000000
set_option maxRecDepth 100000
set_option linter.unusedSimpArgs false
set_option linter.unusedVariables false

/-- the place of a line in a row of the reference, or -1 -/
def fiI (es : List En) (x : Nat) : Int := match fiF es x with | some i => (i : Int) | none => -1
theorem fiI_at {es : List En} {x i : Nat} (hi : i < es.length) (hx : es[i].l = x) (hn : ∀ k (hk : k < es.length), k < i → es[k].l ≠ x) : fiI es x = (i : Int) := by
  have h : fiF es x = some i := by
    unfold fiF
    rw [List.findIdx?_eq_some_iff_getElem]
    refine ⟨hi, by simpa using hx, fun j hj => ?_⟩
    simpa using hn j (by omega) hj
  unfold fiI; rw [h]
theorem fiI_no {es : List En} {x : Nat} (hn : ∀ k (hk : k < es.length), es[k].l ≠ x) : fiI es x = -1 := by
  have h : fiF es x = none := by
    unfold fiF
    rw [List.findIdx?_eq_none_iff]
    intro e he
    obtain ⟨k, hk, rfl⟩ := List.mem_iff_getElem.1 he
    simpa using hn k hk
  unfold fiI; rw [h]
theorem findR_calls (es : List En) (x : Nat) (A : Option Addr) (cp : Nat) (w : World) (hA : Rd encN 13 w A es) :
    Calls Try.prog 49 #[.slice A es.length cp, .int .i64 (x : Int)] w fun y w' => y = .returned (.int .i64 (fiI es x)) ∧ Below w.heap.size w w' := by
  have hsm := hA.small
  have HA := Lib.hid hA
  clear hA
  go_enter Try.func49, Try.ntmps49
  go_wp2_with fail
  go_loopg [4, 5, 6, 7, 8, 9, 10, 11, 12, 13, 14, 15, 16, 17, 18, 19] es.length (fun gk v4 v5 v6 v7 v8 v9 v10 v11 v12 v13 v14 v15 v16 v17 v18 v19 wr => ∃ i : Nat, i + gk = es.length ∧ v5 = .int .i64 (i : Int) ∧ (∀ k (hk : k < es.length), k < i → es[k].l ≠ x) ∧ Below w.heap.size w wr)
  case atStart => exact ⟨0, by omega, rfl, fun k hk h => by omega, Below.refl _ _⟩
  case round =>
    obtain ⟨i, hi, rfl, hn, hb⟩ := hrel
    by_cases hlt : i < es.length
    · have hd : decide (i < es.length) = true := decide_eq_true hlt
      have hii : (i : Int) < (es.length : Int) := by omega
      obtain ⟨a, rfl, hca⟩ := (HA.out.below hb).cell i hlt
      have x0 := hca 0 _ rfl
      rw [Nat.add_zero] at x0
      obtain ⟨y, hy⟩ : ∃ y, es[i].l = y := ⟨_, rfl⟩
      rw [hy] at x0
      have HN := Lib.hid (And.intro hn (And.intro hb hy))
      clear hn hb hca hy
      by_cases hxy : y = x
      · subst hxy
        have f1 : decide (y = y) = true := decide_eq_true rfl
        go_wp2_with fail
        go_ret
        exact ⟨ret_int (by rw [fiI_at hlt HN.out.2.2 HN.out.1]), HN.out.2.1⟩
      · have f1 : decide (y = x) = false := decide_eq_false hxy
        have f2 : decide ((y : Int) = (x : Int)) = false := decide_eq_false (by omega)
        go_wp2_with fail
        go_roundg (gk - 1)
        case measure => omega
        case rel =>
          refine ⟨i + 1, by omega, by go_num, fun k hk hki => ?_, HN.out.2.1⟩
          by_cases e : k = i
          · subst e; rw [HN.out.2.2]; exact hxy
          · exact HN.out.1 k hk (by omega)
    · have hd : decide (i < es.length) = false := decide_eq_false hlt
      have HN := Lib.hid (And.intro hn hb)
      clear hn hb
      go_wp2_with fail
      go_ret
      exact ⟨ret_int (by rw [fiI_no (fun k hk => HN.out.1 k hk (by omega))]), HN.out.2⟩
end Go.Proofs.Ytggidakiflnhhaa
