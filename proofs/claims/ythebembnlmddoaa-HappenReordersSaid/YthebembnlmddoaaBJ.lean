import Derived.Test.YthebembnlmddoaaBI
namespace Go.Proofs.Ythebembnlmddoaa
open Go.RowKit
set_option maxHeartbeats 8000000
set_option maxRecDepth 100000
set_option linter.unusedSimpArgs false
set_option linter.unusedVariables false

/-- the events E and the error n -/
def RoB (T : TypeId) (E : List Ev) (n : Int) (w : World) (e : Ending) (w' : World) : Prop := ∃ v, e = .returned (.tuple #[v, .int .i64 n]) ∧ Own encE 11 T w' w.heap.size v E ∧ Below w.heap.size w w'
theorem ErPost.both {T : TypeId} {n : Int} {w w' : World} {e : Ending} (h : ErPost n w e w') : RoB T [] n w e w' := ⟨_, h.1, World.ownsRow_nil _ _ _ _, h.2⟩
theorem Rd.nats {w : World} {S : Option Addr} {p : List Nat} (h : Rd encI 1 w S (p.map (fun (j : Nat) => (j : Int)))) : Rd encN 1 w S p :=
  ⟨by simpa using h.small, fun q hq => by
    obtain ⟨a, e, hc⟩ := h.cell q (by simpa using hq)
    exact ⟨a, e, fun y v hv => hc y v (by rw [List.getElem_map]; exact hv)⟩⟩
theorem both_calls (l : List Ev) (hok : ∀ e ∈ l, e.ok) (hl80 : l.length ≤ 80) (o : List Int) (ho : o.length ≤ 100) : ∃ (E : List Ev) (n : Int), E.length ≤ 80 ∧
    (∀ (A : Option Addr) (c : Nat) (S : Option Addr) (cO : Nat) (w : World), o.length ≤ cO → Rd encE 11 w A l → Rd encI 1 w S o → Calls Try.prog 26 #[.slice A l.length c, .slice S o.length cO] w (RoB 42 E n w)) ∧
    (∀ (A : Option Addr) (c : Nat) (S : Option Addr) (cO : Nat) (w : World), o.length ≤ cO → Rd encE 11 w A l → Rd encI 1 w S o → Calls Try.prog 27 #[.slice A l.length c, .slice S o.length cO] w (RoB 93 E n w)) := by
  by_cases hk : chkF l = 0
  · by_cases hlen : o.length = l.length
    · by_cases hord : ordI l.length o
      · have hmap : (o.map Int.toNat).map (fun (j : Nat) => (j : Int)) = o := by
          rw [List.map_map]
          refine (List.map_congr_left (g := id) fun x hx => ?_).trans (List.map_id _)
          have := hord.1 x hx
          simp only [Function.comp, id]
          omega
        obtain ⟨p, hp⟩ : ∃ p, o.map Int.toNat = p := ⟨_, rfl⟩
        rw [hp] at hmap
        have hpl : ∀ j ∈ p, j < l.length := fun j hj => by
          have := hord.1 (j : Int) (by rw [← hmap]; exact List.mem_map.2 ⟨j, hj, rfl⟩)
          omega
        have hnd : p.Nodup := by
          have h2 := hord.2
          rw [← hmap] at h2
          exact List.Pairwise.of_map _ (fun a b h e => h (by rw [e])) h2
        have hpo : p.length = o.length := by rw [← hp, List.length_map]
        refine ⟨if pmA l p = true then p.map (evA l) else [], if pmA l p = true then 0 else 231, ?_, fun A c S cO w hcap hA hO => ?_, fun A c S cO w hcap hA hO => ?_⟩
        · split
          · rw [List.length_map]; omega
          · simp
        · rw [← hpo]
          rw [← hmap] at hO
          exact reorder80_calls l hok hk hl80 p hpl hnd (by omega) A c S cO (by omega) w hA hO.nats
        · exact (reorderR_calls l hk hl80 o hlen A c S cO hcap w hA hO).mono fun e w' h => h.2 p hmap hnd hpl
      · exact ⟨[], 1, by simp, fun A c S cO w hcap hA hO => (reorder_bad l hok hk hl80 o hlen hord A c S cO hcap w hA hO).mono fun e w' h => h.both, fun A c S cO w hcap hA hO => (reorderR_calls l hk hl80 o hlen A c S cO hcap w hA hO).mono fun e w' h => (h.1 hord).both⟩
    · exact ⟨[], 5, by simp, fun A c S cO w hcap hA hO => (reorder_len l hok hk o.length (by omega) hlen A c S cO w hA).mono fun e w' h => h.both, fun A c S cO w hcap hA hO => (reorderR_len l hk o.length (by omega) hlen A c S cO w hA).mono fun e w' h => h.both⟩
  · exact ⟨[], chkF l, by simp, fun A c S cO w hcap hA hO => (reorder_chk l hok hk o.length A c S cO w hA).mono fun e w' h => h.both, fun A c S cO w hcap hA hO => (reorderR_chk l hk o.length A c S cO w hA).mono fun e w' h => h.both⟩
theorem reorders_calls (l : List Ev) (hok : ∀ e ∈ l, e.ok) (A : Option Addr) (c : Nat) (o : List Int) (S : Option Addr) (cO : Nat) (hcap : o.length ≤ cO) (w : World) (hA : Rd encE 11 w A l) (hO : Rd encI 1 w S o) :
    Calls Try.prog 5 #[.slice A l.length c, .slice S o.length cO] w fun e w' => e = .returned (.bool true) ∧ Below w.heap.size w w' := by
  have hsm := hA.small
  have hso := hO.small
  have ha := fun w => awake_calls w
  have HA := Lib.hid ha
  have HR := Lib.hid (And.intro hA (And.intro hO (And.intro hok hcap)))
  clear ha hA hO hok hcap
  go_enter Try.func5, Try.ntmps5
  by_cases h80 : 80 < l.length
  · have d1 : decide (80 < l.length) = true := decide_eq_true h80
    have d2 : decide ((80 : Int) < (l.length : Int)) = true := decide_eq_true (by omega)
    go_wp2_with fail
    (with_reducible refine (HA.out _).mono ?_); rintro e w2 ⟨rfl, hb2⟩
    have H2 := Lib.hid hb2
    clear hb2
    go_wp2_with fail
    go_ret
    exact ⟨rfl, H2.out⟩
  · have d1 : decide (80 < l.length) = false := decide_eq_false h80
    have d2 : decide ((80 : Int) < (l.length : Int)) = false := decide_eq_false (by omega)
    by_cases h100 : 100 < o.length
    · have d3 : decide (100 < o.length) = true := decide_eq_true h100
      have d4 : decide ((100 : Int) < (o.length : Int)) = true := decide_eq_true (by omega)
      go_wp2_with fail
      (with_reducible refine (HA.out _).mono ?_); rintro e w2 ⟨rfl, hb2⟩
      have H2 := Lib.hid hb2
      clear hb2
      go_wp2_with fail
      go_ret
      exact ⟨rfl, H2.out⟩
    · have d3 : decide (100 < o.length) = false := decide_eq_false h100
      have d4 : decide ((100 : Int) < (o.length : Int)) = false := decide_eq_false (by omega)
      obtain ⟨E, n, hE, hx, hy⟩ := both_calls l HR.out.2.2.1 (by omega) o (by omega)
      have hown := own_calls l A c w HR.out.1 (by omega)
      have HB := Lib.hid (And.intro hx (And.intro hy hE))
      have HO := Lib.hid hown
      clear hx hy hE hown
      go_wp2_with fail
      (with_reducible refine (HO.out).mono ?_); rintro e w1 ⟨v1, rfl, ho1, hb1⟩
      obtain ⟨S1, c1, rfl, _, hr1, _⟩ := ho1.form lenE
      have hca := HB.out.1 S1 c1 S cO w1 HR.out.2.2.2 hr1 (HR.out.2.1.below hb1)
      have HC := Lib.hid hca
      have H1 := Lib.hid hb1
      clear ho1 hr1 hca hb1
      go_wp2_with fail
      (with_reducible refine (HC.out).mono ?_); rintro e w2 ⟨v2, rfl, ho2, hb2⟩
      have hlo2 := H1.out.trans (hb2.mono H1.out.size)
      obtain ⟨S2, c2, rfl, _, hr2, _⟩ := ho2.form lenE
      have hcr := HB.out.2.1 A c S cO w2 HR.out.2.2.2 (HR.out.1.below hlo2) (HR.out.2.1.below hlo2)
      have HCR := Lib.hid hcr
      have H2 := Lib.hid (And.intro hlo2 hr2)
      clear ho2 hr2 hcr hb2 hlo2
      go_wp2_with fail
      (with_reducible refine (HCR.out).mono ?_); rintro e w3 ⟨v3, rfl, ho3, hb3⟩
      have hlo3 := H2.out.1.trans (hb3.mono H2.out.1.size)
      obtain ⟨S3, c3, rfl, _, hr3, _⟩ := ho3.form lenE
      have hor := own_calls E S3 c3 w3 hr3 (by have := HB.out.2.2; omega)
      have HOR := Lib.hid hor
      have H3 := Lib.hid (And.intro hlo3 (H2.out.2.below hb3))
      clear ho3 hr3 hor hb3 hlo3
      go_wp2_with fail
      (with_reducible refine (HOR.out).mono ?_); rintro e w4 ⟨v4, rfl, ho4, hb4⟩
      have hlo4 := H3.out.1.trans (hb4.mono H3.out.1.size)
      obtain ⟨S4, c4, rfl, _, hr4, _⟩ := ho4.form lenE
      have heq := equalE_calls E S2 S4 c2 c4 w4 (H3.out.2.below hb4) hr4
      have HEQ := Lib.hid heq
      have H4 := Lib.hid hlo4
      clear ho4 hr4 heq hb4 hlo4
      go_wp2_with fail
      (with_reducible refine (HEQ.out).mono ?_); rintro e w5 ⟨rfl, hb5⟩
      have H5 := Lib.hid (H4.out.trans (hb5.mono H4.out.size))
      clear hb5
      go_wp2_with fail
      (with_reducible refine (HA.out _).mono ?_); rintro e w6 ⟨rfl, hb6⟩
      have H6 := Lib.hid (H5.out.trans (hb6.mono H5.out.size))
      clear hb6
      go_wp2_with fail
      go_ret
      exact ⟨rfl, H6.out⟩
end Go.Proofs.Ythebembnlmddoaa
