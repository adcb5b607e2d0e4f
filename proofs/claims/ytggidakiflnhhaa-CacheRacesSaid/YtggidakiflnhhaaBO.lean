import Derived.Test.YtggidakiflnhhaaBN
import Derived.Test.YtggidakiflnhhaaBG
namespace Go.Proofs.Ytggidakiflnhhaa
open Go.RowKit
set_option maxHeartbeats 8000000
set_option maxRecDepth 100000
set_option linter.unusedSimpArgs false
set_option linter.unusedVariables false

/-! ### the reference's Fence, plainly -/
theorem sK_tr (s : Fo) (o : Op) (a : Nat) : ∃ R : List Op, (sK s o a).tr = s.tr ++ R ∧ ∀ q ∈ R, q.k = 4 := by
  refine ⟨_, adds_tr _ s, fun q hq => ?_⟩
  obtain ⟨k, _, rfl⟩ := List.mem_map.1 hq
  rfl
theorem racP_ext {t R : List Op} {o : Op} (hR : ∀ q ∈ R, q.k = 4) {i : Nat} (hi : i < t.length) : racP ((t ++ R) ++ [o]) i (t ++ R).length ↔ racP (t ++ [o]) i t.length := by
  have e1 : ((t ++ R) ++ [o])[i]? = some t[i] := by rw [List.append_assoc, List.getElem?_append_left hi, List.getElem?_eq_getElem hi]
  have e2 : (t ++ [o])[i]? = some t[i] := by rw [List.getElem?_append_left hi, List.getElem?_eq_getElem hi]
  have e3 : ((t ++ R) ++ [o])[(t ++ R).length]? = some o := by rw [List.getElem?_append_right (Nat.le_refl _), Nat.sub_self]; rfl
  have e4 : (t ++ [o])[t.length]? = some o := by rw [List.getElem?_append_right (Nat.le_refl _), Nat.sub_self]; rfl
  rw [racP_at e1 e3, racP_at e2 e4]
  have hs : Syn ((t ++ R) ++ [o]) i (t ++ R).length t[i].a o.a ↔ Syn (t ++ [o]) i t.length t[i].a o.a := by
    constructor
    · rintro ⟨r, q, h1, h2, h3, h4, h5⟩
      have hq : q < t.length := by
        apply Classical.byContradiction
        intro hc
        obtain ⟨z, hz, hz3, _⟩ := h5
        rw [List.getElem?_append_left h3, List.getElem?_append_right (by omega)] at hz
        have := hR z (List.mem_of_getElem? hz)
        omega
      rw [List.append_assoc, relB_app (by omega)] at h4
      rw [List.append_assoc, acqB_app hq] at h5
      exact ⟨r, q, h1, h2, hq, (relB_app (by omega)).2 h4, (acqB_app hq).2 h5⟩
    · rintro ⟨r, q, h1, h2, h3, h4, h5⟩
      rw [relB_app (by omega)] at h4
      rw [acqB_app h3] at h5
      exact ⟨r, q, h1, h2, by simp; omega, by rw [List.append_assoc, relB_app (by omega)]; exact h4, by rw [List.append_assoc, acqB_app h3]; exact h5⟩
  rw [hs]
/-- does one of the first n race, of locale a -/
noncomputable def wiK (t : List Op) (o : Op) (a : Nat) (n : Nat) : Bool := (List.range n).any (fun q => decide ((t.getD q opZ).a = (a : Int)) && racB (t ++ [o]) q t.length)
theorem wiK_succ (t : List Op) (o : Op) (a n : Nat) : wiK t o a (n + 1) = (wiK t o a n || (decide ((t.getD n opZ).a = (a : Int)) && racB (t ++ [o]) n t.length)) := by
  unfold wiK
  rw [List.range_succ, List.any_append]
  simp
theorem wiK_all {s : Fo} (h : FoOk s) (hg : ∀ q ∈ s.tr, gdO q) {o : Op} (ho : gdO o) (a b : Nat) : wiK (sK s o b).tr o a (sK s o b).tr.length = wiB s o a := by
  obtain ⟨R, hR, hR4⟩ := sK_tr s o b
  rw [hR]
  have key : ∀ i, i < s.tr.length → (i ∈ rcL s o ↔ racP (s.tr ++ [o]) i s.tr.length) := fun i hi => rc_iff h ho.2.1 (fun q hq => (hg q hq).1) ho.1 hi
  have hgd : ∀ i, i < s.tr.length → (s.tr ++ R).getD i opZ = s.tr.getD i opZ := fun i hi => by
    rw [List.getD_eq_getElem?_getD, List.getD_eq_getElem?_getD, List.getElem?_append_left hi]
  rw [Bool.eq_iff_iff]
  unfold wiK wiB
  rw [List.any_eq_true, List.any_eq_true]
  constructor
  · rintro ⟨q, hq, hb⟩
    rw [Bool.and_eq_true] at hb
    have hql := List.mem_range.1 hq
    have hp := racB_iff.1 hb.2
    have hqs : q < s.tr.length := by
      apply Classical.byContradiction
      intro hc
      obtain ⟨x, y, h1, _, h3, _⟩ := hp
      rw [List.getElem?_append_left hql, List.getElem?_append_right (by omega)] at h1
      have := hR4 x (List.mem_of_getElem? h1)
      omega
    refine ⟨q, (key q hqs).2 ((racP_ext hR4 hqs).1 hp), ?_⟩
    rw [← hgd q hqs]; exact hb.1
  · rintro ⟨q, hq, hb⟩
    have hqs := rcL_lt hq
    refine ⟨q, List.mem_range.2 (by simp; omega), ?_⟩
    rw [Bool.and_eq_true]
    exact ⟨by rw [hgd q hqs]; exact hb, racB_iff.2 ((racP_ext hR4 hqs).2 ((key q hqs).1 hq))⟩
theorem wiB_out {c : Cf} {s : Fo} (hs : ∀ q ∈ s.tr, opOk c q) {o : Op} {a : Nat} (ha : c.L ≤ (a : Int)) : wiB s o a = false := by
  cases h : wiB s o a with
  | false => rfl
  | true =>
    unfold wiB at h
    obtain ⟨q, hq, hb⟩ := List.any_eq_true.1 h
    have hqs := rcL_lt hq
    have hb := of_decide_eq_true hb
    have := (hs (s.tr.getD q opZ) (by rw [getD_at _ _ hqs]; exact List.getElem_mem hqs)).2.1
    omega
theorem sK_stop {c : Cf} {s : Fo} (hs : ∀ q ∈ s.tr, opOk c q) {o : Op} {L : Nat} (hL : c.L = (L : Int)) : ∀ d, sK s o (L + d) = sK s o L
  | 0 => rfl
  | d + 1 => by
    rw [← Nat.add_assoc, sK_succ, wiB_out hs (by omega)]
    simp only [Bool.false_eq_true, if_false]
    exact sK_stop hs hL d
theorem fe1_sK {c : Cf} {s : Fo} (hs : ∀ q ∈ s.tr, opOk c q) {o : Op} {L : Nat} (hL : c.L = (L : Int)) (h8 : L ≤ 8) : fe1 s o = sK s o L := by
  have := sK_stop hs (o := o) hL (8 - L)
  rw [show L + (8 - L) = 8 by omega] at this
  exact this
/-- was one marked so far -/
def anK (s : Fo) (o : Op) (a : Nat) : Bool := (List.range a).any (wiB s o)
theorem anK_succ (s : Fo) (o : Op) (a : Nat) : anK s o (a + 1) = (anK s o a || wiB s o a) := by
  unfold anK
  rw [List.range_succ, List.any_append]; simp
theorem anK_all {c : Cf} {s : Fo} (hs : ∀ q ∈ s.tr, opOk c q) {o : Op} {L : Nat} (hL : c.L = (L : Int)) : anK s o L = true ↔ rcL s o ≠ [] := by
  unfold anK
  rw [List.any_eq_true]
  constructor
  · rintro ⟨a, _, h⟩ e
    unfold wiB at h
    rw [e] at h; cases h
  · intro h
    obtain ⟨q, hq⟩ := List.exists_mem_of_ne_nil _ h
    have hqs := rcL_lt hq
    have hok := hs (s.tr.getD q opZ) (by rw [getD_at _ _ hqs]; exact List.getElem_mem hqs)
    have h0 := hok.1
    have h1 := hok.2.1
    refine ⟨(s.tr.getD q opZ).a.toNat, List.mem_range.2 (by omega), ?_⟩
    unfold wiB
    rw [List.any_eq_true]
    exact ⟨q, hq, decide_eq_true (by omega)⟩
theorem fn_ok_at {c : Cf} {l : List Op} (h : ∀ o ∈ l, opOk c o) (j : Nat) : ∀ q ∈ (fnF (l.take j)).tr, opOk c q :=
  fn_right (l.take j) (fun o ho => h o (List.mem_of_mem_take ho)) initF (fun q hq => by simp [initF] at hq)
end Go.Proofs.Ytggidakiflnhhaa
