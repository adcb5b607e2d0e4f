import Derived.Test.YtggidakiflnhhaaAX
namespace Go.Proofs.Ytggidakiflnhhaa
open Go.RowKit
set_option maxHeartbeats 1000000
set_option maxRecDepth 100000
set_option linter.unusedSimpArgs false
set_option linter.unusedVariables false

/-! ### a trace as the follower knows it -/
structure Fo where
  tr : List Op
  re : List Int
  ac : Nat → Int
def addR (tr : List Op) (re : List Int) (a n : Int) : List Int := List.zipWith (fun (x : Op) r => if x.a = a ∧ r < 0 then n else r) tr re
def addF (s : Fo) (o : Op) : Fo := ⟨s.tr ++ [o], (if o.k = 4 then addR s.tr s.re o.a (s.tr.length : Int) else s.re) ++ [-1], if o.k = 3 then upd s.ac o.a.toNat (s.tr.length : Int) else s.ac⟩
def initF : Fo := ⟨[], [], fun _ => -1⟩
def accB (o : Op) : Bool := decide (o.k = 1 ∨ o.k = 2)
def opZ : Op := ⟨0, 0, 0, 0⟩
/-- does the next operation race with one ahead -/
def rcB (s : Fo) (o : Op) (i : Nat) : Bool := decide (accB (s.tr.getD i opZ) = true ∧ (s.tr.getD i opZ).p = o.p ∧ (s.tr.getD i opZ).a ≠ o.a ∧ ¬ ((s.tr.getD i opZ).k = 1 ∧ o.k = 1) ∧ ¬ (0 ≤ s.re.getD i (-1) ∧ s.re.getD i (-1) < s.ac o.a.toNat))
def rcL (s : Fo) (o : Op) : List Nat := if accB o = true then (List.range s.tr.length).filter (rcB s o) else []
def wiB (s : Fo) (o : Op) (k : Nat) : Bool := (rcL s o).any (fun i => decide ((s.tr.getD i opZ).a = (k : Int)))
def relO (k : Nat) : Op := ⟨(k : Int), 4, 0, 0⟩
def acqO (a : Int) : Op := ⟨a, 3, 0, 0⟩
def fe1 (s : Fo) (o : Op) : Fo := ((List.range 8).filter (wiB s o)).foldl (fun t k => addF t (relO k)) s
def fe2 (s : Fo) (o : Op) : Fo := if rcL s o ≠ [] then addF (fe1 s o) (acqO o.a) else fe1 s o
def feS (s : Fo) (o : Op) : Fo := addF (fe2 s o) o
def fnF (l : List Op) : Fo := l.foldl feS initF
def foF (l : List Op) : Fo := l.foldl addF initF
theorem addR_len (tr : List Op) (re : List Int) (a n : Int) (h : re.length = tr.length) : (addR tr re a n).length = tr.length := by simp [addR, h]
theorem addR_at (tr : List Op) (re : List Int) (a n : Int) (h : re.length = tr.length) (i : Nat) (hi : i < tr.length) : (addR tr re a n).getD i (-1) = if (tr.getD i opZ).a = a ∧ re.getD i (-1) < 0 then n else re.getD i (-1) := by
  have h1 : i < re.length := by omega
  simp [addR, List.getD_eq_getElem?_getD, List.getElem?_zipWith, List.getElem?_eq_getElem hi, List.getElem?_eq_getElem h1]
/-- what the follower knows is right -/
structure FoOk (s : Fo) : Prop where
  rl : s.re.length = s.tr.length
  rel : ∀ i, i < s.tr.length → (s.re.getD i (-1) = -1 ∧ ∀ r, i < r → ¬ relB s.tr r (s.tr.getD i opZ).a) ∨ ∃ r : Nat, s.re.getD i (-1) = (r : Int) ∧ i < r ∧ relB s.tr r (s.tr.getD i opZ).a ∧ ∀ q, i < q → q < r → ¬ relB s.tr q (s.tr.getD i opZ).a
  acq : ∀ k : Nat, (s.ac k = -1 ∧ ∀ q, ¬ acqB s.tr q (k : Int)) ∨ ∃ q : Nat, s.ac k = (q : Int) ∧ acqB s.tr q (k : Int) ∧ ∀ q', q < q' → ¬ acqB s.tr q' (k : Int)
  loc : ∀ o ∈ s.tr, 0 ≤ o.a
theorem relB_lt {l : List Op} {r : Nat} {a : Int} (h : relB l r a) : r < l.length := by obtain ⟨o, h1, _⟩ := h; exact (List.getElem?_eq_some_iff.1 h1).1
theorem acqB_lt {l : List Op} {r : Nat} {a : Int} (h : acqB l r a) : r < l.length := by obtain ⟨o, h1, _⟩ := h; exact (List.getElem?_eq_some_iff.1 h1).1
theorem relB_app {l m : List Op} {r : Nat} {a : Int} (hr : r < l.length) : relB (l ++ m) r a ↔ relB l r a := by unfold relB; rw [List.getElem?_append_left hr]
theorem acqB_app {l m : List Op} {r : Nat} {a : Int} (hr : r < l.length) : acqB (l ++ m) r a ↔ acqB l r a := by unfold acqB; rw [List.getElem?_append_left hr]
theorem relB_last {l : List Op} {o : Op} {a : Int} : relB (l ++ [o]) l.length a ↔ o.k = 4 ∧ o.a = a := by
  unfold relB
  rw [List.getElem?_append_right (Nat.le_refl _), Nat.sub_self]
  exact ⟨fun ⟨q, h1, h2⟩ => by cases h1; exact h2, fun h => ⟨o, rfl, h⟩⟩
theorem acqB_last {l : List Op} {o : Op} {a : Int} : acqB (l ++ [o]) l.length a ↔ o.k = 3 ∧ o.a = a := by
  unfold acqB
  rw [List.getElem?_append_right (Nat.le_refl _), Nat.sub_self]
  exact ⟨fun ⟨q, h1, h2⟩ => by cases h1; exact h2, fun h => ⟨o, rfl, h⟩⟩
theorem getD_app {l : List Op} {o : Op} {i : Nat} (hi : i < l.length) : (l ++ [o]).getD i opZ = l.getD i opZ := by
  rw [List.getD_eq_getElem?_getD, List.getD_eq_getElem?_getD, List.getElem?_append_left hi]
theorem getD_last (l : List Op) (o : Op) : (l ++ [o]).getD l.length opZ = o := by
  rw [List.getD_eq_getElem?_getD, List.getElem?_append_right (Nat.le_refl _), Nat.sub_self]; rfl
theorem initF_ok : FoOk initF := ⟨rfl, fun i hi => by simp [initF] at hi, fun k => Or.inl ⟨rfl, fun q ⟨o, h, _⟩ => by simp [initF] at h⟩, fun o ho => by simp [initF] at ho⟩
theorem addF_ok {s : Fo} (h : FoOk s) {o : Op} (ho : 0 ≤ o.a) : FoOk (addF s o) := by
  have hrl : (if o.k = 4 then addR s.tr s.re o.a (s.tr.length : Int) else s.re).length = s.tr.length := by
    split
    · exact addR_len _ _ _ _ h.rl
    · exact h.rl
  refine ⟨by simp [addF, hrl], fun i hi => ?_, fun k => ?_, fun q hq => ?_⟩
  · have hi' : i < s.tr.length + 1 := by simpa [addF] using hi
    show ((_ ++ [-1] : List Int).getD i (-1) = -1 ∧ _) ∨ _
    by_cases hil : i < s.tr.length
    · have e1 : (addF s o).re.getD i (-1) = (if o.k = 4 then addR s.tr s.re o.a (s.tr.length : Int) else s.re).getD i (-1) := by
        show (_ ++ [-1] : List Int).getD i (-1) = _
        rw [List.getD_eq_getElem?_getD, List.getD_eq_getElem?_getD, List.getElem?_append_left (by rw [hrl]; exact hil)]
      have e2 : (addF s o).tr.getD i opZ = s.tr.getD i opZ := getD_app hil
      have e3 : (addF s o).re = (if o.k = 4 then addR s.tr s.re o.a (s.tr.length : Int) else s.re) ++ [-1] := rfl
      rw [← e3, e1, e2]
      have key : ∀ q, q < s.tr.length → (relB (addF s o).tr q (s.tr.getD i opZ).a ↔ relB s.tr q (s.tr.getD i opZ).a) := fun q hq => relB_app hq
      have keyl : relB (addF s o).tr s.tr.length (s.tr.getD i opZ).a ↔ o.k = 4 ∧ o.a = (s.tr.getD i opZ).a := relB_last
      rcases h.rel i hil with ⟨g1, g2⟩ | ⟨r, g1, g2, g3, g4⟩
      · by_cases hh : o.k = 4 ∧ (s.tr.getD i opZ).a = o.a
        · right
          refine ⟨s.tr.length, ?_, hil, keyl.2 ⟨hh.1, hh.2.symm⟩, fun q q1 q2 => ?_⟩
          · rw [if_pos hh.1, addR_at _ _ _ _ h.rl i hil, if_pos ⟨hh.2, by omega⟩]
          · rw [key q q2]; exact g2 q q1
        · left
          refine ⟨?_, fun r hr hre => ?_⟩
          · split
            · rename_i h4
              rw [addR_at _ _ _ _ h.rl i hil, if_neg (fun x => hh ⟨h4, x.1⟩)]; exact g1
            · exact g1
          · have hlt := relB_lt hre
            by_cases hrl2 : r < s.tr.length
            · exact g2 r hr ((key r hrl2).1 hre)
            · have : r = s.tr.length := by simp [addF] at hlt; omega
              subst this
              have := keyl.1 hre
              exact hh ⟨this.1, this.2.symm⟩
      · right
        have hrlt := relB_lt g3
        refine ⟨r, ?_, g2, (key r hrlt).2 g3, fun q q1 q2 => by rw [key q (by omega)]; exact g4 q q1 q2⟩
        split
        · rw [addR_at _ _ _ _ h.rl i hil, if_neg (fun x => by omega)]; exact g1
        · exact g1
    · obtain rfl : i = s.tr.length := by omega
      left
      refine ⟨?_, fun r hr hre => ?_⟩
      · rw [List.getD_eq_getElem?_getD, List.getElem?_append_right (by omega), hrl, Nat.sub_self]; rfl
      · have := relB_lt hre
        simp [addF] at this; omega
  · have key : ∀ q, q < s.tr.length → (acqB (addF s o).tr q (k : Int) ↔ acqB s.tr q (k : Int)) := fun q hq => acqB_app hq
    have keyl : acqB (addF s o).tr s.tr.length (k : Int) ↔ o.k = 3 ∧ o.a = (k : Int) := acqB_last
    have hlen : (addF s o).tr.length = s.tr.length + 1 := by simp [addF]
    by_cases hh : o.k = 3 ∧ o.a = (k : Int)
    · right
      refine ⟨s.tr.length, ?_, keyl.2 hh, fun q q1 q2 => ?_⟩
      · show (if o.k = 3 then upd s.ac o.a.toNat (s.tr.length : Int) else s.ac) k = _
        rw [if_pos hh.1]; unfold upd; rw [if_pos (by omega)]
      · have := acqB_lt q2; omega
    · have e1 : (addF s o).ac k = s.ac k := by
        show (if o.k = 3 then upd s.ac o.a.toNat (s.tr.length : Int) else s.ac) k = _
        split
        · rename_i h3
          unfold upd; rw [if_neg (fun e => hh ⟨h3, by omega⟩)]
        · rfl
      rw [e1]
      rcases h.acq k with ⟨g1, g2⟩ | ⟨q, g1, g2, g3⟩
      · left
        refine ⟨g1, fun q hq => ?_⟩
        have hlt := acqB_lt hq
        by_cases hql : q < s.tr.length
        · exact g2 q ((key q hql).1 hq)
        · obtain rfl : q = s.tr.length := by omega
          exact hh (keyl.1 hq)
      · right
        refine ⟨q, g1, (key q (acqB_lt g2)).2 g2, fun q' h1 h2 => ?_⟩
        have hlt := acqB_lt h2
        by_cases hql : q' < s.tr.length
        · exact g3 q' h1 ((key q' hql).1 h2)
        · obtain rfl : q' = s.tr.length := by omega
          exact hh (keyl.1 h2)
  · rcases List.mem_append.1 hq with hq | hq
    · exact h.loc q hq
    · simp at hq; subst hq; exact ho
/-- two accesses are synchronized just if the first release is ahead of the last acquire -/
theorem sync_iff {s : Fo} (h : FoOk s) {o : Op} (ho : 0 ≤ o.a) {i : Nat} (hi : i < s.tr.length) : sync (s.tr ++ [o]) i s.tr.length (s.tr.getD i opZ).a o.a ↔ (0 ≤ s.re.getD i (-1) ∧ s.re.getD i (-1) < s.ac o.a.toNat) := by
  have hoa : (o.a.toNat : Int) = o.a := by omega
  constructor
  · rintro ⟨r, q, h1, h2, h3, h4, h5⟩
    rw [relB_app (by omega)] at h4
    rw [acqB_app (by omega)] at h5
    rcases h.rel i hi with ⟨g1, g2⟩ | ⟨r0, g1, g2, g3, g4⟩
    · exact absurd h4 (g2 r h1)
    · have hr0 : r0 ≤ r := by
        apply Classical.byContradiction
        intro hc
        exact g4 r h1 (by omega) h4
      rcases h.acq o.a.toNat with ⟨k1, k2⟩ | ⟨q0, k1, k2, k3⟩
      · rw [hoa] at k2; exact absurd h5 (k2 q)
      · have hq0 : q ≤ q0 := by
          apply Classical.byContradiction
          intro hc
          have := k3 q (by omega)
          rw [hoa] at this
          exact this h5
        omega
  · rintro ⟨h1, h2⟩
    rcases h.rel i hi with ⟨g1, g2⟩ | ⟨r0, g1, g2, g3, g4⟩
    · omega
    · rcases h.acq o.a.toNat with ⟨k1, k2⟩ | ⟨q0, k1, k2, k3⟩
      · omega
      · rw [hoa] at k2
        have hlt := acqB_lt k2
        refine ⟨r0, q0, g2, by omega, hlt, ?_, ?_⟩
        · rw [relB_app (relB_lt g3)]; exact g3
        · rw [acqB_app hlt]; exact k2
theorem rc_iff {s : Fo} (h : FoOk s) {o : Op} (ho : 0 ≤ o.a) (hk : ∀ q ∈ s.tr, 1 ≤ q.k) (hko : 1 ≤ o.k) {i : Nat} (hi : i < s.tr.length) : i ∈ rcL s o ↔ racP (s.tr ++ [o]) i s.tr.length := by
  have hgi : s.tr[i]? = some (s.tr.getD i opZ) := by rw [List.getD_eq_getElem?_getD, List.getElem?_eq_getElem hi]; rfl
  have hkk := hk (s.tr.getD i opZ) (List.mem_of_getElem? hgi)
  have hs := sync_iff h ho hi
  unfold rcL
  constructor
  · intro hm
    split at hm
    · rename_i ha
      have hb := (List.mem_filter.1 hm).2
      unfold rcB at hb
      have hb := of_decide_eq_true hb
      obtain ⟨b1, b2, b3, b4, b5⟩ := hb
      unfold accB at b1 ha
      have b1 := of_decide_eq_true b1
      have ha := of_decide_eq_true ha
      refine ⟨s.tr.getD i opZ, o, by rw [List.getElem?_append_left hi]; exact hgi, by rw [List.getElem?_append_right (Nat.le_refl _), Nat.sub_self]; rfl, by omega, by omega, b4, b3, b2, fun hh => b5 (hs.1 hh)⟩
    · simp at hm
  · rintro ⟨a, b, h1, h2, h3, h4, h5, h6, h7, h8⟩
    rw [List.getElem?_append_left hi, hgi] at h1
    rw [List.getElem?_append_right (Nat.le_refl _), Nat.sub_self] at h2
    obtain rfl := Option.some.inj h1
    obtain rfl : o = b := by simpa using h2
    have hacc : accB o = true := by unfold accB; exact decide_eq_true (by omega)
    rw [if_pos hacc]
    refine List.mem_filter.2 ⟨List.mem_range.2 hi, ?_⟩
    unfold rcB
    refine decide_eq_true ⟨by unfold accB; exact decide_eq_true (by omega), h7, h6, h5, fun hh => h8 (hs.2 hh)⟩
theorem racP_app {l m : List Op} {i j : Nat} (hij : i < j) (hj : j < l.length) : racP (l ++ m) i j ↔ racP l i j := by
  unfold racP
  rw [List.getElem?_append_left hj, List.getElem?_append_left (by omega : i < l.length)]
  have hs : ∀ a b, sync (l ++ m) i j a b ↔ sync l i j a b := fun a b => by
    constructor
    · rintro ⟨r, q, h1, h2, h3, h4, h5⟩
      exact ⟨r, q, h1, h2, h3, (relB_app (by omega)).1 h4, (acqB_app (by omega)).1 h5⟩
    · rintro ⟨r, q, h1, h2, h3, h4, h5⟩
      exact ⟨r, q, h1, h2, h3, (relB_app (by omega)).2 h4, (acqB_app (by omega)).2 h5⟩
  simp only [hs]
end Go.Proofs.Ytggidakiflnhhaa
