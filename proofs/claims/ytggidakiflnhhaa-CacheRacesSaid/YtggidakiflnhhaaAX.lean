import Derived.Test.YtggidakiflnhhaaAW
namespace Go.Proofs.Ytggidakiflnhhaa
open Go.RowKit
set_option maxHeartbeats 1000000
set_option maxRecDepth 100000
set_option linter.unusedSimpArgs false
set_option linter.unusedVariables false

/-! ### races -/
def relB (l : List Op) (r : Nat) (a : Int) : Prop := ∃ o, l[r]? = some o ∧ o.k = 4 ∧ o.a = a
def acqB (l : List Op) (s : Nat) (a : Int) : Prop := ∃ o, l[s]? = some o ∧ o.k = 3 ∧ o.a = a
def sync (l : List Op) (i j : Nat) (a b : Int) : Prop := ∃ r s, i < r ∧ r < s ∧ s < j ∧ relB l r a ∧ acqB l s b
def racP (l : List Op) (i j : Nat) : Prop := ∃ a b : Op, l[i]? = some a ∧ l[j]? = some b ∧ a.k ≤ 2 ∧ b.k ≤ 2 ∧ ¬ (a.k = 1 ∧ b.k = 1) ∧ a.a ≠ b.a ∧ a.p = b.p ∧ ¬ sync l i j a.a b.a
def rfree (l : List Op) : Prop := ∀ i j, i < j → ¬ racP l i j
/-- a put of a locale that it has not released -/
def Unrel (l : List Op) (n p k : Nat) : Prop := ∃ j, ∃ o : Op, j < n ∧ l[j]? = some o ∧ o.k = 2 ∧ o.a = (k : Int) ∧ o.p = (p : Int) ∧ ∀ r, j < r → r < n → ¬ relB l r o.a
/-- a put of another locale that a locale has not acquired -/
def Pend (l : List Op) (n p k : Nat) : Prop := ∃ j, ∃ o : Op, j < n ∧ l[j]? = some o ∧ o.k = 2 ∧ o.a ≠ (k : Int) ∧ o.p = (p : Int) ∧ ¬ sync l j n o.a (k : Int)
theorem unrel_pend {l : List Op} {n p b k : Nat} (hbk : b ≠ k) (h : Unrel l n p b) : Pend l n p k := by
  obtain ⟨j, o, h1, h2, h3, h4, h5, h6⟩ := h
  exact ⟨j, o, h1, h2, h3, by omega, h5, fun ⟨r, s, g1, g2, g3, g4, _⟩ => h6 r g1 (by omega) g4⟩
theorem unrel_succ {l : List Op} {n p k : Nat} (h : Unrel l n p k) (hn : ¬ relB l n (k : Int)) : Unrel l (n + 1) p k := by
  obtain ⟨j, o, h1, h2, h3, h4, h5, h6⟩ := h
  refine ⟨j, o, by omega, h2, h3, h4, h5, fun r g1 g2 g3 => ?_⟩
  by_cases hr : r = n
  · subst hr; rw [h4] at g3; exact hn g3
  · exact h6 r g1 (by omega) g3
theorem pend_succ {l : List Op} {n p k : Nat} (h : Pend l n p k) (hn : ¬ acqB l n (k : Int)) : Pend l (n + 1) p k := by
  obtain ⟨j, o, h1, h2, h3, h4, h5, h6⟩ := h
  refine ⟨j, o, by omega, h2, h3, h4, h5, fun ⟨r, s, g1, g2, g3, g4, g5⟩ => ?_⟩
  by_cases hr : s = n
  · subst hr; exact hn g5
  · exact h6 ⟨r, s, g1, g2, by omega, g4, g5⟩
theorem pend_race {l : List Op} {n p k : Nat} (h : Pend l n p k) {o : Op} (ho : l[n]? = some o) (h1 : o.k ≤ 2) (h2 : o.a = (k : Int)) (h3 : o.p = (p : Int)) : ∃ j, j < n ∧ racP l j n := by
  obtain ⟨j, q, g1, g2, g3, g4, g5, g6⟩ := h
  exact ⟨j, g1, q, o, g2, ho, by omega, h1, by omega, by rw [h2]; exact g4, by rw [h3]; exact g5, by rw [h2]; exact g6⟩
theorem getD_set' (m : List Int) (i p : Nat) (x : Int) (hi : i < m.length) : (m.set i x).getD p 0 = if i = p then x else m.getD p 0 := by
  rw [getD_set]
  by_cases h : i = p
  · rw [if_pos ⟨h, hi⟩, if_pos h]
  · rw [if_neg (fun g => h g.1), if_neg h]
theorem gi_at {c : Cf} {l : List Op} (h : chkF c l = 0) (hf : rfree l) (n : Nat) (hn : n ≤ l.length) :
    (∀ ln jn, jn < 4 → ((ln * 4 + jn : Nat) : Int) < c.W → GI c (stA c l n) ln jn ((drF c l n).1.getD (ln * 4 + jn) 0) (Unrel l n (ln * 4 + jn)) (Pend l n (ln * 4 + jn))) ∧ (stA c l n).vs = (drF c l n).2 := by
  obtain ⟨hcf, hops⟩ := chk_parts h
  induction n with
  | zero =>
    refine ⟨fun ln jn hj hp k es hk => ?_, by simp [stA, drF, initA]⟩
    have := init_row (c := c) hk
    subst this
    refine ⟨by simp, by simp, by simp, by simp, fun _ => Or.inl ?_⟩
    show (initA c).m.getD _ 0 = _
    rw [init_word]
    simp [drF]
    rw [List.getElem?_replicate]; split <;> rfl
  | succ n ih =>
    obtain ⟨ih1, ih2⟩ := ih (by omega)
    have hlt : n < l.length := by omega
    have hA := st_ok h n (by omega)
    obtain ⟨o, ho⟩ : ∃ o, l[n] = o := ⟨_, rfl⟩
    have hoo : l[n]? = some o := by rw [List.getElem?_eq_getElem hlt, ho]
    have hok := hops _ (List.getElem_mem hlt)
    have hst := stA_succ c l n hlt
    have hdr := drF_succ c l n hlt
    have hdl := (drF_len c l n (by omega)).1
    rw [ho] at hok hst hdr
    obtain ⟨q1, q2, q3, q4, q5, q6⟩ := id hok
    have hds : ∀ p b k, b ≠ k → Unrel l n p b → Pend l n p k := fun p b k => unrel_pend
    have hka : (o.a.toNat : Int) = o.a := by omega
    have hkL : (o.a.toNat : Int) < c.L := by omega
    have nrel : o.k ≠ 4 → ∀ k : Nat, ¬ relB l n (k : Int) := fun h4 k ⟨o', g1, g2, _⟩ => by
      rw [hoo] at g1; obtain rfl := Option.some.inj g1; exact h4 g2
    have nacq : o.k ≠ 3 → ∀ k : Nat, ¬ acqB l n (k : Int) := fun h3 k ⟨o', g1, g2, _⟩ => by
      rw [hoo] at g1; obtain rfl := Option.some.inj g1; exact h3 g2
    have nrelo : ∀ k : Nat, k ≠ o.a.toNat → ¬ relB l n (k : Int) := fun k hk ⟨o', g1, _, g3⟩ => by
      rw [hoo] at g1; obtain rfl := Option.some.inj g1; omega
    have nacqo : ∀ k : Nat, k ≠ o.a.toNat → ¬ acqB l n (k : Int) := fun k hk ⟨o', g1, _, g3⟩ => by
      rw [hoo] at g1; obtain rfl := Option.some.inj g1; omega
    rw [hst, hdr]
    rcases op_cases hok (stA c l n) with ⟨hk, hp, e⟩ | ⟨hk, hp, e⟩ | ⟨hk, e⟩ | ⟨hk, e⟩
    · rw [e]
      have hpa : (o.p.toNat : Int) = o.p := by omega
      have hdrs : drS (drF c l n) o = ((drF c l n).1, (drF c l n).2 ++ [(drF c l n).1.getD o.p.toNat 0]) := by unfold drS; rw [if_pos hk]
      rw [hdrs]
      refine ⟨fun ln jn hj hpw => ?_, ?_⟩
      · exact ((ih1 ln jn hj hpw).stp (hds _) hj hA hkL (stp_get hA hkL hp)).mono (fun k g => unrel_succ g (nrel (by omega) k)) (fun k g => pend_succ g (nacq (by omega) k))
      · have hsp : o.p.toNat = o.p.toNat / 4 * 4 + o.p.toNat % 4 := by omega
        have hns : ¬ Pend l n (o.p.toNat / 4 * 4 + o.p.toNat % 4) o.a.toNat := fun g => by
          obtain ⟨j, hj, hr⟩ := pend_race g hoo (by omega) hka.symm (by omega)
          exact hf j n hj hr
        have := (ih1 (o.p.toNat / 4) (o.p.toNat % 4) (Nat.mod_lt _ (by decide)) (by omega)).told (hds _) (Nat.mod_lt _ (by decide)) hA hkL (by omega) hns
        rw [← hsp] at this
        rw [this, ih2]
    · rw [e]
      have hpa : (o.p.toNat : Int) = o.p := by omega
      have hdrs : drS (drF c l n) o = ((drF c l n).1.set o.p.toNat o.v, (drF c l n).2) := by unfold drS; rw [if_neg (by omega), if_pos hk]
      rw [hdrs]
      refine ⟨fun ln jn hj hpw => ?_, by show (putA c (stA c l n) o.a.toNat o.p.toNat o.v).vs = _; rw [put_vs]; exact ih2⟩
      have hlp : o.p.toNat < (drF c l n).1.length := by omega
      simp only
      rw [getD_set' _ _ _ _ hlp]
      by_cases hpp : o.p.toNat = ln * 4 + jn
      · rw [if_pos hpp]
        have hrc : ∀ b, Pend l n (ln * 4 + jn) b → b ≠ o.a.toNat := fun b g hb => by
          obtain ⟨j, hj, hr⟩ := pend_race g hoo (by omega) (by omega) (by omega)
          exact hf j n hj hr
        have := (ih1 ln jn hj hpw).putS (DK' := Unrel l (n + 1) (ln * 4 + jn)) (SK' := Pend l (n + 1) (ln * 4 + jn)) (v := o.v) (hds _) hj hA hkL hpw (fun b hb hd => by
            exact hrc o.a.toNat (hds _ b _ hb ((ih1 ln jn hj hpw).dk hd)) rfl) ⟨n, o, by omega, hoo, hk, by omega, by omega, fun r g1 g2 => by omega⟩ (fun b hb => ⟨n, o, by omega, hoo, hk, by omega, by omega, fun ⟨r, s, g1, g2, g3, _⟩ => by omega⟩)
        rw [← hpp] at this ⊢
        exact this
      · rw [if_neg hpp]
        exact ((ih1 ln jn hj hpw).putO (hds _) hj hA hkL hp hpp).mono (fun k g => unrel_succ g (nrel (by omega) k)) (fun k g => pend_succ g (nacq (by omega) k))
    · rw [e]
      have hdrs : drS (drF c l n) o = drF c l n := by unfold drS; rw [if_neg (by omega), if_neg (by omega)]
      rw [hdrs]
      refine ⟨fun ln jn hj hpw => ?_, ih2⟩
      exact ((ih1 ln jn hj hpw).acq hj hA hkL (fun b hb g => pend_succ g (nacqo b hb))).mono (fun k g => unrel_succ g (nrel (by omega) k)) (fun k g => g)
    · rw [e]
      have hdrs : drS (drF c l n) o = drF c l n := by unfold drS; rw [if_neg (by omega), if_neg (by omega)]
      rw [hdrs]
      refine ⟨fun ln jn hj hpw => ?_, by rw [show (relA (stA c l n) o.a.toNat).vs = (stA c l n).vs from rels_vs _ _ _]; exact ih2⟩
      exact (((ih1 ln jn hj hpw).rel (hds _) hj hA hkL (fun b hb g => unrel_succ g (nrelo b hb))).1).mono (fun k g => g) (fun k g => pend_succ g (nacq (by omega) k))
/-- the releases at the end -/
theorem rels_clean {c : Cf} {A : AS} (hA : Ok c A) {ln jn : Nat} {x : Int} {DK SK : Nat → Prop} (hds : ∀ b k, b ≠ k → DK b → SK k) (hjn : jn < 4) (h : GI c A ln jn x DK SK) : ∀ n : Nat, (n : Int) ≤ c.L → Ok c ((List.range n).foldl relA A) ∧ GI c ((List.range n).foldl relA A) ln jn x DK SK ∧ ∀ b, b < n → ¬ DirtyR ((List.range n).foldl relA A) ln jn b
  | 0, _ => ⟨hA, h, fun b hb => by omega⟩
  | n + 1, hn => by
    obtain ⟨h1, h2, h3⟩ := rels_clean hA hds hjn h n (by omega)
    rw [range_succ_foldl]
    obtain ⟨g1, g2⟩ := h2.rel (DK' := DK) hds hjn h1 (k := n) (by omega) (fun _ _ a => a)
    refine ⟨h1.rel n, g1, fun b hb => ?_⟩
    by_cases hbn : b = n
    · subst hbn; exact g2
    · intro hd
      exact h3 b (by omega) ((dirty_oth (fun k' hk' => rel_other hk' _) hbn).1 hd)
theorem gi_end {c : Cf} {l : List Op} (h : chkF c l = 0) (hf : rfree l) : (runA c l).vs = (drF c l l.length).2 ∧ (runA c l).m = (drF c l l.length).1 := by
  obtain ⟨hcf, hops⟩ := chk_parts h
  obtain ⟨h1, h2⟩ := gi_at h hf l.length (Nat.le_refl _)
  have hA := st_ok h l.length (Nat.le_refl _)
  refine ⟨by rw [run_vs, h2], ?_⟩
  have hL : ((c.L.toNat : Nat) : Int) ≤ c.L := by have := hcf.1; omega
  have hrun : runA c l = (List.range c.L.toNat).foldl relA (stA c l l.length) := by unfold runA stA; rw [List.take_of_length_le (Nat.le_refl _)]
  have hdl := (drF_len c l l.length (Nat.le_refl _)).1
  have hds : ∀ p b k, b ≠ k → Unrel l l.length p b → Pend l l.length p k := fun p b k => unrel_pend
  rw [hrun]
  have hW : 4 ≤ c.W ∧ c.W % 4 = 0 := ⟨hcf.2.2.1, hcf.2.2.2.2.1⟩
  have hO := (rels_clean hA (hds 0) (by decide : 0 < 4) (h1 0 0 (by decide) (by omega)) c.L.toNat hL).1
  have hml : ((List.range c.L.toNat).foldl relA (stA c l l.length)).m.length = c.W.toNat := by have := hO.ml; omega
  apply List.ext_getElem
  · rw [hml, hdl]
  · intro p hp1 hp2
    have hpw : ((p / 4 * 4 + p % 4 : Nat) : Int) < c.W := by omega
    have hsp : p / 4 * 4 + p % 4 = p := by omega
    obtain ⟨_, g2, g3⟩ := rels_clean hA (hds _) (Nat.mod_lt p (by decide)) (h1 (p / 4) (p % 4) (Nat.mod_lt _ (by decide)) hpw) c.L.toNat hL
    obtain ⟨B, hB⟩ : ∃ B, (List.range c.L.toNat).foldl relA (stA c l l.length) = B := ⟨_, rfl⟩
    rw [hB] at hO g2 g3
    obtain ⟨es, hes⟩ : ∃ es, B.cs[0]? = some es := ⟨_, List.getElem?_eq_getElem (by have := hO.cl; have := hcf.1; omega)⟩
    have hlen : ∀ b, DirtyR B (p / 4) (p % 4) b → b < c.L.toNat := fun b ⟨fs, e, k1, _⟩ => by
      have := (List.getElem?_eq_some_iff.1 k1).1
      have := hO.cl
      omega
    obtain ⟨_, _, _, _, g4⟩ := g2 0 es hes
    have hm : B.m.getD (p / 4 * 4 + p % 4) 0 = (drF c l l.length).1.getD (p / 4 * 4 + p % 4) 0 := by
      rcases g4 (fun e he hl => by
        cases ht : e.t (p % 4) with
        | false => rfl
        | true => exact absurd ⟨es, e, hes, he, hl, ht⟩ (g3 0 (by have := hcf.1; omega))) with h6 | ⟨b, _, h6⟩
      · exact h6
      · exact absurd h6 (g3 b (hlen b h6))
    rw [hsp] at hm
    have hm1 := getD_in B.m p (by rw [← hB]; exact hp1)
    have hm2 := getD_in (drF c l l.length).1 p hp2
    rw [hm1, hm2] at hm
    simp only [hB]
    exact hm
end Go.Proofs.Ytggidakiflnhhaa
