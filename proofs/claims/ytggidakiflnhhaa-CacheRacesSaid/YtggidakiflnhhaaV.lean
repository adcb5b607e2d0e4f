import Derived.Test.YtggidakiflnhhaaM
namespace Go.Proofs.Ytggidakiflnhhaa
open Go.RowKit
set_option maxHeartbeats 1000000
set_option maxRecDepth 100000
set_option linter.unusedSimpArgs false
set_option linter.unusedVariables false

/-! ### words of memory and of entries -/
theorem getD_set (m : List Int) (i p : Nat) (x : Int) : (m.set i x).getD p 0 = if i = p ∧ i < m.length then x else m.getD p 0 := by
  rw [List.getD_eq_getElem?_getD, List.getD_eq_getElem?_getD, List.getElem?_set]
  by_cases h : i = p
  · subst h
    by_cases h2 : i < m.length
    · simp [h2]
    · simp [h2, List.getElem?_eq_none (Nat.le_of_not_lt h2)]
  · simp [h]
theorem wrS_get (e : En) (m : List Int) (i : Nat) (hl : e.l * 4 + 4 ≤ m.length) (hi : i < 4) (p : Nat) : (wrS e m i).getD p 0 = if e.l * 4 + i = p ∧ e.t i = true then e.d i else m.getD p 0 := by
  unfold wrS
  by_cases h : e.t i = true
  · rw [if_pos h, getD_set]
    by_cases h2 : e.l * 4 + i = p
    · rw [if_pos ⟨h2, by omega⟩, if_pos ⟨h2, h⟩]
    · rw [if_neg (fun x => h2 x.1), if_neg (fun x => h2 x.1)]
  · rw [if_neg h, if_neg (fun x => h x.2)]
theorem wrM_get (m : List Int) (e : En) (hl : e.l * 4 + 4 ≤ m.length) (ln j : Nat) (hj : j < 4) : (wrM m e).getD (ln * 4 + j) 0 = if e.l = ln ∧ e.t j = true then e.d j else m.getD (ln * 4 + j) 0 := by
  have h0 : (wrM m e) = wrS e (wrS e (wrS e (wrS e m 0) 1) 2) 3 := rfl
  rw [h0, wrS_get e _ 3 (by simp only [wrS_len]; exact hl) (by decide), wrS_get e _ 2 (by simp only [wrS_len]; exact hl) (by decide), wrS_get e _ 1 (by simp only [wrS_len]; exact hl) (by decide), wrS_get e _ 0 hl (by decide)]
  by_cases hln : e.l = ln
  · subst hln
    rcases show j = 0 ∨ j = 1 ∨ j = 2 ∨ j = 3 by omega with rfl | rfl | rfl | rfl <;> simp
  · rw [if_neg (fun h => hln (by have := h.1; omega)), if_neg (fun h => hln (by have := h.1; omega)), if_neg (fun h => hln (by have := h.1; omega)), if_neg (fun h => hln (by have := h.1; omega)), if_neg (fun h => hln h.1)]
/-- the memory behind the writing of an entry -/
def wbm (m : List Int) (e : En) : List Int := if anyT e.t = true then wrM m e else m
theorem wb_m (A : AS) (e : En) : (wb A e).m = wbm A.m e := by unfold wb wbm; split <;> rfl
theorem anyT_of {t : Nat → Bool} {j : Nat} (hj : j < 4) (h : t j = true) : anyT t = true := by
  rcases show j = 0 ∨ j = 1 ∨ j = 2 ∨ j = 3 by omega with rfl | rfl | rfl | rfl <;> simp [anyT, h]
theorem wbm_get (m : List Int) (e : En) (hl : e.l * 4 + 4 ≤ m.length) (ln j : Nat) (hj : j < 4) : (wbm m e).getD (ln * 4 + j) 0 = if e.l = ln ∧ e.t j = true then e.d j else m.getD (ln * 4 + j) 0 := by
  unfold wbm
  by_cases h : anyT e.t = true
  · rw [if_pos h, wrM_get m e hl ln j hj]
  · rw [if_neg h, if_neg (fun x => h (anyT_of hj x.2))]
theorem wbm_len (m : List Int) (e : En) : (wbm m e).length = m.length := by unfold wbm; split; exact wrM_len _ _; rfl
theorem clE_t (e : En) (j : Nat) (hj : j < 4) : (clE e).t j = false := by
  unfold clE
  by_cases h : anyT e.t = true
  · rw [if_pos h]
  · rw [if_neg h]
    cases ht : e.t j with
    | false => rfl
    | true => exact absurd (anyT_of hj ht) h
theorem clE_d (e : En) : (clE e).d = e.d := by unfold clE; split <;> rfl
theorem clE_v (e : En) : (clE e).v = e.v := by unfold clE; split <;> rfl
theorem ftS_t (m : List Int) (e : En) (i : Nat) : (ftS m e i).t = e.t := by unfold ftS; split <;> rfl
theorem ftE_t (m : List Int) (e : En) : (ftE m e).t = e.t := by
  show (ftS m (ftS m (ftS m (ftS m e 0) 1) 2) 3).t = e.t
  rw [ftS_t, ftS_t, ftS_t, ftS_t]
theorem ftS_v (m : List Int) (e : En) (i j : Nat) : (ftS m e i).v j = (e.v j || decide (j = i)) := by
  unfold ftS
  by_cases h : e.v i = true
  · rw [if_pos h]
    by_cases hj : j = i
    · subst hj; simp [h]
    · simp [hj]
  · rw [if_neg h]
    simp only [upd]
    by_cases hj : j = i
    · simp [hj]
    · simp [hj]
theorem ftS_d (m : List Int) (e : En) (i j : Nat) : (ftS m e i).d j = if j = i ∧ e.v i = false then m.getD (e.l * 4 + i) 0 else e.d j := by
  unfold ftS
  by_cases h : e.v i = true
  · rw [if_pos h, if_neg (fun x => by rw [x.2] at h; cases h)]
  · rw [if_neg h]
    have h' : e.v i = false := by simpa using h
    simp only [upd]
    by_cases hj : j = i
    · simp [hj, h']
    · simp [hj]
theorem ftE_v (m : List Int) (e : En) (j : Nat) (hj : j < 4) : (ftE m e).v j = true := by
  show (ftS m (ftS m (ftS m (ftS m e 0) 1) 2) 3).v j = true
  rw [ftS_v, ftS_v, ftS_v, ftS_v]
  rcases show j = 0 ∨ j = 1 ∨ j = 2 ∨ j = 3 by omega with rfl | rfl | rfl | rfl <;> simp
theorem ftE_d (m : List Int) (e : En) (j : Nat) (hj : j < 4) : (ftE m e).d j = if e.v j = true then e.d j else m.getD (e.l * 4 + j) 0 := by
  show (ftS m (ftS m (ftS m (ftS m e 0) 1) 2) 3).d j = _
  rw [ftS_d, ftS_d, ftS_d, ftS_d]
  simp only [ftS_v, ftS_l]
  rcases show j = 0 ∨ j = 1 ∨ j = 2 ∨ j = 3 by omega with rfl | rfl | rfl | rfl
  · cases h : e.v 0 <;> simp [h]
  · cases h : e.v 1 <;> simp [h]
  · cases h : e.v 2 <;> simp [h]
  · cases h : e.v 3 <;> simp [h]

/-! ### what the steps of a cache keep -/
/-- a property of the memory and of a cache that all steps but writes keep -/
structure Cl (c : Cf) (k : Nat) (F : List Int → List En → Prop) : Prop where
  ev : ∀ (m : List Int) (e : En) (es : List En), (∀ f ∈ e :: es, f.l * 4 + 4 ≤ m.length) → ((e :: es).map En.l).Nodup → F m (e :: es) → F (wbm m e) es
  en : ∀ (m : List Int) (es : List En) (l : Nat), hmF c l ≠ (k : Int) → l ∉ es.map En.l → l * 4 + 4 ≤ m.length → F m es → F m (es ++ [ftE m (newE l)])
  mv : ∀ (m : List Int) (es : List En) (j : Nat) (hj : j < es.length), F m es → F m (es.eraseIdx j ++ [es[j]])
  ft : ∀ (m : List Int) (es : List En) (j : Nat) (hj : j < es.length), (es.map En.l).Nodup → F m es → F m (es.eraseIdx j ++ [ftE m es[j]])
  rl : ∀ (m : List Int) (es : List En) (j : Nat) (hj : j < es.length), (∀ f ∈ es, f.l * 4 + 4 ≤ m.length) → (es.map En.l).Nodup → F m es → F (wbm m es[j]) (es.set j (clE es[j]))
  ac : ∀ (m : List Int) (es : List En), F m es → F m ((es.map acE).filter (fun e => anyT e.v))
theorem rowA_set {A : AS} {k : Nat} {es fs : List En} (h : A.cs[k]? = some fs) {B : AS} (hB : B.cs = A.cs.set k es) : B.cs[k]? = some es := by
  rw [hB, List.getElem?_set_self (List.getElem?_eq_some_iff.1 h).1]
section
variable {c : Cf} {k : Nat} {F : List Int → List En → Prop}
theorem Cl.evict (H : Cl c k F) {A : AS} (hA : Ok c A) {es : List En} (hc : A.cs[k]? = some es) (h : F A.m es) : F (evA c A k es).m (evL c es) := by
  unfold evA evL
  split
  · cases es with
    | nil =>
      rename_i h0
      exfalso
      have := hA.cf.2.2.2.2.2.1
      simp at h0
      omega
    | cons e es =>
      show F (wb A e).m es
      rw [wb_m]
      exact H.ev A.m e es (fun f hf => hA.lin k _ f hc hf) (hA.uni k _ hc) h
  · exact h
theorem Cl.entF (H : Cl c k F) {A : AS} (hA : Ok c A) {es : List En} (hc : A.cs[k]? = some es) {x : Nat} (hx : fiF es x = none) (hl : x * 4 + 4 ≤ A.m.length) (hh : hmF c x ≠ (k : Int)) (h : F A.m es) :
    F (entF c A k es x).m (evL c es ++ [ftE (evA c A k es).m (newE x)]) :=
  H.en (evA c A k es).m (evL c es) x hh (fun hm => fiF_none hx (((evL_sub c es).map _).subset hm)) (by rw [evA_m]; exact hl) (H.evict hA hc h)
theorem Cl.ahS (H : Cl c k F) {A : AS} (hA : Ok c A) {es : List En} (hc : A.cs[k]? = some es) (x j : Nat) (h : F A.m es) : ∃ fs, (ahS c k x A j).cs[k]? = some fs ∧ F (ahS c k x A j).m fs := by
  unfold Ytggidakiflnhhaa.ahS
  rw [rowA_some hc]
  split
  · rename_i hx
    have := hA.ml
    exact ⟨_, rowA_set hc rfl, H.entF hA hc hx.2.2 (by have := hx.1; omega) hx.2.1 h⟩
  · exact ⟨es, hc, h⟩
theorem Cl.ahead (H : Cl c k F) {A : AS} (hA : Ok c A) {es : List En} (hc : A.cs[k]? = some es) (x : Nat) (is : List Nat) (h : F A.m es) : ∃ fs, (is.foldl (Ytggidakiflnhhaa.ahS c k x) A).cs[k]? = some fs ∧ F (is.foldl (Ytggidakiflnhhaa.ahS c k x) A).m fs := by
  induction is generalizing A es with
  | nil => exact ⟨es, hc, h⟩
  | cons i is ih =>
    obtain ⟨fs, h1, h2⟩ := H.ahS hA hc x i h
    exact ih (hA.ahS k x i) h1 h2
theorem Cl.rlS (H : Cl c k F) {A : AS} (hA : Ok c A) {es : List En} (hc : A.cs[k]? = some es) (i : Nat) (h : F A.m es) : ∃ fs, (rlS k A i).cs[k]? = some fs ∧ F (rlS k A i).m fs := by
  unfold Ytggidakiflnhhaa.rlS
  rw [rowA_some hc]
  cases he : es[i]? with
  | none => exact ⟨es, hc, h⟩
  | some e =>
    obtain ⟨hi, rfl⟩ := List.getElem?_eq_some_iff.1 he
    refine ⟨es.set i (clE es[i]), rowA_set hc rfl, ?_⟩
    show F (wb A es[i]).m _
    rw [wb_m]
    exact H.rl A.m es i hi (fun f hf => hA.lin k _ f hc hf) (hA.uni k _ hc) h
end
end Go.Proofs.Ytggidakiflnhhaa
