import Derived.Test.YtggidakiflnhhaaV
import Derived.Test.YtggidakiflnhhaaR
namespace Go.Proofs.Ytggidakiflnhhaa
open Go.RowKit
set_option maxHeartbeats 1000000
set_option maxRecDepth 100000
set_option linter.unusedSimpArgs false
set_option linter.unusedVariables false

/-! ### the line that was filled stays -/
theorem evL_keep {c : Cf} {es1 es2 : List En} {e : En} (hs : (es2.length : Int) + 1 < c.N) : ∃ es1', evL c (es1 ++ e :: es2) = es1' ++ e :: es2 := by
  unfold evL
  by_cases hf : ((es1 ++ e :: es2).length : Int) = c.N
  · rw [if_pos hf]
    cases es1 with
    | nil => simp at hf; omega
    | cons g es1 => exact ⟨es1, by simp⟩
  · rw [if_neg hf]; exact ⟨es1, rfl⟩
theorem ahead_has {c : Cf} {k x : Nat} {e : En} (i : Nat) (hi : i ≤ ahN c) {A : AS} {es : List En} (hc : A.cs[k]? = some (es ++ [e])) :
    ∃ es1 es2, ((List.range i).foldl (ahS c k x) A).cs[k]? = some (es1 ++ e :: es2) ∧ es2.length ≤ i := by
  induction i with
  | zero => exact ⟨es, [], hc, Nat.le_refl _⟩
  | succ i ih =>
    obtain ⟨es1, es2, h1, h2⟩ := ih (by omega)
    rw [range_succ_foldl]
    obtain ⟨B, hB⟩ : ∃ B, (List.range i).foldl (ahS c k x) A = B := ⟨_, rfl⟩
    rw [hB] at h1 ⊢
    unfold ahS
    rw [rowA_some h1]
    split
    · have hN : (ahN c : Int) ≤ max 0 (c.N - 1) := by unfold ahN; omega
      obtain ⟨es1', h3⟩ := evL_keep (c := c) (es1 := es1) (es2 := es2) (e := e) (by omega)
      refine ⟨es1', es2 ++ [ftE (evA c B k (es1 ++ e :: es2)).m (newE (x + (i + 1)))], ?_, by simp; omega⟩
      rw [rowA_set h1 rfl, h3]
      simp
    · exact ⟨es1, es2, h1, by omega⟩
/-- the ways of a Get -/
inductive GetWay (c : Cf) (A : AS) (k p : Nat) : Prop where
  | home (h : hmF c (p / 4) = (k : Int)) (e : getA c A k p = { A with vs := A.vs ++ [A.m.getD p 0] })
  | hit (h : hmF c (p / 4) ≠ (k : Int)) (es : List En) (j : Nat) (hj : j < es.length) (hc : A.cs[k]? = some es) (hl : es[j].l = p / 4) (hv : es[j].v (p % 4) = true)
      (e : getA c A k p = { A with h := A.h + 1, cs := A.cs.set k (useL es j es[j]), vs := A.vs ++ [es[j].d (p % 4)] })
  | miss (h : hmF c (p / 4) ≠ (k : Int)) (B : AS) (hB : B = aheadA c k (p / 4) (fillA c A k (p / 4))) (hO : Ok c B) (es : List En) (j : Nat) (hj : j < es.length) (hc : B.cs[k]? = some es) (hl : es[j].l = p / 4) (hv : ∀ i, i < 4 → es[j].v i = true)
      (e : getA c A k p = { B with cs := B.cs.set k (useL es j es[j]), vs := A.vs ++ [es[j].d (p % 4)] })
theorem get_way {c : Cf} {A : AS} (hA : Ok c A) (k p : Nat) (hk : (k : Int) < c.L) (hp : (p : Int) < c.W) : GetWay c A k p := by
  have hx : p / 4 * 4 + 4 ≤ A.m.length := by have h1 := hA.ml; obtain ⟨_, _, _, _, o5, _⟩ := hA.cf; omega
  obtain ⟨es, hc⟩ : ∃ es, A.cs[k]? = some es := ⟨_, List.getElem?_eq_getElem (by have := hA.cl; omega)⟩
  have hr := rowA_some hc
  by_cases hh : hmF c (p / 4) = (k : Int)
  · exact .home hh (by unfold getA; rw [if_pos hh])
  · have miss : hitB A k (p / 4) (p % 4) = false → GetWay c A k p := fun hhit => by
      have hO := ok_ahead (hA.fill k (p / 4) hx) k (p / 4) (List.range (ahN c))
      obtain ⟨e, fs, hf, hel, hev⟩ : ∃ e fs, (fillA c A k (p / 4)).cs[k]? = some (fs ++ [e]) ∧ e.l = p / 4 ∧ ∀ i, i < 4 → e.v i = true := by
        unfold fillA
        rw [hr]
        cases hfi : fiF es (p / 4) with
        | some j =>
          obtain ⟨hj, hl⟩ := fiF_some hfi
          exact ⟨_, _, rowA_set hc rfl, by rw [ftE_l, getD_row hj, hl], fun i hi => ftE_v _ _ i hi⟩
        | none => exact ⟨_, _, rowA_set hc rfl, ftE_l _ _, fun i hi => ftE_v _ _ i hi⟩
      obtain ⟨es1, es2, h1, _⟩ := ahead_has (x := p / 4) (ahN c) (Nat.le_refl _) hf
      have hj : es1.length < (es1 ++ e :: es2).length := by simp
      have hje : (es1 ++ e :: es2)[es1.length] = e := by simp
      refine .miss hh _ rfl hO (es1 ++ e :: es2) es1.length hj h1 (by rw [hje]; exact hel) (by rw [hje]; exact hev) ?_
      unfold getA
      rw [if_neg hh, hhit, if_neg (by decide)]
      refine (touch_eq (i := p % 4) hO h1 (j := es1.length) (e := e) (by simp) hel).trans ?_
      rw [hje]
      have hv : ((List.range (ahN c)).foldl (ahS c k (p / 4)) (fillA c A k (p / 4))).vs = A.vs := (ahead_vs c k (p / 4) _).trans (fill_vs _ _ _ _)
      rw [hv]
      rfl
    cases hfi : fiF es (p / 4) with
    | none => exact miss (hit_none hr hfi)
    | some j =>
      obtain ⟨hj, hl⟩ := fiF_some hfi
      cases hvi : es[j].v (p % 4) with
      | false => exact miss (by rw [hit_eq hr hfi, getD_row hj]; exact hvi)
      | true =>
        refine .hit hh es j hj hc hl hvi ?_
        unfold getA
        rw [if_neg hh, hit_eq hr hfi, getD_row hj, hvi, if_pos rfl]
        exact touch_eq (A := { A with h := A.h + 1 }) (hA.same rfl rfl) hc (List.getElem?_eq_getElem hj) hl
section
variable {c : Cf} {k : Nat} {F : List Int → List En → Prop}
theorem Cl.fill (H : Cl c k F) {A : AS} (hA : Ok c A) {es : List En} (hc : A.cs[k]? = some es) {x : Nat} (hl : x * 4 + 4 ≤ A.m.length) (hh : hmF c x ≠ (k : Int)) (h : F A.m es) : ∃ fs, (fillA c A k x).cs[k]? = some fs ∧ F (fillA c A k x).m fs := by
  unfold fillA
  rw [rowA_some hc]
  cases hfi : fiF es x with
  | some j =>
    obtain ⟨hj, _⟩ := fiF_some hfi
    refine ⟨_, rowA_set hc rfl, ?_⟩
    simp only [getD_row hj]
    exact H.ft A.m es j hj (hA.uni k _ hc) h
  | none => exact ⟨_, rowA_set hc rfl, H.entF hA hc hfi hl hh h⟩
/-- behind a Get -/
theorem Cl.get (H : Cl c k F) {A : AS} (hA : Ok c A) {es : List En} (hc : A.cs[k]? = some es) {p : Nat} (hk : (k : Int) < c.L) (hp : (p : Int) < c.W) (h : F A.m es) : ∃ fs, (getA c A k p).cs[k]? = some fs ∧ F (getA c A k p).m fs := by
  cases get_way hA k p hk hp with
  | home _ e => rw [e]; exact ⟨es, hc, h⟩
  | hit hh fs j hj hc2 _ _ e =>
    rw [hc] at hc2
    obtain rfl := Option.some.inj hc2
    rw [e]
    exact ⟨_, rowA_set hc rfl, H.mv A.m es j hj h⟩
  | miss hh B hB hO fs j hj hc2 _ _ e =>
    have hx : p / 4 * 4 + 4 ≤ A.m.length := by have h1 := hA.ml; obtain ⟨_, _, _, _, o5, _⟩ := hA.cf; omega
    obtain ⟨gs, h1, h2⟩ := H.fill hA hc hx hh h
    obtain ⟨ds, h3, h4⟩ := H.ahead (hA.fill k (p / 4) hx) h1 (p / 4) (List.range (ahN c)) h2
    have hB' : B = (List.range (ahN c)).foldl (Ytggidakiflnhhaa.ahS c k (p / 4)) (fillA c A k (p / 4)) := hB
    rw [← hB'] at h3 h4
    rw [h3] at hc2
    obtain rfl := Option.some.inj hc2
    rw [e]
    exact ⟨_, rowA_set h3 rfl, H.mv B.m ds j hj h4⟩
theorem Cl.rel (H : Cl c k F) {A : AS} (hA : Ok c A) {es : List En} (hc : A.cs[k]? = some es) (h : F A.m es) : ∃ fs, (relA A k).cs[k]? = some fs ∧ F (relA A k).m fs := by
  unfold relA
  generalize List.range (rowA A k).length = is
  induction is generalizing A es with
  | nil => exact ⟨es, hc, h⟩
  | cons i is ih =>
    obtain ⟨fs, h1, h2⟩ := H.rlS hA hc i h
    exact ih (hA.rlS k i) h1 h2
theorem Cl.acq (H : Cl c k F) {A : AS} {es : List En} (hc : A.cs[k]? = some es) (h : F A.m es) : ∃ fs, (acqA A k).cs[k]? = some fs ∧ F (acqA A k).m fs := by
  refine ⟨_, rowA_set hc rfl, ?_⟩
  rw [rowA_some hc]
  exact H.ac A.m es h
end
/-- the other caches stand -/
theorem rlS_other {k k' : Nat} (hne : k ≠ k') (A : AS) (i : Nat) : (rlS k A i).cs[k']? = A.cs[k']? := by
  unfold rlS
  split
  · exact List.getElem?_set_ne hne
  · rfl
theorem rel_other {k k' : Nat} (hne : k ≠ k') (A : AS) : (relA A k).cs[k']? = A.cs[k']? := by
  unfold relA
  generalize List.range (rowA A k).length = is
  induction is generalizing A with
  | nil => rfl
  | cons i is ih => rw [List.foldl_cons, ih, rlS_other hne]
theorem ahs_other {c : Cf} {k k' x : Nat} (hne : k ≠ k') (is : List Nat) (A : AS) : (is.foldl (ahS c k x) A).cs[k']? = A.cs[k']? := by
  induction is generalizing A with
  | nil => rfl
  | cons i is ih =>
    rw [List.foldl_cons, ih]
    unfold ahS
    split
    · exact List.getElem?_set_ne hne
    · rfl
theorem fill_other {c : Cf} {k k' x : Nat} (hne : k ≠ k') (A : AS) : (fillA c A k x).cs[k']? = A.cs[k']? := by
  unfold fillA
  split <;> exact List.getElem?_set_ne hne
theorem get_other {c : Cf} {A : AS} (hA : Ok c A) {k k' p : Nat} (hk : (k : Int) < c.L) (hp : (p : Int) < c.W) (hne : k ≠ k') : (getA c A k p).cs[k']? = A.cs[k']? := by
  cases get_way hA k p hk hp with
  | home _ e => rw [e]
  | hit hh fs j hj hc2 _ _ e => rw [e]; exact List.getElem?_set_ne hne
  | miss hh B hB hO fs j hj hc2 _ _ e =>
    rw [e]
    refine (List.getElem?_set_ne hne).trans ?_
    rw [hB]
    exact (ahs_other hne _ _).trans (fill_other hne A)
theorem put_other {c : Cf} {A : AS} {k k' p : Nat} {v : Int} (hne : k ≠ k') : (putA c A k p v).cs[k']? = A.cs[k']? := by
  unfold putA
  split
  · rfl
  · split <;> exact List.getElem?_set_ne hne
theorem acq_other {A : AS} {k k' : Nat} (hne : k ≠ k') : (acqA A k).cs[k']? = A.cs[k']? := List.getElem?_set_ne hne
end Go.Proofs.Ytggidakiflnhhaa
