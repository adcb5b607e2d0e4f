import Derived.Test.YtggidakiflnhhaaY
namespace Go.Proofs.Ytggidakiflnhhaa
open Go.RowKit
set_option maxHeartbeats 1000000
set_option maxRecDepth 100000
set_option linter.unusedSimpArgs false
set_option linter.unusedVariables false

theorem kdN_le (q : Int) (l : List Op) (i : Nat) : kdN q l i ≤ l.length := by
  unfold kdN
  refine Nat.le_trans (List.length_filter_le _ _) ?_
  rw [List.length_take]; omega
theorem run_ok {c : Cf} {l : List Op} (h : chkF c l = 0) : Ok c (runA c l) := by
  have h1 := st_ok h l.length (Nat.le_refl _)
  unfold stA at h1
  rw [List.take_length] at h1
  unfold runA
  generalize l.foldl (opA c) (initA c) = B at h1
  generalize List.range c.L.toNat = is
  induction is generalizing B with
  | nil => exact h1
  | cons k is ih => rw [List.foldl_cons]; exact ih _ (h1.rel k)
theorem run_mem {c : Cf} {l : List Op} (h : chkF c l = 0) : ((runA c l).m.length : Int) = c.W := (run_ok h).ml
theorem run_len {c : Cf} {l : List Op} (h : chkF c l = 0) : (runA c l).vs.length = kdN 1 l l.length := by rw [run_vs]; exact st_len h _ (Nat.le_refl _)
theorem BJ_drew {w w' : World} (h : Below w.heap.size w w') : Below w.heap.size w w' := h

/-! ### counts -/
/-- how many entries are dirty -/
def dyN (es : List En) : Nat := es.countP (fun e => anyT e.t)
def tot (A : AS) : Nat := A.wr + (A.cs.map dyN).sum
theorem sum_set (l : List Nat) (k : Nat) (hk : k < l.length) (x : Nat) : (l.set k x).sum + l[k] = l.sum + x := by
  induction l generalizing k with
  | nil => simp at hk
  | cons y l ih =>
    cases k with
    | zero => simp; omega
    | succ k =>
      have := ih k (by simpa using hk)
      simp at this ⊢
      omega
/-- the counts of f and h, and what is written and dirty -/
structure Ct (A B : AS) (f h t : Nat) : Prop where
  f : B.f ≤ A.f + f
  h : B.h ≤ A.h + h
  t : tot B ≤ tot A + t
theorem Ct.refl (A : AS) : Ct A A 0 0 0 := ⟨Nat.le_refl _, Nat.le_refl _, Nat.le_refl _⟩
theorem Ct.trans {A B C : AS} {f1 h1 t1 f2 h2 t2 : Nat} (a : Ct A B f1 h1 t1) (b : Ct B C f2 h2 t2) : Ct A C (f1 + f2) (h1 + h2) (t1 + t2) :=
  ⟨by have := a.f; have := b.f; omega, by have := a.h; have := b.h; omega, by have := a.t; have := b.t; omega⟩
theorem Ct.mono {A B : AS} {f h t f' h' t' : Nat} (a : Ct A B f h t) (e1 : f ≤ f') (e2 : h ≤ h') (e3 : t ≤ t') : Ct A B f' h' t' :=
  ⟨by have := a.f; omega, by have := a.h; omega, by have := a.t; omega⟩
theorem tot_set {A B : AS} {k : Nat} {es fs : List En} {t : Nat} (hc : A.cs[k]? = some es) (hB : B.cs = A.cs.set k fs) (h : B.wr + dyN fs ≤ A.wr + dyN es + t) : tot B ≤ tot A + t := by
  obtain ⟨hk, he⟩ := List.getElem?_eq_some_iff.1 hc
  have := sum_set (A.cs.map dyN) k (by simpa using hk) (dyN fs)
  unfold tot
  rw [hB, List.map_set]
  simp only [List.getElem_map, he] at this
  omega
theorem dy_perm {es fs : List En} (h : List.Perm es fs) : dyN es = dyN fs := h.countP_eq _
theorem dy_snoc (es : List En) (e : En) : dyN (es ++ [e]) = dyN es + if anyT e.t = true then 1 else 0 := by
  unfold dyN
  rw [List.countP_append, List.countP_singleton]
theorem dy_move {es : List En} {j : Nat} (hj : j < es.length) (e : En) : dyN (es.eraseIdx j ++ [e]) + (if anyT es[j].t = true then 1 else 0) = dyN es + if anyT e.t = true then 1 else 0 := by
  have h1 := dy_perm (erase_perm es j hj)
  rw [dy_snoc] at h1 ⊢
  omega
theorem dy_set {es : List En} {j : Nat} (hj : j < es.length) (e : En) : dyN (es.set j e) + (if anyT es[j].t = true then 1 else 0) = dyN es + if anyT e.t = true then 1 else 0 := by
  induction es generalizing j with
  | nil => simp at hj
  | cons x es ih =>
    unfold dyN at ih ⊢
    cases j with
    | zero => simp only [List.set_cons_zero, List.countP_cons, List.getElem_cons_zero]; omega
    | succ j =>
      have := ih (j := j) (by simpa using hj)
      simp only [List.set_cons_succ, List.countP_cons, List.getElem_cons_succ]
      omega
theorem wb_wr (A : AS) (e : En) : (wb A e).wr = A.wr + if anyT e.t = true then 1 else 0 := by unfold wb; split <;> rfl
theorem wb_f (A : AS) (e : En) : (wb A e).f = A.f := by unfold wb; split <;> rfl
theorem wb_h (A : AS) (e : En) : (wb A e).h = A.h := by unfold wb; split <;> rfl
theorem evA_h (c : Cf) (A : AS) (k : Nat) (es : List En) : (evA c A k es).h = A.h := by unfold evA; split; exact wb_h _ _; rfl
theorem evA_wr {c : Cf} {A : AS} (hA : Ok c A) (k : Nat) (es : List En) : (evA c A k es).wr + dyN (evL c es) = A.wr + dyN es := by
  unfold evA evL
  split
  · cases es with
    | nil =>
      rename_i h0
      exfalso
      have := hA.cf.2.2.2.2.2.1
      simp at h0
      omega
    | cons e es =>
      show (wb A e).wr + dyN es = _
      rw [wb_wr]
      unfold dyN
      rw [List.countP_cons]
      omega
  · rfl
theorem ct_entF {c : Cf} {A : AS} (hA : Ok c A) {k : Nat} {es : List En} (hc : A.cs[k]? = some es) (x : Nat) : Ct A (entF c A k es x) 1 0 0 := by
  refine ⟨by show A.f + 1 ≤ _; omega, by show (evA c A k es).h ≤ _; rw [evA_h]; omega, tot_set hc rfl ?_⟩
  have := evA_wr hA k es
  rw [dy_snoc, ftE_t]
  show (evA c A k es).wr + _ ≤ _
  have h0 : anyT (newE x).t = false := rfl
  rw [h0, if_neg (by decide)]
  omega
theorem ct_ahS {c : Cf} {A : AS} (hA : Ok c A) {k : Nat} (hk : k < A.cs.length) (x j : Nat) : Ct A (ahS c k x A j) 1 0 0 := by
  have hc := List.getElem?_eq_getElem hk
  unfold ahS
  rw [rowA_some hc]
  split
  · exact ct_entF hA hc _
  · exact (Ct.refl A).mono (by omega) (by omega) (by omega)
theorem ct_ahead {c : Cf} {A : AS} (hA : Ok c A) {k : Nat} (hk : (k : Int) < c.L) (x : Nat) (is : List Nat) : Ct A (is.foldl (ahS c k x) A) is.length 0 0 := by
  induction is generalizing A with
  | nil => exact Ct.refl A
  | cons i is ih =>
    have h1 := ct_ahS hA (k := k) (by have := hA.cl; omega) x i
    refine (h1.trans (ih (hA.ahS k x i))).mono ?_ (by omega) (by omega)
    simp; omega
theorem ct_fill {c : Cf} {A : AS} (hA : Ok c A) {k : Nat} (hk : (k : Int) < c.L) (x : Nat) : Ct A (fillA c A k x) 1 0 0 := by
  have hkl : k < A.cs.length := by have := hA.cl; omega
  have hc := List.getElem?_eq_getElem hkl
  unfold fillA
  rw [rowA_some hc]
  cases hf : fiF A.cs[k] x with
  | none => exact ct_entF hA hc _
  | some j =>
    obtain ⟨hj, _⟩ := fiF_some hf
    refine ⟨Nat.le_refl _, Nat.le_refl _, tot_set hc rfl ?_⟩
    show A.wr + _ ≤ _
    have := dy_move hj (ftE A.m A.cs[k][j])
    rw [ftE_t] at this
    rw [getD_row hj]
    omega
theorem ct_use {A : AS} {k : Nat} {es : List En} (hc : A.cs[k]? = some es) {j : Nat} (hj : j < es.length) (vs : List Int) : Ct A { A with cs := A.cs.set k (useL es j es[j]), vs := vs } 0 0 0 := by
  refine ⟨Nat.le_refl _, Nat.le_refl _, tot_set hc rfl ?_⟩
  show A.wr + dyN (es.eraseIdx j ++ [es[j]]) ≤ _
  have := dy_move hj es[j]
  omega
theorem ct_get {c : Cf} {A : AS} (hA : Ok c A) {k p : Nat} (hk : (k : Int) < c.L) (hp : (p : Int) < c.W) : Ct A (getA c A k p) (1 + ahN c) 1 0 := by
  cases get_way hA k p hk hp with
  | home _ e => rw [e]; exact ⟨by show A.f ≤ _; omega, by show A.h ≤ _; omega, Nat.le_refl _⟩
  | hit _ es j hj hc _ _ e =>
    rw [e]
    have h1 := ct_use hc hj (A.vs ++ [es[j].d (p % 4)])
    exact ⟨by show A.f ≤ _; omega, by show A.h + 1 ≤ _; omega, h1.t⟩
  | miss _ B hB hO es j hj hc _ _ e =>
    rw [e]
    have hx : p / 4 * 4 + 4 ≤ A.m.length := by have h1 := hA.ml; obtain ⟨_, _, _, _, o5, _⟩ := hA.cf; omega
    have h1 := ct_fill hA hk (p / 4)
    have h2 := ct_ahead (hA.fill k (p / 4) hx) hk (p / 4) (List.range (ahN c))
    have h3 := ct_use hc hj (A.vs ++ [es[j].d (p % 4)])
    have hB' : (List.range (ahN c)).foldl (ahS c k (p / 4)) (fillA c A k (p / 4)) = B := hB.symm
    rw [hB', List.length_range] at h2
    exact ((h1.trans h2).trans h3).mono (by omega) (by omega) (by omega)
theorem ct_put {c : Cf} {A : AS} (hA : Ok c A) {k p : Nat} {v : Int} (hk : (k : Int) < c.L) : Ct A (putA c A k p v) 0 1 1 := by
  cases put_way hA k p v hk with
  | home _ e => rw [e]; exact ⟨Nat.le_refl _, by show A.h ≤ _; omega, by show tot A ≤ _; omega⟩
  | old _ es hc j hj _ e =>
    rw [e]
    refine ⟨Nat.le_refl _, Nat.le_refl _, tot_set hc rfl ?_⟩
    show A.wr + _ ≤ _
    have := dy_move hj (wrE es[j] (p % 4) v)
    have h2 : (if anyT (wrE es[j] (p % 4) v).t = true then 1 else 0) ≤ 1 := by split <;> omega
    omega
  | new _ es hc _ e =>
    rw [e]
    refine ⟨by show (evA c A k es).f ≤ _; rw [evA_f]; omega, by show (evA c A k es).h ≤ _; rw [evA_h]; omega, tot_set hc rfl ?_⟩
    show (evA c A k es).wr + _ ≤ _
    have := evA_wr hA k es
    rw [dy_snoc]
    have h2 : (if anyT (wrE (newE (p / 4)) (p % 4) v).t = true then 1 else 0) ≤ 1 := by split <;> omega
    omega
theorem dy_acq (es : List En) : dyN ((es.map acE).filter (fun e => anyT e.v)) ≤ dyN es := by
  unfold dyN
  refine Nat.le_trans (List.Sublist.countP_le (List.filter_sublist)) ?_
  rw [List.countP_map]
  exact Nat.le_refl _
theorem ct_acq {c : Cf} {A : AS} (hA : Ok c A) {k : Nat} (hk : (k : Int) < c.L) : Ct A (acqA A k) 0 0 0 := by
  have hkl : k < A.cs.length := by have := hA.cl; omega
  have hc := List.getElem?_eq_getElem hkl
  refine ⟨Nat.le_refl _, Nat.le_refl _, tot_set hc rfl ?_⟩
  show A.wr + _ ≤ _
  rw [rowA_some hc]
  have := dy_acq A.cs[k]
  omega
theorem ct_rlS {c : Cf} {A : AS} (hA : Ok c A) {k : Nat} (hk : (k : Int) < c.L) (i : Nat) : Ct A (rlS k A i) 0 0 0 := by
  have hkl : k < A.cs.length := by have := hA.cl; omega
  have hc := List.getElem?_eq_getElem hkl
  unfold rlS
  rw [rowA_some hc]
  cases he : A.cs[k][i]? with
  | none => exact Ct.refl A
  | some e =>
    obtain ⟨hi, hie⟩ := List.getElem?_eq_some_iff.1 he
    refine ⟨by show (wb A e).f ≤ _; rw [wb_f]; omega, by show (wb A e).h ≤ _; rw [wb_h]; omega, tot_set hc rfl ?_⟩
    show (wb A e).wr + _ ≤ _
    rw [wb_wr]
    have := dy_set hi (clE e)
    have h0 : anyT (clE e).t = false := by
      unfold anyT
      rw [clE_t e 0 (by decide), clE_t e 1 (by decide), clE_t e 2 (by decide), clE_t e 3 (by decide)]; rfl
    rw [h0, hie, if_neg (show ¬ (false = true) by decide)] at this
    omega
theorem ct_rel {c : Cf} {A : AS} (hA : Ok c A) {k : Nat} (hk : (k : Int) < c.L) : Ct A (relA A k) 0 0 0 := by
  unfold relA
  generalize List.range (rowA A k).length = is
  induction is generalizing A with
  | nil => exact Ct.refl A
  | cons i is ih => exact (ct_rlS hA hk i).trans (ih (hA.rlS k i))
theorem ct_st {c : Cf} {l : List Op} (h : chkF c l = 0) (i : Nat) (hi : i ≤ l.length) : Ct (initA c) (stA c l i) ((1 + ahN c) * kdN 1 l i) (kdN 1 l i + kdN 2 l i) (kdN 2 l i) := by
  obtain ⟨hc, ho⟩ := chk_parts h
  induction i with
  | zero => exact (Ct.refl _).mono (by omega) (by omega) (by omega)
  | succ i ih =>
    have hil : i < l.length := by omega
    have hk0 := ho _ (List.getElem_mem hil)
    have hA := st_ok h i (by omega)
    have hka : (l[i].a.toNat : Int) < c.L := by obtain ⟨h1, h2, _⟩ := hk0; omega
    rw [stA_succ c l i hil, kdN_succ 1 l i hil, kdN_succ 2 l i hil]
    rcases op_cases hk0 (stA c l i) with ⟨hk, hp, e⟩ | ⟨hk, hp, e⟩ | ⟨hk, e⟩ | ⟨hk, e⟩ <;> rw [e, hk]
    · refine ((ih (by omega)).trans (ct_get hA hka hp)).mono ?_ ?_ ?_
      · rw [if_pos rfl, Nat.mul_add]; omega
      · rw [if_pos rfl, if_neg (by decide)]; omega
      · rw [if_neg (by decide)]; omega
    · refine ((ih (by omega)).trans (ct_put hA hka)).mono ?_ ?_ ?_
      · rw [if_neg (by decide)]; exact Nat.le_refl _
      · rw [if_pos rfl, if_neg (by decide)]; omega
      · rw [if_pos rfl]; omega
    · refine ((ih (by omega)).trans (ct_acq hA hka)).mono ?_ ?_ ?_
      · rw [if_neg (by decide)]; exact Nat.le_refl _
      · rw [if_neg (by decide), if_neg (by decide)]; omega
      · rw [if_neg (by decide)]; omega
    · refine ((ih (by omega)).trans (ct_rel hA hka)).mono ?_ ?_ ?_
      · rw [if_neg (by decide)]; exact Nat.le_refl _
      · rw [if_neg (by decide), if_neg (by decide)]; omega
      · rw [if_neg (by decide)]; omega
theorem ct_rels {c : Cf} {A : AS} (hA : Ok c A) (is : List Nat) (hi : ∀ k ∈ is, (k : Int) < c.L) : Ct A (is.foldl relA A) 0 0 0 := by
  induction is generalizing A with
  | nil => exact Ct.refl A
  | cons k is ih => exact (ct_rel hA (hi k (by simp))).trans (ih (hA.rel k) (fun j hj => hi j (by simp [hj])))
/-- one locale: nothing is cached -/
def Bare (A : AS) : Prop := A.f = 0 ∧ A.wr = 0 ∧ A.h = 0 ∧ rowA A 0 = []
theorem rel_bare {A : AS} (h : Bare A) : Bare (relA A 0) := by
  unfold relA
  rw [h.2.2.2]
  exact h
theorem row_set_nil (cs : List (List En)) : (cs.set 0 []).getD 0 [] = [] := by cases cs <;> rfl
theorem hm_one {c : Cf} (hc : cfOk c) (h1 : c.L = 1) {p : Nat} (hp : (p : Int) < c.W) : hmF c (p / 4) = ((0 : Nat) : Int) := by
  unfold hmF
  rw [h1]
  obtain ⟨_, _, o3, _, o5, _⟩ := hc
  rw [Int.mul_one]
  exact Int.ediv_eq_zero_of_lt (by omega) (by omega)
theorem st_bare {c : Cf} {l : List Op} (h : chkF c l = 0) (h1 : c.L = 1) (i : Nat) (hi : i ≤ l.length) : Bare (stA c l i) := by
  obtain ⟨hc, ho⟩ := chk_parts h
  induction i with
  | zero =>
    refine ⟨rfl, rfl, rfl, ?_⟩
    show rowA (initA c) 0 = []
    unfold rowA initA
    rw [h1]
    rfl
  | succ i ih =>
    have hil : i < l.length := by omega
    have hk0 := ho _ (List.getElem_mem hil)
    have ha : l[i].a.toNat = 0 := by obtain ⟨q1, q2, _⟩ := hk0; omega
    have hb := ih (by omega)
    rw [stA_succ c l i hil]
    rcases op_cases hk0 (stA c l i) with ⟨hk, hp, e⟩ | ⟨hk, hp, e⟩ | ⟨hk, e⟩ | ⟨hk, e⟩ <;> rw [e, ha]
    · unfold getA; rw [if_pos (hm_one hc h1 hp)]; exact hb
    · unfold putA; rw [if_pos (hm_one hc h1 hp)]; exact hb
    · refine ⟨hb.1, hb.2.1, hb.2.2.1, ?_⟩
      unfold acqA
      rw [hb.2.2.2]
      exact row_set_nil _
    · exact rel_bare hb
theorem run_st (c : Cf) (l : List Op) : runA c l = (List.range c.L.toNat).foldl relA (stA c l l.length) := by
  unfold runA stA; rw [List.take_length]
theorem count_law {c : Cf} {l : List Op} (h : chkF c l = 0) : ((runA c l).f : Int) ≤ (c.H + 1) * (kdN 1 l l.length : Int) ∧ (runA c l).wr ≤ kdN 2 l l.length ∧ (runA c l).h ≤ kdN 1 l l.length + kdN 2 l l.length ∧ (c.L = 1 → (runA c l).f = 0 ∧ (runA c l).wr = 0 ∧ (runA c l).h = 0) := by
  have h1 := (ct_st h l.length (Nat.le_refl _)).trans (ct_rels (st_ok h l.length (Nat.le_refl _)) (List.range c.L.toNat) (fun k hk => by have := List.mem_range.1 hk; omega))
  rw [← run_st] at h1
  obtain ⟨hc, _⟩ := chk_parts h
  have h0 : tot (initA c) = 0 := by
    unfold tot initA
    simp [dyN]
  refine ⟨?_, ?_, ?_, fun hL => ?_⟩
  · have h2 := h1.f
    have h3 : (initA c).f = 0 := rfl
    have h4 : ((1 + ahN c : Nat) : Int) ≤ c.H + 1 := by
      obtain ⟨_, _, _, _, _, _, _, q1, _⟩ := hc
      unfold ahN; omega
    have h5 : ((1 + ahN c : Nat) : Int) * (kdN 1 l l.length : Int) ≤ (c.H + 1) * (kdN 1 l l.length : Int) := Int.mul_le_mul_of_nonneg_right h4 (by omega)
    rw [h3, Nat.zero_add, Nat.add_zero] at h2
    refine Int.le_trans ?_ h5
    rw [← Int.natCast_mul]
    exact Int.ofNat_le.2 h2
  · have := h1.t
    rw [h0] at this
    unfold tot at this
    omega
  · have := h1.h
    have h3 : (initA c).h = 0 := rfl
    omega
  · have h2 := st_bare h hL l.length (Nat.le_refl _)
    have h3 := rel_bare h2
    rw [run_st, hL]
    exact ⟨h3.1, h3.2.1, h3.2.2.1⟩
end Go.Proofs.Ytggidakiflnhhaa
