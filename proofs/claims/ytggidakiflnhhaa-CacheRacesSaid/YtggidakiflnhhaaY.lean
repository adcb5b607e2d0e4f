import Derived.Test.YtggidakiflnhhaaX
namespace Go.Proofs.Ytggidakiflnhhaa
open Go.RowKit
set_option maxHeartbeats 1000000
set_option maxRecDepth 100000
set_option linter.unusedSimpArgs false
set_option linter.unusedVariables false

def AloneA (c : Cf) (a ln jn : Nat) (last : Int) (A : AS) : Prop :=
  (∀ es, A.cs[a]? = some es → Mine c a ln jn last A.m es) ∧ ∀ (k : Nat) es, k ≠ a → A.cs[k]? = some es → ∀ e ∈ es, e.l = ln → e.t jn = false
theorem Mine.same {c : Cf} {a ln jn : Nat} {last : Int} {m m' : List Int} {es : List En} (h : Mine c a ln jn last m es) (hm : m'.getD (ln * 4 + jn) 0 = m.getD (ln * 4 + jn) 0) : Mine c a ln jn last m' es :=
  ⟨h.1, h.2.1, h.2.2.1, fun hq => hm.trans (h.2.2.2 hq)⟩
theorem AloneA.mine {c : Cf} {a ln jn : Nat} {last last' : Int} {A B : AS} (h : AloneA c a ln jn last A) (ho : ∀ k', a ≠ k' → B.cs[k']? = A.cs[k']?) {fs : List En} (hf : B.cs[a]? = some fs) (hg : Mine c a ln jn last' B.m fs) : AloneA c a ln jn last' B := by
  refine ⟨fun es he => ?_, fun k es hne hk => ?_⟩
  · rw [hf] at he; obtain rfl := Option.some.inj he; exact hg
  · rw [ho k (fun e => hne e.symm)] at hk; exact h.2 k es hne hk
theorem AloneA.oth {c : Cf} {a ln jn : Nat} {last : Int} {A B : AS} (h : AloneA c a ln jn last A) {k : Nat} (hka : k ≠ a) (ho : ∀ k', k ≠ k' → B.cs[k']? = A.cs[k']?) {fs : List En} (hf : B.cs[k]? = some fs) (hg : Oth ln jn (A.m.getD (ln * 4 + jn) 0) B.m fs) : AloneA c a ln jn last B := by
  refine ⟨fun es he => ?_, fun k' es hne hk => ?_⟩
  · rw [ho a hka] at he; exact (h.1 es he).same hg.2
  · by_cases hkk : k = k'
    · subst hkk
      rw [hf] at hk
      obtain rfl := Option.some.inj hk
      exact hg.1
    · rw [ho k' hkk] at hk; exact h.2 k' es hne hk
theorem AloneA.stp {c : Cf} {a ln jn : Nat} {last : Int} {A B : AS} (hjn : jn < 4) (hA : Ok c A) (h : AloneA c a ln jn last A) {k : Nat} (hk : (k : Int) < c.L) (hs : Stp c k A B) : AloneA c a ln jn last B := by
  obtain ⟨es, hc⟩ : ∃ es, A.cs[k]? = some es := ⟨_, List.getElem?_eq_getElem (by have := hA.cl; omega)⟩
  by_cases hka : k = a
  · subst hka
    obtain ⟨fs, h1, h2⟩ := hs.own _ (cl_mine c k ln jn last hjn) es hc (h.1 es hc)
    exact h.mine hs.oth h1 h2
  · obtain ⟨fs, h1, h2⟩ := hs.own _ (cl_oth c k ln jn (A.m.getD (ln * 4 + jn) 0) hjn) es hc ⟨h.2 k es hka hc, rfl⟩
    exact h.oth hka hs.oth h1 h2
theorem AloneA.putO {c : Cf} {a ln jn : Nat} {last : Int} {A : AS} (hjn : jn < 4) (hA : Ok c A) (h : AloneA c a ln jn last A) {k p : Nat} {v : Int} (hk : (k : Int) < c.L) (hka : k ≠ a) (hp : p ≠ ln * 4 + jn) : AloneA c a ln jn last (putA c A k p v) := by
  obtain ⟨es0, hc0⟩ : ∃ es, A.cs[k]? = some es := ⟨_, List.getElem?_eq_getElem (by have := hA.cl; omega)⟩
  cases put_way hA k p v hk with
  | home hh e =>
    refine h.oth hka (fun k' hne => put_other hne) (fs := es0) (by rw [e]; exact hc0) ?_
    rw [e]
    refine ⟨h.2 k es0 hka hc0, ?_⟩
    simp only [getD_set]
    rw [if_neg (fun x => hp x.1)]
  | old hh es hc j hj hl e =>
    refine h.oth hka (fun k' hne => put_other hne) (by rw [e]; exact rowA_set hc rfl) ?_
    rw [e]
    refine ⟨fun f hf => ?_, rfl⟩
    rcases mem_mv hf with hf | rfl
    · exact h.2 k es hka hc f (List.mem_of_mem_eraseIdx hf)
    · intro hfl
      have hfl : es[j].l = ln := hfl
      simp only [wrE, upd]
      rw [if_neg (fun hx => hp (by rw [hl] at hfl; omega))]
      exact h.2 k es hka hc _ (List.getElem_mem hj) hfl
  | new hh es hc hf e =>
    refine h.oth hka (fun k' hne => put_other hne) (by rw [e]; exact rowA_set hc rfl) ?_
    rw [e]
    have h1 := (cl_oth c k ln jn (A.m.getD (ln * 4 + jn) 0) hjn).evict hA hc ⟨h.2 k es hka hc, rfl⟩
    refine ⟨fun f hf => ?_, h1.2⟩
    rcases List.mem_append.1 hf with hf | hf
    · exact h1.1 f hf
    · obtain rfl : f = wrE (newE (p / 4)) (p % 4) v := by simpa using hf
      intro hfl
      have hfl : p / 4 = ln := hfl
      simp only [wrE, upd]
      rw [if_neg (fun hx => hp (by omega))]
      rfl
theorem AloneA.putM {c : Cf} {a ln jn : Nat} {last : Int} {A : AS} (hjn : jn < 4) (hA : Ok c A) (h : AloneA c a ln jn last A) {p : Nat} {v : Int} (hk : (a : Int) < c.L) (hpW : (p : Int) < c.W) : AloneA c a ln jn (if p = ln * 4 + jn then v else last) (putA c A a p v) := by
  obtain ⟨es0, hc0⟩ : ∃ es, A.cs[a]? = some es := ⟨_, List.getElem?_eq_getElem (by have := hA.cl; omega)⟩
  cases put_way hA a p v hk with
  | home hh e =>
    refine h.mine (fun k' hne => put_other hne) (fs := es0) (by rw [e]; exact hc0) ?_
    rw [e]
    obtain ⟨h1, h2, h3, h4⟩ := h.1 es0 hc0
    refine ⟨h1, h2, fun f hf hfl hv => ?_, fun hq => ?_⟩
    · rw [if_neg (fun hx => h2 f hf (by rw [hfl, show ln = p / 4 by omega]; exact hh))]
      exact h3 f hf hfl hv
    · simp only [getD_set]
      have := hA.ml
      by_cases hx : p = ln * 4 + jn
      · rw [if_pos ⟨hx, by omega⟩, if_pos hx]
      · rw [if_neg (fun y => hx y.1), if_neg hx]; exact h4 hq
  | old hh es hc j hj hl e =>
    refine h.mine (fun k' hne => put_other hne) (by rw [e]; exact rowA_set hc rfl) ?_
    rw [e]
    obtain ⟨h1, h2, h3, h4⟩ := h.1 es hc
    refine ⟨fun f hf => ?_, fun f hf => ?_, fun f hf => ?_, fun hq => ?_⟩
    · rcases mem_mv hf with hf | rfl
      · exact h1 f (List.mem_of_mem_eraseIdx hf)
      · intro i hi
        simp only [wrE, upd]
        split
        · exact fun _ => rfl
        · exact h1 _ (List.getElem_mem hj) i hi
    · rcases mem_mv hf with hf | rfl
      · exact h2 f (List.mem_of_mem_eraseIdx hf)
      · exact h2 es[j] (List.getElem_mem hj)
    · rcases mem_mv hf with hf | rfl
      · intro hfl hv
        rw [if_neg (fun hx => ne_erase (hA.uni a es hc) hj hf (by rw [hfl, hl]; omega))]
        exact h3 f (List.mem_of_mem_eraseIdx hf) hfl hv
      · intro hfl
        have hfl : es[j].l = ln := hfl
        simp only [wrE, upd]
        by_cases hx : jn = p % 4
        · rw [if_pos hx, if_pos hx, if_pos (by rw [hl] at hfl; omega)]; exact fun _ => rfl
        · rw [if_neg hx, if_neg hx, if_neg (by omega)]; exact h3 _ (List.getElem_mem hj) hfl
    · have hw : es[j].l = ln → (if jn = p % 4 then true else es[j].t jn) = false := hq (wrE es[j] (p % 4) v) (by simp)
      have hx : p ≠ ln * 4 + jn := fun hx => by
        have := hw (by rw [hl]; omega)
        rw [if_pos (by omega)] at this
        cases this
      rw [if_neg hx]
      refine h4 (fun g hg hgl => ?_)
      rcases mem_erase hj hg with hg | rfl
      · exact hq g (by simp [hg]) hgl
      · have := hw hgl
        rwa [if_neg (fun y => hx (by rw [hl] at hgl; omega))] at this
  | new hh es hc hf e =>
    refine h.mine (fun k' hne => put_other hne) (by rw [e]; exact rowA_set hc rfl) ?_
    rw [e]
    obtain ⟨h1, h2, h3, h4⟩ := (cl_mine c a ln jn last hjn).evict hA hc (h.1 es hc)
    have hni : ∀ f ∈ evL c es, f.l ≠ p / 4 := fun f hf' hfl => fiF_none hf (((evL_sub c es).map _).subset (List.mem_map.2 ⟨f, hf', hfl⟩))
    refine ⟨fun f hf => ?_, fun f hf => ?_, fun f hf => ?_, fun hq => ?_⟩
    · rcases List.mem_append.1 hf with hf | hf
      · exact h1 f hf
      · obtain rfl : f = wrE (newE (p / 4)) (p % 4) v := by simpa using hf
        intro i hi
        simp only [wrE, upd]
        split
        · exact fun _ => rfl
        · exact fun h => by simp [newE] at h
    · rcases List.mem_append.1 hf with hf | hf
      · exact h2 f hf
      · obtain rfl : f = wrE (newE (p / 4)) (p % 4) v := by simpa using hf
        exact hh
    · rcases List.mem_append.1 hf with hf | hf
      · intro hfl hv
        rw [if_neg (fun hx => hni f hf (by rw [hfl]; omega))]
        exact h3 f hf hfl hv
      · obtain rfl : f = wrE (newE (p / 4)) (p % 4) v := by simpa using hf
        intro hfl
        have hfl : p / 4 = ln := hfl
        simp only [wrE, upd]
        by_cases hx : jn = p % 4
        · rw [if_pos hx, if_pos hx, if_pos (by omega)]; exact fun _ => rfl
        · rw [if_neg hx]; exact fun h => by simp [newE] at h
    · have hw : p / 4 = ln → (if jn = p % 4 then true else false) = false := hq (wrE (newE (p / 4)) (p % 4) v) (by simp)
      have hx : p ≠ ln * 4 + jn := fun hx => by
        have := hw (by omega)
        rw [if_pos (by omega)] at this
        cases this
      rw [if_neg hx]
      exact h4 (fun g hg hgl => hq g (by simp [hg]) hgl)
theorem AloneA.told {c : Cf} {a ln jn : Nat} {last : Int} {A : AS} (hjn : jn < 4) (hA : Ok c A) (h : AloneA c a ln jn last A) (hk : (a : Int) < c.L) (hp : ((ln * 4 + jn : Nat) : Int) < c.W) : (getA c A a (ln * 4 + jn)).vs = A.vs ++ [last] := by
  obtain ⟨es, hc⟩ : ∃ es, A.cs[a]? = some es := ⟨_, List.getElem?_eq_getElem (by have := hA.cl; omega)⟩
  obtain ⟨x, h1, h2⟩ := (cl_mine c a ln jn last hjn).told hA hc hk hp (h.1 es hc)
  have e1 : (ln * 4 + jn) / 4 = ln := by omega
  have e2 : (ln * 4 + jn) % 4 = jn := by omega
  rw [e1, e2] at h2
  rcases h2 with ⟨hh, rfl⟩ | ⟨m', fs, e, hF, he, hl, hv, rfl⟩
  · rw [h1, (h.1 es hc).2.2.2 (fun f hf hfl => absurd (by rw [hfl]; exact hh) ((h.1 es hc).2.1 f hf))]
  · rw [h1, hF.2.2.1 e he hl hv]

/-! ### along the trace -/
/-- the state behind the first i operations -/
def stA (c : Cf) (l : List Op) (i : Nat) : AS := (l.take i).foldl (opA c) (initA c)
theorem stA_succ (c : Cf) (l : List Op) (i : Nat) (hi : i < l.length) : stA c l (i + 1) = opA c (stA c l i) l[i] := by
  unfold stA
  rw [List.take_add_one, List.getElem?_eq_getElem hi, List.foldl_append]
  rfl
/-- how many operations of a kind are among the first i -/
def kdN (q : Int) (l : List Op) (i : Nat) : Nat := ((l.take i).filter (fun o => decide (o.k = q))).length
theorem kdN_succ (q : Int) (l : List Op) (i : Nat) (hi : i < l.length) : kdN q l (i + 1) = kdN q l i + if l[i].k = q then 1 else 0 := by
  unfold kdN
  rw [List.take_add_one, List.getElem?_eq_getElem hi, List.filter_append, List.length_append]
  by_cases h : l[i].k = q <;> simp [h]
theorem chk_parts {c : Cf} {l : List Op} (h : chkF c l = 0) : cfOk c ∧ ∀ o ∈ l, opOk c o := by
  unfold chkF at h
  split at h
  · cases h
  · rename_i h1
    refine ⟨by simpa using h1, ?_⟩
    split at h
    · cases h
    · split at h
      · rename_i h2; exact h2
      · cases h
theorem st_ok {c : Cf} {l : List Op} (h : chkF c l = 0) (i : Nat) (hi : i ≤ l.length) : Ok c (stA c l i) := by
  obtain ⟨hc, ho⟩ := chk_parts h
  induction i with
  | zero => exact init_ok hc
  | succ i ih => rw [stA_succ c l i (by omega)]; exact (opA_ok (ih (by omega)) (ho _ (List.getElem_mem _))).1
/-- what a Get may tell: nothing, or what was put ahead of it -/
def PutG (l : List Op) (i p : Nat) (x : Int) : Prop := x = 0 ∨ ∃ j, ∃ hj : j < l.length, j < i ∧ l[j].k = 2 ∧ l[j].p.toNat = p ∧ l[j].v = x
theorem PutG.mono {l : List Op} {i i' p : Nat} {x : Int} (h : PutG l i p x) (hi : i ≤ i') : PutG l i' p x := by
  rcases h with h | ⟨j, hj, h1, h2⟩
  · exact Or.inl h
  · exact Or.inr ⟨j, hj, by omega, h2⟩
theorem op_cases {c : Cf} {o : Op} (h : opOk c o) (A : AS) : (o.k = 1 ∧ (o.p.toNat : Int) < c.W ∧ opA c A o = getA c A o.a.toNat o.p.toNat) ∨ (o.k = 2 ∧ (o.p.toNat : Int) < c.W ∧ opA c A o = putA c A o.a.toNat o.p.toNat o.v) ∨ (o.k = 3 ∧ opA c A o = acqA A o.a.toNat) ∨ (o.k = 4 ∧ opA c A o = relA A o.a.toNat) := by
  obtain ⟨h1, h2, h3, h4, h5, h6⟩ := h
  unfold opA
  by_cases e1 : o.k = 1
  · exact Or.inl ⟨e1, by omega, by rw [if_pos e1]⟩
  by_cases e2 : o.k = 2
  · exact Or.inr (Or.inl ⟨e2, by omega, by rw [if_neg e1, if_pos e2]⟩)
  by_cases e3 : o.k = 3
  · exact Or.inr (Or.inr (Or.inl ⟨e3, by rw [if_neg e1, if_neg e2, if_pos e3]⟩))
  · exact Or.inr (Or.inr (Or.inr ⟨by omega, by rw [if_neg e1, if_neg e2, if_neg e3]⟩))
theorem init_row {c : Cf} {k : Nat} {es : List En} (h : (initA c).cs[k]? = some es) : es = [] := by
  simp only [initA, List.getElem?_replicate] at h
  split at h
  · exact (Option.some.inj h).symm
  · cases h
theorem init_word (c : Cf) (p : Nat) : (initA c).m.getD p 0 = 0 := by
  simp only [initA, List.getD_eq_getElem?_getD, List.getElem?_replicate]
  split <;> rfl
theorem st_good {c : Cf} {l : List Op} (h : chkF c l = 0) (i : Nat) (hi : i ≤ l.length) : GoodA (PutG l i) (stA c l i) := by
  obtain ⟨hc, ho⟩ := chk_parts h
  induction i with
  | zero => exact ⟨fun p => Or.inl (init_word c p), fun k es hk e he => by rw [init_row hk] at he; simp at he⟩
  | succ i ih =>
    have hil : i < l.length := by omega
    have hk0 := ho _ (List.getElem_mem hil)
    have hA := st_ok h i (by omega)
    have hg := (ih (by omega)).mono (G' := PutG l (i + 1)) (fun p x hx => hx.mono (by omega))
    have hka : (l[i].a.toNat : Int) < c.L := by obtain ⟨h1, h2, _⟩ := hk0; omega
    rw [stA_succ c l i hil]
    rcases op_cases hk0 (stA c l i) with ⟨_, hp, e⟩ | ⟨hk2, hp, e⟩ | ⟨_, e⟩ | ⟨_, e⟩ <;> rw [e]
    · exact hg.stp hA hka (stp_get hA hka hp)
    · exact hg.put hA hka (Or.inr ⟨i, hil, by omega, hk2, rfl, rfl⟩)
    · exact hg.stp hA hka (stp_acq _)
    · exact hg.stp hA hka (stp_rel hA _)
theorem st_told {c : Cf} {l : List Op} (h : chkF c l = 0) (i : Nat) (hi : i < l.length) : if l[i].k = 1 then ∃ x, (stA c l (i + 1)).vs = (stA c l i).vs ++ [x] ∧ PutG l i l[i].p.toNat x else (stA c l (i + 1)).vs = (stA c l i).vs := by
  obtain ⟨hc, ho⟩ := chk_parts h
  have hk0 := ho _ (List.getElem_mem hi)
  have hA := st_ok h i (by omega)
  have hka : (l[i].a.toNat : Int) < c.L := by obtain ⟨h1, h2, _⟩ := hk0; omega
  rw [stA_succ c l i hi]
  rcases op_cases hk0 (stA c l i) with ⟨h1, hp, e⟩ | ⟨h1, hp, e⟩ | ⟨h1, e⟩ | ⟨h1, e⟩ <;> rw [e, h1]
  · rw [if_pos rfl]; exact (st_good h i (by omega)).told hA hka hp
  · rw [if_neg (by decide)]; exact put_vs _ _ _ _ _
  · rw [if_neg (by decide)]; rfl
  · rw [if_neg (by decide)]; exact rels_vs _ _ _
theorem st_len {c : Cf} {l : List Op} (h : chkF c l = 0) (i : Nat) (hi : i ≤ l.length) : (stA c l i).vs.length = kdN 1 l i := by
  induction i with
  | zero => rfl
  | succ i ih =>
    have := st_told h i (by omega)
    rw [kdN_succ 1 l i (by omega), ← ih (by omega)]
    split at this
    · rename_i hk
      obtain ⟨x, h1, _⟩ := this
      rw [h1, if_pos hk]; simp
    · rename_i hk
      rw [this, if_neg hk]; rfl
theorem st_pre {c : Cf} {l : List Op} (h : chkF c l = 0) (i j : Nat) (hi : i + j ≤ l.length) : (stA c l i).vs <+: (stA c l (i + j)).vs := by
  induction j with
  | zero => exact List.prefix_refl _
  | succ j ih =>
    refine (ih (by omega)).trans ?_
    have := st_told h (i + j) (by omega)
    split at this
    · obtain ⟨x, h1, _⟩ := this
      rw [show i + (j + 1) = i + j + 1 by omega, h1]
      exact List.prefix_append _ _
    · rw [show i + (j + 1) = i + j + 1 by omega, this]
      exact List.prefix_refl _
theorem rels_all_vs (is : List Nat) (A : AS) : (is.foldl relA A).vs = A.vs := by
  induction is generalizing A with
  | nil => rfl
  | cons k is ih => rw [List.foldl_cons, ih]; exact rels_vs _ _ _
theorem run_vs (c : Cf) (l : List Op) : (runA c l).vs = (stA c l l.length).vs := by
  unfold runA
  rw [rels_all_vs]
  unfold stA
  rw [List.take_length]
theorem run_at {c : Cf} {l : List Op} (h : chkF c l = 0) (i : Nat) (hi : i < l.length) (x : Int) (hx : (stA c l (i + 1)).vs = (stA c l i).vs ++ [x]) : (runA c l).vs[kdN 1 l i]? = some x := by
  obtain ⟨t, ht⟩ := st_pre h (i + 1) (l.length - (i + 1)) (by omega)
  rw [show i + 1 + (l.length - (i + 1)) = l.length by omega] at ht
  rw [run_vs, ← ht, hx, ← st_len h i (by omega)]
  simp
/-- the value that was put last -/
def lastS (p : Int) (acc : Int) (o : Op) : Int := if o.p = p ∧ o.k = 2 then o.v else acc
def lastV (l : List Op) (p : Int) (i : Nat) : Int := (l.take i).foldl (lastS p) 0
theorem lastV_succ (l : List Op) (p : Int) (i : Nat) (hi : i < l.length) : lastV l p (i + 1) = lastS p (lastV l p i) l[i] := by
  unfold lastV
  rw [List.take_add_one, List.getElem?_eq_getElem hi, List.foldl_append]
  rfl
theorem st_alone {c : Cf} {l : List Op} (h : chkF c l = 0) {p : Int} {a ln jn : Nat} (hjn : jn < 4) (hp : p = ((ln * 4 + jn : Nat) : Int)) (hal : ∀ o ∈ l, o.p = p → o.k ≤ 2 → o.a = (a : Int)) (i : Nat) (hi : i ≤ l.length) : AloneA c a ln jn (lastV l p i) (stA c l i) := by
  obtain ⟨hc, ho⟩ := chk_parts h
  induction i with
  | zero => exact ⟨fun es he => by rw [init_row he]; exact ⟨by simp, by simp, by simp, fun _ => init_word c _⟩, fun k es _ hk e he => by rw [init_row hk] at he; simp at he⟩
  | succ i ih =>
    have hil : i < l.length := by omega
    have hk0 := ho _ (List.getElem_mem hil)
    have hA := st_ok h i (by omega)
    have hg := ih (by omega)
    have hka : (l[i].a.toNat : Int) < c.L := by obtain ⟨h1, h2, _⟩ := hk0; omega
    have hla := hal _ (List.getElem_mem hil)
    rw [stA_succ c l i hil, lastV_succ l p i hil]
    unfold lastS
    rcases op_cases hk0 (stA c l i) with ⟨hk1, hpw, e⟩ | ⟨hk2, hpw, e⟩ | ⟨hk1, e⟩ | ⟨hk1, e⟩ <;> rw [e]
    · rw [if_neg (fun x => by have := x.2; omega)]; exact hg.stp hjn hA hka (stp_get hA hka hpw)
    · have hp0 : 0 ≤ l[i].p := by obtain ⟨_, _, _, _, _, h6⟩ := hk0; omega
      by_cases hx : l[i].p = p
      · have hxa := hla hx (by omega)
        have := hg.putM hjn hA (p := l[i].p.toNat) (v := l[i].v) (by omega) hpw
        rw [if_pos (by omega)] at this
        rw [if_pos ⟨hx, hk2⟩, show l[i].a.toNat = a by omega]
        exact this
      · rw [if_neg (fun y => hx y.1)]
        by_cases hxa : l[i].a.toNat = a
        · have := hg.putM hjn hA (p := l[i].p.toNat) (v := l[i].v) (by omega) hpw
          rw [if_neg (by omega)] at this
          rw [hxa]
          exact this
        · exact hg.putO hjn hA hka hxa (by omega)
    · rw [if_neg (fun x => by have := x.2; omega)]; exact hg.stp hjn hA hka (stp_acq _)
    · rw [if_neg (fun x => by have := x.2; omega)]; exact hg.stp hjn hA hka (stp_rel hA _)
theorem st_last {c : Cf} {l : List Op} (h : chkF c l = 0) (i : Nat) (hi : i < l.length) (hk : l[i].k = 1) (hal : ∀ o ∈ l, o.p = l[i].p → o.k ≤ 2 → o.a = l[i].a) : (stA c l (i + 1)).vs = (stA c l i).vs ++ [lastV l l[i].p i] := by
  obtain ⟨hc, ho⟩ := chk_parts h
  have hk0 := ho _ (List.getElem_mem hi)
  obtain ⟨h1, h2, h3, h4, h5, h6⟩ := id hk0
  have e1 : l[i].p = ((l[i].p.toNat / 4 * 4 + l[i].p.toNat % 4 : Nat) : Int) := by omega
  have hA := st_ok h i (by omega)
  have hq := st_alone h (a := l[i].a.toNat) (ln := l[i].p.toNat / 4) (jn := l[i].p.toNat % 4) (Nat.mod_lt _ (by decide)) e1 (fun o ho' hop hok => by rw [hal o ho' hop hok]; omega) i (by omega)
  have := hq.told (Nat.mod_lt _ (by decide)) hA (by omega) (by rw [← e1]; omega)
  rw [stA_succ c l i hi]
  unfold opA
  rw [if_pos hk]
  rw [show l[i].p.toNat / 4 * 4 + l[i].p.toNat % 4 = l[i].p.toNat by omega] at this
  exact this

/-! ### what the law looks at, as the program steps through it -/
def inS (l : List Op) (i : Nat) (x : Int) (S : Bool × Bool × Int) (k : Nat) : Bool × Bool × Int :=
  if (l.getD k ⟨0, 0, 0, 0⟩).p ≠ (l.getD i ⟨0, 0, 0, 0⟩).p ∨ 2 < (l.getD k ⟨0, 0, 0, 0⟩).k then S
  else if (l.getD k ⟨0, 0, 0, 0⟩).k = 2 then (S.1 || (decide ((l.getD k ⟨0, 0, 0, 0⟩).v = x) && decide (k < i)), S.2.1 && decide ((l.getD k ⟨0, 0, 0, 0⟩).a = (l.getD i ⟨0, 0, 0, 0⟩).a), if k < i then (l.getD k ⟨0, 0, 0, 0⟩).v else S.2.2)
  else (S.1, S.2.1 && decide ((l.getD k ⟨0, 0, 0, 0⟩).a = (l.getD i ⟨0, 0, 0, 0⟩).a), S.2.2)
def inF (l : List Op) (i : Nat) (x : Int) (k : Nat) : Bool × Bool × Int := (List.range k).foldl (inS l i x) (decide (x = 0), true, 0)
theorem getD_op {l : List Op} {i : Nat} (hi : i < l.length) : l.getD i ⟨0, 0, 0, 0⟩ = l[i] := by
  rw [List.getD_eq_getElem?_getD, List.getElem?_eq_getElem hi]; rfl
theorem inF_known (l : List Op) (i : Nat) (hi : i < l.length) (x : Int) (k : Nat) (hk : k ≤ l.length) (h : x = 0 ∨ ∃ j, ∃ hj : j < l.length, j < i ∧ j < k ∧ l[j].k = 2 ∧ l[j].p = l[i].p ∧ l[j].v = x) : (inF l i x k).1 = true := by
  induction k with
  | zero =>
    rcases h with h | ⟨j, _, _, h, _⟩
    · simp [inF, h]
    · omega
  | succ k ih =>
    unfold inF
    rw [range_succ_foldl]
    have ih' : (x = 0 ∨ ∃ j, ∃ hj : j < l.length, j < i ∧ j < k ∧ l[j].k = 2 ∧ l[j].p = l[i].p ∧ l[j].v = x) → ((List.range k).foldl (inS l i x) (decide (x = 0), true, 0)).1 = true := ih (by omega)
    generalize (List.range k).foldl (inS l i x) (decide (x = 0), true, 0) = S at ih' ⊢
    unfold inS
    rw [getD_op hi, getD_op (show k < l.length by omega)]
    rcases h with h | ⟨j, hj, h1, h2, h3, h4, h5⟩
    · have := ih' (Or.inl h)
      split
      · exact this
      · split <;> simp [this]
    · by_cases hjk : j = k
      · subst hjk
        rw [if_neg (by omega), if_pos h3]
        simp [h1, h5]
      · have := ih' (Or.inr ⟨j, hj, h1, by omega, h3, h4, h5⟩)
        split
        · exact this
        · split <;> simp [this]
theorem inF_rest (l : List Op) (i : Nat) (hi : i < l.length) (x : Int) (k : Nat) (hk : k ≤ l.length) (h : (inF l i x k).2.1 = true) : (∀ j (hj : j < l.length), j < k → l[j].p = l[i].p → l[j].k ≤ 2 → l[j].a = l[i].a) ∧ (inF l i x k).2.2 = lastV l l[i].p (min k i) := by
  induction k with
  | zero => exact ⟨fun j hj h => by omega, by simp [inF, lastV]⟩
  | succ k ih =>
    have ih' := ih (by omega)
    revert h
    unfold inF
    rw [range_succ_foldl]
    change ((List.range k).foldl (inS l i x) (decide (x = 0), true, 0)).2.1 = true → _ at ih'
    obtain ⟨S, hS⟩ : ∃ S, (List.range k).foldl (inS l i x) (decide (x = 0), true, 0) = S := ⟨_, rfl⟩
    have hS' : inF l i x k = S := hS
    rw [hS'] at ih'
    rw [hS] at ih' ⊢
    have hmin : lastV l l[i].p (min (k + 1) i) = if k < i then lastS l[i].p (lastV l l[i].p (min k i)) l[k] else lastV l l[i].p (min k i) := by
      split
      · rw [show min (k + 1) i = k + 1 by omega, lastV_succ l _ k (by omega), show min k i = k by omega]
      · rw [show min (k + 1) i = min k i by omega]
    rw [hmin]
    unfold inS lastS
    rw [getD_op hi, getD_op (show k < l.length by omega)]
    by_cases hsk : l[k].p ≠ l[i].p ∨ 2 < l[k].k
    · rw [if_pos hsk]
      intro h
      obtain ⟨h1, h2⟩ := ih' h
      refine ⟨fun j hj hjk hp hkk => ?_, ?_⟩
      · by_cases e : j = k
        · subst e; omega
        · exact h1 j hj (by omega) hp hkk
      · rw [h2]
        rw [if_neg (show ¬ (l[k].p = l[i].p ∧ l[k].k = 2) by omega)]
        simp
    · rw [if_neg hsk]
      by_cases hk2 : l[k].k = 2
      · rw [if_pos hk2]
        intro h
        simp only [Bool.and_eq_true, decide_eq_true_eq] at h
        obtain ⟨h1, h2⟩ := ih' h.1
        refine ⟨fun j hj hjk hp hkk => ?_, ?_⟩
        · by_cases e : j = k
          · subst e; exact h.2
          · exact h1 j hj (by omega) hp hkk
        · rw [if_pos (show (l[k].p = l[i].p ∧ l[k].k = 2) by omega), ← h2]
      · rw [if_neg hk2]
        intro h
        simp only [Bool.and_eq_true, decide_eq_true_eq] at h
        obtain ⟨h1, h2⟩ := ih' h.1
        refine ⟨fun j hj hjk hp hkk => ?_, ?_⟩
        · by_cases e : j = k
          · subst e; exact h.2
          · exact h1 j hj (by omega) hp hkk
        · rw [if_neg (show ¬ (l[k].p = l[i].p ∧ l[k].k = 2) by omega), ← h2]
          simp
theorem value_law {c : Cf} {l : List Op} (h : chkF c l = 0) (i : Nat) (hi : i < l.length) (hk : l[i].k = 1) : ∃ x, (runA c l).vs[kdN 1 l i]? = some x ∧ (inF l i x l.length).1 = true ∧ ((inF l i x l.length).2.1 = true → x = (inF l i x l.length).2.2) := by
  have h1 := st_told h i hi
  rw [if_pos hk] at h1
  obtain ⟨x, hx, hg⟩ := h1
  refine ⟨x, run_at h i hi x hx, inF_known l i hi x _ (Nat.le_refl _) ?_, fun ha => ?_⟩
  · obtain ⟨_, ho⟩ := chk_parts h
    rcases hg with hg | ⟨j, hj, h1, h2, h3, h4⟩
    · exact Or.inl hg
    · refine Or.inr ⟨j, hj, h1, hj, h2, ?_, h4⟩
      have p1 := ho _ (List.getElem_mem hi)
      have p2 := ho _ (List.getElem_mem hj)
      obtain ⟨_, _, _, _, _, q1⟩ := p1
      obtain ⟨_, _, _, _, _, q2⟩ := p2
      omega
  · obtain ⟨h1, h2⟩ := inF_rest l i hi x _ (Nat.le_refl _) ha
    have h3 := st_last h i hi hk (fun o ho => by obtain ⟨j, hj, rfl⟩ := List.mem_iff_getElem.1 ho; exact h1 j hj hj)
    rw [h2, show min l.length i = i by omega]
    rw [hx] at h3
    simpa using h3
end Go.Proofs.Ytggidakiflnhhaa
