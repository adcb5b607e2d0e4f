import Derived.Test.YtggidakiflnhhaaCX
import Derived.Test.YtggidakiflnhhaaY
import Derived.Test.YtggidakiflnhhaaAE
namespace Go.Proofs.Ytggidakiflnhhaa
open Go.RowKit
set_option maxHeartbeats 1000000
set_option maxRecDepth 100000
set_option linter.unusedSimpArgs false
set_option linter.unusedVariables false

/-! ### a word of the memory, as a cache sees it: x is what it should hold; DK: may this locale hold it dirty; SK: may this locale hold it stale; OD: does another locale hold it dirty -/
def Shd (c : Cf) (k ln jn : Nat) (x : Int) (DK SK OD : Prop) (m : List Int) (es : List En) : Prop :=
  (∀ e ∈ es, ∀ j, j < 4 → e.t j = true → e.v j = true) ∧ (∀ e ∈ es, hmF c e.l ≠ (k : Int)) ∧ (∀ e ∈ es, e.l = ln → e.v jn = true → e.d jn = x ∨ (SK ∧ e.t jn = false)) ∧
  (∀ e ∈ es, e.l = ln → e.t jn = true → DK) ∧ ((∀ e ∈ es, e.l = ln → e.t jn = false) → m.getD (ln * 4 + jn) 0 = x ∨ OD)
theorem cl_shd (c : Cf) (k ln jn : Nat) (x : Int) (DK SK OD : Prop) (hjn : jn < 4) (hos : OD → SK) : Cl c k (Shd c k ln jn x DK SK OD) where
  ev m e es hl hu h := by
    obtain ⟨h1, h2, h3, h5, h4⟩ := h
    refine ⟨fun f hf => h1 f (by simp [hf]), fun f hf => h2 f (by simp [hf]), fun f hf => h3 f (by simp [hf]), fun f hf => h5 f (by simp [hf]), fun hn => ?_⟩
    rw [wbm_get m e (hl e (by simp)) ln jn hjn]
    split
    · rename_i h
      rcases h3 e (by simp) h.1 (h1 e (by simp) jn hjn h.2) with h6 | h6
      · exact Or.inl h6
      · rw [h.2] at h6; cases h6.2
    · rename_i h
      refine h4 (fun f hf hfl => ?_)
      rcases List.mem_cons.1 hf with rfl | hf
      · cases ht : f.t jn with
        | false => rfl
        | true => exact absurd ⟨hfl, ht⟩ h
      · exact hn f hf hfl
  en m es l hh hn hl h := by
    obtain ⟨h1, h2, h3, h5, h4⟩ := h
    refine ⟨fun f hf => ?_, fun f hf => ?_, fun f hf => ?_, fun f hf => ?_, fun hq => h4 (fun f hf => hq f (by simp [hf]))⟩ <;> (rcases List.mem_append.1 hf with hf | hf)
    · exact h1 f hf
    · obtain rfl : f = ftE m (newE l) := by simpa using hf
      exact fun j hj _ => ftE_v _ _ j hj
    · exact h2 f hf
    · obtain rfl : f = ftE m (newE l) := by simpa using hf
      rw [ftE_l]; exact hh
    · exact h3 f hf
    · obtain rfl : f = ftE m (newE l) := by simpa using hf
      intro hfl _
      rw [ftE_l] at hfl
      have hfl : l = ln := hfl
      subst hfl
      rw [ftE_d m _ jn hjn, ftE_t]
      simp only [newE, Bool.false_eq_true, if_false]
      rcases h4 (fun g hg hgl => absurd (List.mem_map.2 ⟨g, hg, hgl⟩) hn) with h6 | h6
      · exact Or.inl h6
      · exact Or.inr ⟨hos h6, by first | rfl | trivial⟩
    · exact h5 f hf
    · obtain rfl : f = ftE m (newE l) := by simpa using hf
      rw [ftE_t]
      intro _ ht
      cases ht
  mv m es j hj h := by
    have hm : ∀ f, f ∈ es.eraseIdx j ++ [es[j]] ↔ f ∈ es := fun f => (erase_perm es j hj).mem_iff
    obtain ⟨h1, h2, h3, h5, h4⟩ := h
    exact ⟨fun f hf => h1 f ((hm f).1 hf), fun f hf => h2 f ((hm f).1 hf), fun f hf => h3 f ((hm f).1 hf), fun f hf => h5 f ((hm f).1 hf), fun hn => h4 (fun f hf => hn f ((hm f).2 hf))⟩
  ft m es j hj hu h := by
    obtain ⟨h1, h2, h3, h5, h4⟩ := h
    refine ⟨fun f hf => ?_, fun f hf => ?_, fun f hf => ?_, fun f hf => ?_, fun hq => ?_⟩
    · rcases mem_mv hf with hf | rfl
      · exact h1 f (List.mem_of_mem_eraseIdx hf)
      · exact fun j hj _ => ftE_v _ _ j hj
    · rcases mem_mv hf with hf | rfl
      · exact h2 f (List.mem_of_mem_eraseIdx hf)
      · rw [ftE_l]; exact h2 _ (List.getElem_mem hj)
    · rcases mem_mv hf with hf | rfl
      · exact h3 f (List.mem_of_mem_eraseIdx hf)
      · intro hfl _
        rw [ftE_l] at hfl
        rw [ftE_d m _ jn hjn, ftE_t]
        split
        · rename_i hv; exact h3 _ (List.getElem_mem hj) hfl hv
        · rename_i hv
          have htf : es[j].t jn = false := by
            cases ht : es[j].t jn with
            | false => rfl
            | true => exact absurd (h1 _ (List.getElem_mem hj) jn hjn ht) hv
          rw [hfl]
          rcases h4 (fun g hg hgl => by
            rcases mem_erase hj hg with hg | rfl
            · exact absurd (hgl.trans hfl.symm) (ne_erase hu hj hg)
            · exact htf) with h6 | h6
          · exact Or.inl h6
          · exact Or.inr ⟨hos h6, htf⟩
    · rcases mem_mv hf with hf | rfl
      · exact h5 f (List.mem_of_mem_eraseIdx hf)
      · rw [ftE_l, ftE_t]; exact h5 _ (List.getElem_mem hj)
    · refine h4 (fun g hg hgl => ?_)
      rcases mem_erase hj hg with hg | rfl
      · exact hq g (by simp [hg]) hgl
      · have := hq (ftE m es[j]) (by simp) (by rw [ftE_l]; exact hgl)
        rwa [ftE_t] at this
  rl m es j hj hl hu h := by
    obtain ⟨h1, h2, h3, h5, h4⟩ := h
    refine ⟨fun f hf => ?_, fun f hf => ?_, fun f hf => ?_, fun f hf => ?_, fun hq => ?_⟩
    · rcases mem_set hf with hf | rfl
      · exact h1 f hf
      · exact fun i hi ht => by rw [clE_t _ i hi] at ht; cases ht
    · rcases mem_set hf with hf | rfl
      · exact h2 f hf
      · rw [clE_l]; exact h2 _ (List.getElem_mem hj)
    · rcases mem_set hf with hf | rfl
      · exact h3 f hf
      · rw [clE_l, clE_v, clE_d, clE_t _ jn hjn]
        intro a b
        rcases h3 _ (List.getElem_mem hj) a b with h6 | h6
        · exact Or.inl h6
        · exact Or.inr ⟨h6.1, rfl⟩
    · rcases mem_set hf with hf | rfl
      · exact h5 f hf
      · intro _ ht; rw [clE_t _ jn hjn] at ht; cases ht
    · rw [wbm_get m _ (hl _ (List.getElem_mem hj)) ln jn hjn]
      split
      · rename_i h
        rcases h3 _ (List.getElem_mem hj) h.1 (h1 _ (List.getElem_mem hj) jn hjn h.2) with h6 | h6
        · exact Or.inl h6
        · rw [h.2] at h6; cases h6.2
      · rename_i h
        refine h4 (fun g hg hgl => ?_)
        rcases mem_set_or hj (clE es[j]) hg with hg | rfl
        · exact hq g hg hgl
        · cases ht : es[j].t jn with
          | false => rfl
          | true => exact absurd ⟨hgl, ht⟩ h
  ac m es h := by
    obtain ⟨h1, h2, h3, h5, h4⟩ := h
    refine ⟨fun f hf => ?_, fun f hf => ?_, fun f hf => ?_, fun f hf => ?_, fun hq => ?_⟩
    · obtain ⟨g, hg, rfl⟩ := List.mem_map.1 (List.mem_filter.1 hf).1
      exact fun j hj ht => ht
    · obtain ⟨g, hg, rfl⟩ := List.mem_map.1 (List.mem_filter.1 hf).1
      exact h2 g hg
    · obtain ⟨g, hg, rfl⟩ := List.mem_map.1 (List.mem_filter.1 hf).1
      exact fun hl hv => h3 g hg hl (h1 g hg jn hjn hv)
    · obtain ⟨g, hg, rfl⟩ := List.mem_map.1 (List.mem_filter.1 hf).1
      exact fun hl ht => h5 g hg hl ht
    · refine h4 (fun g hg hgl => ?_)
      cases ht : g.t jn with
      | false => rfl
      | true =>
        have := hq (acE g) (List.mem_filter.2 ⟨List.mem_map_of_mem hg, anyT_of hjn ht⟩) hgl
        rw [← ht]; exact this
section
variable {c : Cf} {k ln jn : Nat} {x : Int} {DK SK OD DK' SK' OD' : Prop} {m m' : List Int} {es : List En}
/-- behind an acquire nothing is stale -/
theorem Shd.acq (hjn : jn < 4) (h : Shd c k ln jn x DK SK OD m es) : Shd c k ln jn x DK SK' OD m ((es.map acE).filter (fun e => anyT e.v)) := by
  obtain ⟨h1, h2, h3, h5, h4⟩ := h
  refine ⟨fun f hf => ?_, fun f hf => ?_, fun f hf => ?_, fun f hf => ?_, fun hq => ?_⟩
  · obtain ⟨g, hg, rfl⟩ := List.mem_map.1 (List.mem_filter.1 hf).1
    exact fun j hj ht => ht
  · obtain ⟨g, hg, rfl⟩ := List.mem_map.1 (List.mem_filter.1 hf).1
    exact h2 g hg
  · obtain ⟨g, hg, rfl⟩ := List.mem_map.1 (List.mem_filter.1 hf).1
    intro hl hv
    have hv : g.t jn = true := hv
    rcases h3 g hg hl (h1 g hg jn hjn hv) with h6 | h6
    · exact Or.inl h6
    · rw [hv] at h6; cases h6.2
  · obtain ⟨g, hg, rfl⟩ := List.mem_map.1 (List.mem_filter.1 hf).1
    exact fun hl ht => h5 g hg hl ht
  · refine h4 (fun g hg hgl => ?_)
    cases ht : g.t jn with
    | false => rfl
    | true =>
      have := hq (acE g) (List.mem_filter.2 ⟨List.mem_map_of_mem hg, anyT_of hjn ht⟩) hgl
      rw [← ht]; exact this
/-- a row without dirty words -/
theorem Shd.clean (h : Shd c k ln jn x DK SK OD m es) (hn : ∀ e ∈ es, e.t jn = false) : Shd c k ln jn x DK' SK OD m es := by
  obtain ⟨h1, h2, h3, h5, h4⟩ := h
  exact ⟨h1, h2, h3, fun e he _ ht => (by rw [hn e he] at ht; cases ht), h4⟩
theorem Shd.mono (h : Shd c k ln jn x DK SK OD m es) (hd : DK → DK') (hs : SK → SK') (ho : OD → OD') : Shd c k ln jn x DK' SK' OD' m es := by
  obtain ⟨h1, h2, h3, h5, h4⟩ := h
  exact ⟨h1, h2, fun e he a b => (h3 e he a b).imp id (fun g => ⟨hs g.1, g.2⟩), fun e he a b => hd (h5 e he a b), fun hq => (h4 hq).imp id ho⟩
/-- another word of an entry is written -/
theorem Shd.wrOld (h : Shd c k ln jn x DK SK OD m es) {j i : Nat} (hj : j < es.length) (v : Int) (hne : ¬ (es[j].l = ln ∧ i = jn)) : Shd c k ln jn x DK SK OD m (es.eraseIdx j ++ [wrE es[j] i v]) := by
  obtain ⟨h1, h2, h3, h5, h4⟩ := h
  refine ⟨fun f hf => ?_, fun f hf => ?_, fun f hf => ?_, fun f hf => ?_, fun hq => ?_⟩
  · rcases mem_mv hf with hf | rfl
    · exact h1 f (List.mem_of_mem_eraseIdx hf)
    · intro q hq ht
      simp only [wrE, upd] at ht ⊢
      split
      · rfl
      · rename_i hqi
        rw [if_neg hqi] at ht
        exact h1 _ (List.getElem_mem hj) q hq ht
  · rcases mem_mv hf with hf | rfl
    · exact h2 f (List.mem_of_mem_eraseIdx hf)
    · exact h2 es[j] (List.getElem_mem hj)
  · rcases mem_mv hf with hf | rfl
    · exact h3 f (List.mem_of_mem_eraseIdx hf)
    · intro hl hv
      have hij : ¬ jn = i := fun e => hne ⟨hl, e.symm⟩
      simp only [wrE, upd, if_neg hij] at hv ⊢
      exact h3 _ (List.getElem_mem hj) hl hv
  · rcases mem_mv hf with hf | rfl
    · exact h5 f (List.mem_of_mem_eraseIdx hf)
    · intro hl hv
      have hij : ¬ jn = i := fun e => hne ⟨hl, e.symm⟩
      simp only [wrE, upd, if_neg hij] at hv
      exact h5 _ (List.getElem_mem hj) hl hv
  · refine h4 (fun g hg hgl => ?_)
    rcases mem_erase hj hg with hg | rfl
    · exact hq g (by simp [hg]) hgl
    · have hij : ¬ jn = i := fun e => hne ⟨hgl, e.symm⟩
      have := hq (wrE es[j] i v) (by simp) hgl
      simp only [wrE, upd, if_neg hij] at this
      exact this
/-- another word of a new entry is written -/
theorem Shd.wrNew (h : Shd c k ln jn x DK SK OD m es) {l i : Nat} (v : Int) (hh : hmF c l ≠ (k : Int)) (hne : ¬ (l = ln ∧ i = jn)) : Shd c k ln jn x DK SK OD m (es ++ [wrE (newE l) i v]) := by
  obtain ⟨h1, h2, h3, h5, h4⟩ := h
  refine ⟨fun f hf => ?_, fun f hf => ?_, fun f hf => ?_, fun f hf => ?_, fun hq => h4 (fun g hg hgl => hq g (by simp [hg]) hgl)⟩ <;> (rcases List.mem_append.1 hf with hf | hf)
  · exact h1 f hf
  · obtain rfl : f = wrE (newE l) i v := by simpa using hf
    intro q hq ht
    simp only [wrE, upd, newE] at ht ⊢
    split
    · rfl
    · rename_i hqi; rw [if_neg hqi] at ht; cases ht
  · exact h2 f hf
  · obtain rfl : f = wrE (newE l) i v := by simpa using hf
    exact hh
  · exact h3 f hf
  · obtain rfl : f = wrE (newE l) i v := by simpa using hf
    intro hl hv
    have hij : ¬ jn = i := fun e => hne ⟨hl, e.symm⟩
    simp only [wrE, upd, newE, if_neg hij] at hv
    cases hv
  · exact h5 f hf
  · obtain rfl : f = wrE (newE l) i v := by simpa using hf
    intro hl hv
    have hij : ¬ jn = i := fun e => hne ⟨hl, e.symm⟩
    simp only [wrE, upd, newE, if_neg hij] at hv
    cases hv
/-- the word itself is written -/
theorem Shd.hitOld (h : Shd c k ln jn x DK SK OD m es) (hu : (es.map En.l).Nodup) {j : Nat} (hj : j < es.length) (hl : es[j].l = ln) (v : Int) (hd : DK') : Shd c k ln jn v DK' SK' OD' m (es.eraseIdx j ++ [wrE es[j] jn v]) := by
  obtain ⟨h1, h2, h3, h5, h4⟩ := h
  refine ⟨fun f hf => ?_, fun f hf => ?_, fun f hf => ?_, fun f hf _ _ => hd, fun hq => ?_⟩
  · rcases mem_mv hf with hf | rfl
    · exact h1 f (List.mem_of_mem_eraseIdx hf)
    · intro q hq ht
      simp only [wrE, upd] at ht ⊢
      split
      · rfl
      · rename_i hqi
        rw [if_neg hqi] at ht
        exact h1 _ (List.getElem_mem hj) q hq ht
  · rcases mem_mv hf with hf | rfl
    · exact h2 f (List.mem_of_mem_eraseIdx hf)
    · exact h2 es[j] (List.getElem_mem hj)
  · rcases mem_mv hf with hf | rfl
    · intro hfl; exact absurd (hfl.trans hl.symm) (ne_erase hu hj hf)
    · intro _ _; left; simp [wrE, upd]
  · have := hq (wrE es[j] jn v) (by simp) hl
    simp [wrE, upd] at this
theorem Shd.hitNew (h : Shd c k ln jn x DK SK OD m es) (hn : ln ∉ es.map En.l) (hh : hmF c ln ≠ (k : Int)) (v : Int) (hd : DK') : Shd c k ln jn v DK' SK' OD' m (es ++ [wrE (newE ln) jn v]) := by
  obtain ⟨h1, h2, h3, h5, h4⟩ := h
  refine ⟨fun f hf => ?_, fun f hf => ?_, fun f hf => ?_, fun f hf _ _ => hd, fun hq => ?_⟩
  · rcases List.mem_append.1 hf with hf | hf
    · exact h1 f hf
    · obtain rfl : f = wrE (newE ln) jn v := by simpa using hf
      intro q hq ht
      simp only [wrE, upd, newE] at ht ⊢
      split
      · rfl
      · rename_i hqi; rw [if_neg hqi] at ht; cases ht
  · rcases List.mem_append.1 hf with hf | hf
    · exact h2 f hf
    · obtain rfl : f = wrE (newE ln) jn v := by simpa using hf
      exact hh
  · rcases List.mem_append.1 hf with hf | hf
    · intro hfl; exact absurd (List.mem_map.2 ⟨f, hf, hfl⟩) hn
    · obtain rfl : f = wrE (newE ln) jn v := by simpa using hf
      intro _ _; left; simp [wrE, upd]
  · have := hq (wrE (newE ln) jn v) (by simp) rfl
    simp [wrE, upd] at this
end
/-- does a locale hold a word dirty -/
def DirtyR (A : AS) (ln jn b : Nat) : Prop := ∃ fs e, A.cs[b]? = some fs ∧ e ∈ fs ∧ e.l = ln ∧ e.t jn = true
/-- a word of the memory, as all caches see it -/
def GI (c : Cf) (A : AS) (ln jn : Nat) (x : Int) (DK SK : Nat → Prop) : Prop := ∀ (k : Nat) es, A.cs[k]? = some es → Shd c k ln jn x (DK k) (SK k) (∃ b, b ≠ k ∧ DirtyR A ln jn b) A.m es
section
variable {c : Cf} {A B : AS} {ln jn : Nat} {x x' : Int} {DK SK DK' SK' : Nat → Prop}
theorem GI.mono (h : GI c A ln jn x DK SK) (hd : ∀ k, DK k → DK' k) (hs : ∀ k, SK k → SK' k) : GI c A ln jn x DK' SK' := fun k es hk => (h k es hk).mono (hd k) (hs k) id
theorem GI.dk (h : GI c A ln jn x DK SK) {b : Nat} (hb : DirtyR A ln jn b) : DK b := by
  obtain ⟨fs, e, h1, h2, h3, h4⟩ := hb
  exact (h b fs h1).2.2.2.1 e h2 h3 h4
theorem dirty_oth {k : Nat} (ho : ∀ k', k ≠ k' → B.cs[k']? = A.cs[k']?) {b : Nat} (hb : b ≠ k) : DirtyR B ln jn b ↔ DirtyR A ln jn b := by
  unfold DirtyR; rw [ho b (fun e => hb e.symm)]
/-- one locale's row turns, and perhaps the memory -/
theorem GI.of (h : GI c A ln jn x DK SK) (k : Nat) (ho : ∀ k', k ≠ k' → B.cs[k']? = A.cs[k']?) (hs : ∀ b, b ≠ k → SK b → SK' b) (hd : ∀ b, b ≠ k → DK b → DK' b) {fs : List En} (hf : B.cs[k]? = some fs) (hg : Shd c k ln jn x (DK' k) (SK' k) (∃ b, b ≠ k ∧ DirtyR A ln jn b) B.m fs) : GI c B ln jn x DK' SK' := by
  intro b es hb
  by_cases hbk : b = k
  · subst hbk
    rw [hf] at hb
    obtain rfl := Option.some.inj hb
    exact hg.mono id id (fun ⟨q, hq, h1⟩ => ⟨q, hq, (dirty_oth ho hq).2 h1⟩)
  · have hb' : A.cs[b]? = some es := by rw [← ho b (fun e => hbk e.symm)]; exact hb
    obtain ⟨h1, h2, h3, h5, h4⟩ := h b es hb'
    refine ⟨h1, h2, fun e he a q => (h3 e he a q).imp id (fun g => ⟨hs b hbk g.1, g.2⟩), fun e he a q => hd b hbk (h5 e he a q), fun hq => ?_⟩
    by_cases hk : ∀ e ∈ fs, e.l = ln → e.t jn = false
    · rcases hg.2.2.2.2 hk with h6 | ⟨q, hqk, h6⟩
      · exact Or.inl h6
      · by_cases hqb : q = b
        · subst hqb
          obtain ⟨gs, e, g1, g2, g3, g4⟩ := h6
          rw [hb'] at g1
          obtain rfl := Option.some.inj g1
          rw [hq e g2 g3] at g4; cases g4
        · exact Or.inr ⟨q, hqb, (dirty_oth ho hqk).2 h6⟩
    · refine Or.inr ⟨k, fun e => hbk e.symm, fs, ?_⟩
      apply Classical.byContradiction
      intro hne
      apply hk
      intro e he hl
      cases ht : e.t jn with
      | false => rfl
      | true => exact absurd ⟨e, hf, he, hl, ht⟩ hne
theorem GI.cl (h : GI c A ln jn x DK SK) (hds : ∀ b k, b ≠ k → DK b → SK k) (hjn : jn < 4) (k : Nat) : Cl c k (Shd c k ln jn x (DK k) (SK k) (∃ b, b ≠ k ∧ DirtyR A ln jn b)) :=
  cl_shd c k ln jn x _ _ _ hjn (fun ⟨b, hb, h1⟩ => hds b k hb (h.dk h1))
theorem GI.stp (h : GI c A ln jn x DK SK) (hds : ∀ b k, b ≠ k → DK b → SK k) (hjn : jn < 4) (hA : Ok c A) {k : Nat} (hk : (k : Int) < c.L) (hs : Stp c k A B) : GI c B ln jn x DK SK := by
  obtain ⟨es, hc⟩ : ∃ es, A.cs[k]? = some es := ⟨_, List.getElem?_eq_getElem (by have := hA.cl; omega)⟩
  obtain ⟨fs, h1, h2⟩ := hs.own _ (h.cl hds hjn k) es hc (h k es hc)
  exact h.of k hs.oth (fun _ _ a => a) (fun _ _ a => a) h1 h2
/-- an acquire -/
theorem GI.acq (h : GI c A ln jn x DK SK) (hjn : jn < 4) (hA : Ok c A) {k : Nat} (hk : (k : Int) < c.L) (hs : ∀ b, b ≠ k → SK b → SK' b) : GI c (acqA A k) ln jn x DK SK' := by
  obtain ⟨es, hc⟩ : ∃ es, A.cs[k]? = some es := ⟨_, List.getElem?_eq_getElem (by have := hA.cl; omega)⟩
  refine h.of k (fun k' hk' => acq_other hk') hs (fun _ _ a => a) (rowA_set hc rfl) ?_
  rw [rowA_some hc]
  exact (h k es hc).acq hjn
/-- a release -/
theorem GI.rel (h : GI c A ln jn x DK SK) (hds : ∀ b k, b ≠ k → DK b → SK k) (hjn : jn < 4) (hA : Ok c A) {k : Nat} (hk : (k : Int) < c.L) (hd : ∀ b, b ≠ k → DK b → DK' b) : GI c (relA A k) ln jn x DK' SK ∧ ¬ DirtyR (relA A k) ln jn k := by
  obtain ⟨es, hc⟩ : ∃ es, A.cs[k]? = some es := ⟨_, List.getElem?_eq_getElem (by have := hA.cl; omega)⟩
  obtain ⟨fs, h1, h2⟩ := (stp_rel hA k).own _ (h.cl hds hjn k) es hc (h k es hc)
  have hfs : fs = es.map clE := by
    rw [rel_all hc] at h1
    have : (A.cs.set k (es.map clE))[k]? = some (es.map clE) := List.getElem?_set_self (List.getElem?_eq_some_iff.1 hc).1
    simp only at h1
    rw [this] at h1
    exact (Option.some.inj h1).symm
  have hcl : ∀ e ∈ fs, e.t jn = false := fun e he => by
    rw [hfs] at he
    obtain ⟨g, _, rfl⟩ := List.mem_map.1 he
    exact clE_t g jn hjn
  refine ⟨h.of k (stp_rel hA k).oth (fun _ _ a => a) hd h1 (h2.clean hcl), ?_⟩
  rintro ⟨gs, e, g1, g2, _, g4⟩
  rw [h1] at g1
  obtain rfl := Option.some.inj g1
  rw [hcl e g2] at g4; cases g4
/-- another word is put -/
theorem GI.putO (h : GI c A ln jn x DK SK) (hds : ∀ b k, b ≠ k → DK b → SK k) (hjn : jn < 4) (hA : Ok c A) {k p : Nat} {v : Int} (hk : (k : Int) < c.L) (hp : (p : Int) < c.W) (hne : p ≠ ln * 4 + jn) : GI c (putA c A k p v) ln jn x DK SK := by
  have hl4 : ∀ l, l = p / 4 → ¬ (l = ln ∧ p % 4 = jn) := fun l e h => by omega
  cases put_way hA k p v hk with
  | home hh e =>
    rw [e]
    intro b es hb
    obtain ⟨h1, h2, h3, h5, h4⟩ := h b es hb
    refine ⟨h1, h2, h3, h5, fun hq => ?_⟩
    simp only
    rw [getD_set, if_neg (fun hx => hne hx.1)]
    exact h4 hq
  | old hh es hc j hj hl e =>
    rw [e]
    refine h.of k (fun k' hk' => List.getElem?_set_ne hk') (fun _ _ a => a) (fun _ _ a => a) (rowA_set hc rfl) ?_
    exact (h k es hc).wrOld hj v (hl4 _ hl)
  | new hh es hc hf e =>
    rw [e]
    have hev := (h.cl hds hjn k).evict hA hc (h k es hc)
    refine h.of k (fun k' hk' => by show (A.cs.set k _)[k']? = _; exact List.getElem?_set_ne hk') (fun _ _ a => a) (fun _ _ a => a) (rowA_set hc rfl) ?_
    exact hev.wrNew v hh (hl4 _ rfl)
/-- the word itself is put -/
theorem GI.putS (h : GI c A ln jn x DK SK) (hds : ∀ b k, b ≠ k → DK b → SK k) (hjn : jn < 4) (hA : Ok c A) {k : Nat} {v : Int} (hk : (k : Int) < c.L) (hp : ((ln * 4 + jn : Nat) : Int) < c.W) (hnd : ∀ b, b ≠ k → ¬ DirtyR A ln jn b) (hdk : DK' k) (hsk : ∀ b, b ≠ k → SK' b) : GI c (putA c A k (ln * 4 + jn) v) ln jn v DK' SK' := by
  have q1 : (ln * 4 + jn) / 4 = ln := by omega
  have q2 : (ln * 4 + jn) % 4 = jn := by omega
  have hml := hA.ml
  have key : ∀ B : AS, (∀ k', k ≠ k' → B.cs[k']? = A.cs[k']?) → (B.m.getD (ln * 4 + jn) 0 = v ∨ DirtyR B ln jn k) → (∀ es, B.cs[k]? = some es → Shd c k ln jn v (DK' k) (SK' k) (∃ b, b ≠ k ∧ DirtyR B ln jn b) B.m es) → GI c B ln jn v DK' SK' := fun B ho hm hown b es hb => by
    by_cases hbk : b = k
    · subst hbk; exact hown es hb
    · have hb' : A.cs[b]? = some es := by rw [← ho b (fun e => hbk e.symm)]; exact hb
      obtain ⟨h1, h2, h3, h5, h4⟩ := h b es hb'
      have hnt : ∀ e ∈ es, e.l = ln → e.t jn = false := fun e he hl => by
        cases ht : e.t jn with
        | false => rfl
        | true => exact absurd ⟨es, e, hb', he, hl, ht⟩ (hnd b hbk)
      refine ⟨h1, h2, fun e he a _ => Or.inr ⟨hsk b hbk, hnt e he a⟩, fun e he a q => (by rw [hnt e he a] at q; cases q), fun _ => ?_⟩
      rcases hm with hm | hm
      · exact Or.inl hm
      · exact Or.inr ⟨k, fun e => hbk e.symm, hm⟩
  cases put_way hA k (ln * 4 + jn) v hk with
  | home hh e =>
    rw [q1] at hh
    rw [e]
    have hmv : (A.m.set (ln * 4 + jn) v).getD (ln * 4 + jn) 0 = v := by rw [getD_set, if_pos ⟨rfl, by omega⟩]
    refine key _ (fun _ _ => rfl) (Or.inl hmv) (fun es hes => ?_)
    obtain ⟨h1, h2, h3, h5, h4⟩ := h k es hes
    exact ⟨h1, h2, fun e he a _ => absurd (by rw [a]; exact hh) (h2 e he), fun e he a _ => hdk, fun _ => Or.inl hmv⟩
  | old hh es hc j hj hl e =>
    rw [q1] at hl
    rw [q2] at e
    rw [e]
    have hro := rowA_set (B := { A with h := A.h + 1, cs := A.cs.set k (es.eraseIdx j ++ [wrE es[j] jn v]) }) hc rfl
    have hu := hA.runi k
    rw [rowA_some hc] at hu
    refine key _ (fun k' hk' => List.getElem?_set_ne hk') (Or.inr ⟨_, wrE es[j] jn v, hro, by simp, hl, by simp [wrE, upd]⟩) (fun es' hes' => ?_)
    rw [hro] at hes'
    obtain rfl := Option.some.inj hes'
    exact (h k es hc).hitOld hu hj hl v hdk
  | new hh es hc hf e =>
    rw [q1] at hh hf
    rw [q1, q2] at e
    rw [e]
    have hev := (h.cl hds hjn k).evict hA hc (h k es hc)
    have hro := rowA_set (B := { evA c A k es with cs := A.cs.set k (evL c es ++ [wrE (newE ln) jn v]) }) hc rfl
    refine key _ (fun k' hk' => by show (A.cs.set k _)[k']? = _; exact List.getElem?_set_ne hk') (Or.inr ⟨_, wrE (newE ln) jn v, hro, by simp, rfl, by simp [wrE, upd]⟩) (fun es' hes' => ?_)
    rw [hro] at hes'
    obtain rfl := Option.some.inj hes'
    exact hev.hitNew (fun hm => fiF_none hf (((evL_sub c es).map _).subset hm)) hh v hdk
/-- what a Get tells -/
theorem GI.told (h : GI c A ln jn x DK SK) (hds : ∀ b k, b ≠ k → DK b → SK k) (hjn : jn < 4) (hA : Ok c A) {k : Nat} (hk : (k : Int) < c.L) (hp : ((ln * 4 + jn : Nat) : Int) < c.W) (hns : ¬ SK k) : (getA c A k (ln * 4 + jn)).vs = A.vs ++ [x] := by
  obtain ⟨es, hc⟩ : ∃ es, A.cs[k]? = some es := ⟨_, List.getElem?_eq_getElem (by have := hA.cl; omega)⟩
  have q1 : (ln * 4 + jn) / 4 = ln := by omega
  have q2 : (ln * 4 + jn) % 4 = jn := by omega
  obtain ⟨y, h1, h2⟩ := (h.cl hds hjn k).told hA hc hk hp (h k es hc)
  rw [h1]
  congr 2
  rw [q1, q2] at h2
  rcases h2 with ⟨hh, rfl⟩ | ⟨m', fs, e, ⟨_, _, h3, _, _⟩, he, hl, hv, rfl⟩
  · obtain ⟨_, g2, _, _, g4⟩ := h k es hc
    rcases g4 (fun e he a => absurd (by rw [a]; exact hh) (g2 e he)) with h6 | ⟨b, hb, h6⟩
    · exact h6
    · exact absurd (hds b k hb (h.dk h6)) hns
  · rcases h3 e he hl hv with h6 | h6
    · exact h6
    · exact absurd h6.1 hns
end
end Go.Proofs.Ytggidakiflnhhaa
