import Derived.Test.YtggidakiflnhhaaW
namespace Go.Proofs.Ytggidakiflnhhaa
open Go.RowKit
set_option maxHeartbeats 1000000
set_option maxRecDepth 100000
set_option linter.unusedSimpArgs false
set_option linter.unusedVariables false

theorem Cl.told {c : Cf} {k : Nat} {F : List Int → List En → Prop} (H : Cl c k F) {A : AS} (hA : Ok c A) {es : List En} (hc : A.cs[k]? = some es) {p : Nat} (hk : (k : Int) < c.L) (hp : (p : Int) < c.W) (h : F A.m es) :
    ∃ x, (getA c A k p).vs = A.vs ++ [x] ∧ ((hmF c (p / 4) = (k : Int) ∧ x = A.m.getD p 0) ∨ ∃ m' fs e, F m' fs ∧ e ∈ fs ∧ e.l = p / 4 ∧ e.v (p % 4) = true ∧ x = e.d (p % 4)) := by
  cases get_way hA k p hk hp with
  | home hh e => exact ⟨_, by rw [e], Or.inl ⟨hh, rfl⟩⟩
  | hit hh fs j hj hc2 hl hv e =>
    rw [hc] at hc2
    obtain rfl := Option.some.inj hc2
    exact ⟨_, by rw [e], Or.inr ⟨A.m, es, es[j], h, List.getElem_mem hj, hl, hv, rfl⟩⟩
  | miss hh B hB hO fs j hj hc2 hl hv e =>
    have hx : p / 4 * 4 + 4 ≤ A.m.length := by have h1 := hA.ml; obtain ⟨_, _, _, _, o5, _⟩ := hA.cf; omega
    obtain ⟨gs, h1, h2⟩ := H.fill hA hc hx hh h
    obtain ⟨ds, h3, h4⟩ := H.ahead (hA.fill k (p / 4) hx) h1 (p / 4) (List.range (ahN c)) h2
    have hB' : B = (List.range (ahN c)).foldl (Ytggidakiflnhhaa.ahS c k (p / 4)) (fillA c A k (p / 4)) := hB
    rw [← hB'] at h3 h4
    rw [h3] at hc2
    obtain rfl := Option.some.inj hc2
    exact ⟨_, by rw [e], Or.inr ⟨B.m, ds, ds[j], h4, List.getElem_mem hj, hl, hv _ (Nat.mod_lt _ (by decide)), rfl⟩⟩
/-- the ways of a Put -/
inductive PutWay (c : Cf) (A : AS) (k p : Nat) (v : Int) : Prop where
  | home (h : hmF c (p / 4) = (k : Int)) (e : putA c A k p v = { A with m := A.m.set p v })
  | old (h : hmF c (p / 4) ≠ (k : Int)) (es : List En) (hc : A.cs[k]? = some es) (j : Nat) (hj : j < es.length) (hl : es[j].l = p / 4) (e : putA c A k p v = { A with h := A.h + 1, cs := A.cs.set k (es.eraseIdx j ++ [wrE es[j] (p % 4) v]) })
  | new (h : hmF c (p / 4) ≠ (k : Int)) (es : List En) (hc : A.cs[k]? = some es) (hf : fiF es (p / 4) = none) (e : putA c A k p v = { evA c A k es with cs := A.cs.set k (evL c es ++ [wrE (newE (p / 4)) (p % 4) v]) })
theorem put_way {c : Cf} {A : AS} (hA : Ok c A) (k p : Nat) (v : Int) (hk : (k : Int) < c.L) : PutWay c A k p v := by
  obtain ⟨es, hc⟩ : ∃ es, A.cs[k]? = some es := ⟨_, List.getElem?_eq_getElem (by have := hA.cl; omega)⟩
  by_cases hh : hmF c (p / 4) = (k : Int)
  · exact .home hh (by unfold putA; rw [if_pos hh])
  · cases hf : fiF es (p / 4) with
    | some j =>
      obtain ⟨hj, hl⟩ := fiF_some hf
      exact .old hh es hc j hj hl (by unfold putA; rw [if_neg hh, rowA_some hc, hf]; simp only [getD_row hj])
    | none => exact .new hh es hc hf (by unfold putA; rw [if_neg hh, rowA_some hc, hf])
/-- a step of a locale's cache that writes nothing new -/
structure Stp (c : Cf) (k : Nat) (A B : AS) : Prop where
  own : ∀ (F : List Int → List En → Prop), Cl c k F → ∀ es, A.cs[k]? = some es → F A.m es → ∃ fs, B.cs[k]? = some fs ∧ F B.m fs
  oth : ∀ k', k ≠ k' → B.cs[k']? = A.cs[k']?
theorem stp_get {c : Cf} {A : AS} (hA : Ok c A) {k p : Nat} (hk : (k : Int) < c.L) (hp : (p : Int) < c.W) : Stp c k A (getA c A k p) :=
  ⟨fun F H es hc h => H.get hA hc hk hp h, fun k' h => get_other hA hk hp h⟩
theorem stp_acq {c : Cf} {A : AS} (k : Nat) : Stp c k A (acqA A k) := ⟨fun F H es hc h => H.acq hc h, fun k' h => acq_other h⟩
theorem stp_rel {c : Cf} {A : AS} (hA : Ok c A) (k : Nat) : Stp c k A (relA A k) := ⟨fun F H es hc h => H.rel hA hc h, fun k' h => rel_other h A⟩

/-! ### good values -/
def GoodF (G : Nat → Int → Prop) (m : List Int) (es : List En) : Prop := (∀ p, G p (m.getD p 0)) ∧ ∀ e ∈ es, ∀ j, j < 4 → (e.v j = true ∨ e.t j = true) → G (e.l * 4 + j) (e.d j)
def GoodA (G : Nat → Int → Prop) (A : AS) : Prop := (∀ p, G p (A.m.getD p 0)) ∧ ∀ (k : Nat) es, A.cs[k]? = some es → ∀ e ∈ es, ∀ j, j < 4 → (e.v j = true ∨ e.t j = true) → G (e.l * 4 + j) (e.d j)
theorem wbm_good {G : Nat → Int → Prop} {m : List Int} {e : En} (hm : ∀ p, G p (m.getD p 0)) (hd : ∀ j, j < 4 → e.t j = true → G (e.l * 4 + j) (e.d j)) (hl : e.l * 4 + 4 ≤ m.length) : ∀ p, G p ((wbm m e).getD p 0) := by
  intro p
  have h1 := wbm_get m e hl (p / 4) (p % 4) (Nat.mod_lt _ (by decide))
  rw [show p / 4 * 4 + p % 4 = p by omega] at h1
  rw [h1]
  split
  · rename_i h
    have := hd (p % 4) (Nat.mod_lt _ (by decide)) h.2
    rw [h.1, show p / 4 * 4 + p % 4 = p by omega] at this
    exact this
  · exact hm p
theorem ftE_good {G : Nat → Int → Prop} {m : List Int} {e : En} (hm : ∀ p, G p (m.getD p 0)) (hd : ∀ j, j < 4 → e.v j = true → G (e.l * 4 + j) (e.d j)) (j : Nat) (hj : j < 4) : G ((ftE m e).l * 4 + j) ((ftE m e).d j) := by
  rw [ftE_l, ftE_d m e j hj]
  split
  · rename_i h; exact hd j hj h
  · exact hm _
theorem mem_mv {es : List En} {j : Nat} {x e : En} (h : e ∈ es.eraseIdx j ++ [x]) : e ∈ es.eraseIdx j ∨ e = x := by
  rcases List.mem_append.1 h with h | h
  · exact Or.inl h
  · exact Or.inr (by simpa using h)
theorem mem_set {es : List En} {j : Nat} {x e : En} (h : e ∈ es.set j x) : e ∈ es ∨ e = x := List.mem_or_eq_of_mem_set h
theorem cl_good (c : Cf) (k : Nat) (G : Nat → Int → Prop) : Cl c k (GoodF G) where
  ev m e es hl hu h := ⟨wbm_good h.1 (fun j hj ht => h.2 e (by simp) j hj (Or.inr ht)) (hl e (by simp)), fun f hf => h.2 f (by simp [hf])⟩
  en m es l hh hn hl h := ⟨h.1, fun f hf j hj hv => by
    rcases List.mem_append.1 hf with hf | hf
    · exact h.2 f hf j hj hv
    · obtain rfl : f = ftE m (newE l) := by simpa using hf
      exact ftE_good h.1 (fun j hj hv => by simp [newE] at hv) j hj⟩
  mv m es j hj h := ⟨h.1, fun f hf => by
    rcases mem_mv hf with hf | rfl
    · exact h.2 f (List.mem_of_mem_eraseIdx hf)
    · exact h.2 _ (List.getElem_mem hj)⟩
  ft m es j hj hu h := ⟨h.1, fun f hf i hi hv => by
    rcases mem_mv hf with hf | rfl
    · exact h.2 f (List.mem_of_mem_eraseIdx hf) i hi hv
    · exact ftE_good h.1 (fun i hi hv => h.2 _ (List.getElem_mem hj) i hi (Or.inl hv)) i hi⟩
  rl m es j hj hl hu h := ⟨wbm_good h.1 (fun i hi ht => h.2 _ (List.getElem_mem hj) i hi (Or.inr ht)) (hl _ (List.getElem_mem hj)), fun f hf i hi hv => by
    rcases mem_set hf with hf | rfl
    · exact h.2 f hf i hi hv
    · rw [clE_l, clE_d]
      rw [clE_v, clE_t _ i hi] at hv
      exact h.2 _ (List.getElem_mem hj) i hi (Or.inl (by simpa using hv))⟩
  ac m es h := ⟨h.1, fun f hf i hi hv => by
    obtain ⟨g, hg, rfl⟩ := List.mem_map.1 (List.mem_filter.1 hf).1
    exact h.2 g hg i hi (Or.inr (by simpa [acE] using hv))⟩
theorem GoodA.of {G : Nat → Int → Prop} {A B : AS} (h : GoodA G A) (k : Nat) (ho : ∀ k', k ≠ k' → B.cs[k']? = A.cs[k']?) {fs : List En} (hf : B.cs[k]? = some fs) (hg : GoodF G B.m fs) : GoodA G B := by
  refine ⟨hg.1, fun k' es hk' => ?_⟩
  by_cases hkk : k = k'
  · subst hkk
    rw [hf] at hk'
    obtain rfl := Option.some.inj hk'
    exact hg.2
  · rw [ho k' hkk] at hk'
    exact h.2 k' es hk'
theorem GoodA.stp {G : Nat → Int → Prop} {c : Cf} {A B : AS} (hA : Ok c A) (h : GoodA G A) {k : Nat} (hk : (k : Int) < c.L) (hs : Stp c k A B) : GoodA G B := by
  obtain ⟨es, hc⟩ : ∃ es, A.cs[k]? = some es := ⟨_, List.getElem?_eq_getElem (by have := hA.cl; omega)⟩
  obtain ⟨fs, h1, h2⟩ := hs.own _ (cl_good c k G) es hc ⟨h.1, h.2 k es hc⟩
  exact h.of k hs.oth h1 h2
theorem GoodA.mono {G G' : Nat → Int → Prop} {A : AS} (h : GoodA G A) (hg : ∀ p x, G p x → G' p x) : GoodA G' A := ⟨fun p => hg _ _ (h.1 p), fun k es hk e he j hj hv => hg _ _ (h.2 k es hk e he j hj hv)⟩
theorem wrE_good {G : Nat → Int → Prop} {e : En} {p : Nat} {v : Int} (hl : e.l = p / 4) (hd : ∀ j, j < 4 → (e.v j = true ∨ e.t j = true) → G (e.l * 4 + j) (e.d j)) (hv : G p v) (j : Nat) (hj : j < 4) (h : (wrE e (p % 4) v).v j = true ∨ (wrE e (p % 4) v).t j = true) : G ((wrE e (p % 4) v).l * 4 + j) ((wrE e (p % 4) v).d j) := by
  simp only [wrE, upd] at h ⊢
  by_cases hji : j = p % 4
  · rw [if_pos hji, hl, hji, show p / 4 * 4 + p % 4 = p by omega]
    exact hv
  · rw [if_neg hji]
    rw [if_neg hji, if_neg hji] at h
    exact hd j hj h
theorem GoodA.put {G : Nat → Int → Prop} {c : Cf} {A : AS} (hA : Ok c A) (h : GoodA G A) {k p : Nat} {v : Int} (hk : (k : Int) < c.L) (hv : G p v) : GoodA G (putA c A k p v) := by
  cases put_way hA k p v hk with
  | home hh e =>
    rw [e]
    refine ⟨fun q => ?_, h.2⟩
    simp only [getD_set]
    split
    · rename_i hq; rw [← hq.1]; exact hv
    · exact h.1 q
  | old hh es hc j hj hl e =>
    refine h.of k (fun k' hne => put_other hne) (by rw [e]; exact rowA_set hc rfl) ?_
    rw [e]
    refine ⟨h.1, fun f hf i hi hvt => ?_⟩
    rcases mem_mv hf with hf | rfl
    · exact h.2 k es hc f (List.mem_of_mem_eraseIdx hf) i hi hvt
    · exact wrE_good hl (fun i hi => h.2 k es hc _ (List.getElem_mem hj) i hi) hv i hi hvt
  | new hh es hc hf e =>
    refine h.of k (fun k' hne => put_other hne) (by rw [e]; exact rowA_set hc rfl) ?_
    rw [e]
    have h1 := (cl_good c k G).evict hA hc ⟨h.1, h.2 k es hc⟩
    refine ⟨h1.1, fun f hf i hi hvt => ?_⟩
    rcases List.mem_append.1 hf with hf | hf
    · exact h1.2 f hf i hi hvt
    · obtain rfl : f = wrE (newE (p / 4)) (p % 4) v := by simpa using hf
      exact wrE_good rfl (fun i hi hq => by simp [newE] at hq) hv i hi hvt
theorem GoodA.told {G : Nat → Int → Prop} {c : Cf} {A : AS} (hA : Ok c A) (h : GoodA G A) {k p : Nat} (hk : (k : Int) < c.L) (hp : (p : Int) < c.W) : ∃ x, (getA c A k p).vs = A.vs ++ [x] ∧ G p x := by
  obtain ⟨es, hc⟩ : ∃ es, A.cs[k]? = some es := ⟨_, List.getElem?_eq_getElem (by have := hA.cl; omega)⟩
  obtain ⟨x, h1, h2⟩ := (cl_good c k G).told hA hc hk hp ⟨h.1, h.2 k es hc⟩
  refine ⟨x, h1, ?_⟩
  rcases h2 with ⟨_, rfl⟩ | ⟨m', fs, e, hF, he, hl, hv, rfl⟩
  · exact h.1 p
  · have := hF.2 e he (p % 4) (Nat.mod_lt _ (by decide)) (Or.inl hv)
    rw [hl, show p / 4 * 4 + p % 4 = p by omega] at this
    exact this

/-! ### a place that one locale alone uses -/
def Mine (c : Cf) (a ln jn : Nat) (last : Int) (m : List Int) (es : List En) : Prop :=
  (∀ e ∈ es, ∀ j, j < 4 → e.t j = true → e.v j = true) ∧ (∀ e ∈ es, hmF c e.l ≠ (a : Int)) ∧ (∀ e ∈ es, e.l = ln → e.v jn = true → e.d jn = last) ∧ ((∀ e ∈ es, e.l = ln → e.t jn = false) → m.getD (ln * 4 + jn) 0 = last)
def Oth (ln jn : Nat) (m0 : Int) (m : List Int) (es : List En) : Prop := (∀ e ∈ es, e.l = ln → e.t jn = false) ∧ m.getD (ln * 4 + jn) 0 = m0
theorem ne_erase {es : List En} (hu : (es.map En.l).Nodup) {j : Nat} (hj : j < es.length) {e : En} (he : e ∈ es.eraseIdx j) : e.l ≠ es[j].l := by
  have hp := (erase_perm es j hj).map En.l
  have h1 := hp.nodup_iff.2 hu
  rw [List.map_append, List.nodup_append] at h1
  exact h1.2.2 e.l (List.mem_map_of_mem he) es[j].l (by simp)
theorem mem_erase {es : List En} {j : Nat} (hj : j < es.length) {e : En} (he : e ∈ es) : e ∈ es.eraseIdx j ∨ e = es[j] := mem_mv ((erase_perm es j hj).mem_iff.2 he)
theorem mem_set_or {es : List En} {j : Nat} (hj : j < es.length) {e : En} (x : En) (he : e ∈ es) : e ∈ es.set j x ∨ e = es[j] := by
  obtain ⟨i, hi, rfl⟩ := List.mem_iff_getElem.1 he
  by_cases h : i = j
  · subst h; exact Or.inr rfl
  · refine Or.inl (List.mem_iff_getElem.2 ⟨i, by simpa using hi, ?_⟩)
    rw [List.getElem_set_ne (fun e => h e.symm)]
theorem self_set {es : List En} {j : Nat} (hj : j < es.length) (x : En) : x ∈ es.set j x := List.mem_iff_getElem.2 ⟨j, by simpa using hj, by simp⟩
theorem cl_mine (c : Cf) (a ln jn : Nat) (last : Int) (hjn : jn < 4) : Cl c a (Mine c a ln jn last) where
  ev m e es hl hu h := by
    obtain ⟨h1, h2, h3, h4⟩ := h
    refine ⟨fun f hf => h1 f (by simp [hf]), fun f hf => h2 f (by simp [hf]), fun f hf => h3 f (by simp [hf]), fun hn => ?_⟩
    rw [wbm_get m e (hl e (by simp)) ln jn hjn]
    split
    · rename_i h
      exact h3 e (by simp) h.1 (h1 e (by simp) jn hjn h.2)
    · rename_i h
      refine h4 (fun f hf hfl => ?_)
      rcases List.mem_cons.1 hf with rfl | hf
      · cases ht : f.t jn with
        | false => rfl
        | true => exact absurd ⟨hfl, ht⟩ h
      · exact hn f hf hfl
  en m es l hh hn hl h := by
    obtain ⟨h1, h2, h3, h4⟩ := h
    refine ⟨fun f hf => ?_, fun f hf => ?_, fun f hf => ?_, fun hq => h4 (fun f hf => hq f (by simp [hf]))⟩ <;> (rcases List.mem_append.1 hf with hf | hf)
    · exact h1 f hf
    · obtain rfl : f = ftE m (newE l) := by simpa using hf
      exact fun j hj _ => ftE_v _ _ j hj
    · exact h2 f hf
    · obtain rfl : f = ftE m (newE l) := by simpa using hf
      rw [ftE_l]; exact hh
    · exact h3 f hf
    · obtain rfl : f = ftE m (newE l) := by simpa using hf
      intro hfl _
      rw [ftE_l] at hfl
      have hfl : l = ln := hfl
      subst hfl
      rw [ftE_d m _ jn hjn]
      simp only [newE, Bool.false_eq_true, if_false]
      exact h4 (fun g hg hgl => absurd (List.mem_map.2 ⟨g, hg, hgl⟩) hn)
  mv m es j hj h := by
    have hm : ∀ f, f ∈ es.eraseIdx j ++ [es[j]] ↔ f ∈ es := fun f => (erase_perm es j hj).mem_iff
    obtain ⟨h1, h2, h3, h4⟩ := h
    exact ⟨fun f hf => h1 f ((hm f).1 hf), fun f hf => h2 f ((hm f).1 hf), fun f hf => h3 f ((hm f).1 hf), fun hn => h4 (fun f hf => hn f ((hm f).2 hf))⟩
  ft m es j hj hu h := by
    obtain ⟨h1, h2, h3, h4⟩ := h
    refine ⟨fun f hf => ?_, fun f hf => ?_, fun f hf => ?_, fun hq => ?_⟩
    · rcases mem_mv hf with hf | rfl
      · exact h1 f (List.mem_of_mem_eraseIdx hf)
      · exact fun j hj _ => ftE_v _ _ j hj
    · rcases mem_mv hf with hf | rfl
      · exact h2 f (List.mem_of_mem_eraseIdx hf)
      · rw [ftE_l]; exact h2 _ (List.getElem_mem hj)
    · rcases mem_mv hf with hf | rfl
      · exact h3 f (List.mem_of_mem_eraseIdx hf)
      · intro hfl _
        rw [ftE_l] at hfl
        rw [ftE_d m _ jn hjn]
        split
        · rename_i hv; exact h3 _ (List.getElem_mem hj) hfl hv
        · rename_i hv
          rw [hfl]
          refine h4 (fun g hg hgl => ?_)
          rcases mem_erase hj hg with hg | rfl
          · exact absurd (hgl.trans hfl.symm) (ne_erase hu hj hg)
          · cases ht : es[j].t jn with
            | false => rfl
            | true => exact absurd (h1 _ (List.getElem_mem hj) jn hjn ht) hv
    · refine h4 (fun g hg hgl => ?_)
      rcases mem_erase hj hg with hg | rfl
      · exact hq g (by simp [hg]) hgl
      · have := hq (ftE m es[j]) (by simp) (by rw [ftE_l]; exact hgl)
        rwa [ftE_t] at this
  rl m es j hj hl hu h := by
    obtain ⟨h1, h2, h3, h4⟩ := h
    refine ⟨fun f hf => ?_, fun f hf => ?_, fun f hf => ?_, fun hq => ?_⟩
    · rcases mem_set hf with hf | rfl
      · exact h1 f hf
      · exact fun i hi ht => by rw [clE_t _ i hi] at ht; cases ht
    · rcases mem_set hf with hf | rfl
      · exact h2 f hf
      · rw [clE_l]; exact h2 _ (List.getElem_mem hj)
    · rcases mem_set hf with hf | rfl
      · exact h3 f hf
      · rw [clE_l, clE_v, clE_d]; exact h3 _ (List.getElem_mem hj)
    · rw [wbm_get m _ (hl _ (List.getElem_mem hj)) ln jn hjn]
      split
      · rename_i h; exact h3 _ (List.getElem_mem hj) h.1 (h1 _ (List.getElem_mem hj) jn hjn h.2)
      · rename_i h
        refine h4 (fun g hg hgl => ?_)
        rcases mem_set_or hj (clE es[j]) hg with hg | rfl
        · exact hq g hg hgl
        · cases ht : es[j].t jn with
          | false => rfl
          | true => exact absurd ⟨hgl, ht⟩ h
  ac m es h := by
    obtain ⟨h1, h2, h3, h4⟩ := h
    refine ⟨fun f hf => ?_, fun f hf => ?_, fun f hf => ?_, fun hq => ?_⟩
    · obtain ⟨g, hg, rfl⟩ := List.mem_map.1 (List.mem_filter.1 hf).1
      exact fun j hj ht => ht
    · obtain ⟨g, hg, rfl⟩ := List.mem_map.1 (List.mem_filter.1 hf).1
      exact h2 g hg
    · obtain ⟨g, hg, rfl⟩ := List.mem_map.1 (List.mem_filter.1 hf).1
      exact fun hl hv => h3 g hg hl (h1 g hg jn hjn hv)
    · refine h4 (fun g hg hgl => ?_)
      cases ht : g.t jn with
      | false => rfl
      | true =>
        have := hq (acE g) (List.mem_filter.2 ⟨List.mem_map_of_mem hg, anyT_of hjn ht⟩) hgl
        rw [← ht]; exact this
theorem cl_oth (c : Cf) (k ln jn : Nat) (m0 : Int) (hjn : jn < 4) : Cl c k (Oth ln jn m0) where
  ev m e es hl hu h := by
    refine ⟨fun f hf => h.1 f (by simp [hf]), ?_⟩
    rw [wbm_get m e (hl e (by simp)) ln jn hjn, if_neg (fun hx => by have := h.1 e (by simp) hx.1; rw [this] at hx; exact absurd hx.2 (by decide))]
    exact h.2
  en m es l hh hn hl h := by
    refine ⟨fun f hf => ?_, h.2⟩
    rcases List.mem_append.1 hf with hf | hf
    · exact h.1 f hf
    · obtain rfl : f = ftE m (newE l) := by simpa using hf
      rw [ftE_t]; exact fun _ => rfl
  mv m es j hj h := ⟨fun f hf => h.1 f ((erase_perm es j hj).mem_iff.1 hf), h.2⟩
  ft m es j hj hu h := by
    refine ⟨fun f hf => ?_, h.2⟩
    rcases mem_mv hf with hf | rfl
    · exact h.1 f (List.mem_of_mem_eraseIdx hf)
    · rw [ftE_t, ftE_l]; exact h.1 _ (List.getElem_mem hj)
  rl m es j hj hl hu h := by
    refine ⟨fun f hf => ?_, ?_⟩
    · rcases mem_set hf with hf | rfl
      · exact h.1 f hf
      · exact fun _ => clE_t _ jn hjn
    · rw [wbm_get m _ (hl _ (List.getElem_mem hj)) ln jn hjn, if_neg (fun hx => by have := h.1 _ (List.getElem_mem hj) hx.1; rw [this] at hx; exact absurd hx.2 (by decide))]
      exact h.2
  ac m es h := by
    refine ⟨fun f hf => ?_, h.2⟩
    obtain ⟨g, hg, rfl⟩ := List.mem_map.1 (List.mem_filter.1 hf).1
    exact h.1 g hg
end Go.Proofs.Ytggidakiflnhhaa
