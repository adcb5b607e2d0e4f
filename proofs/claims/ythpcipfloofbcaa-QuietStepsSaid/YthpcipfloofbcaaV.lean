import Derived.Test.YthpcipfloofbcaaL
import Derived.Test.YthpcipfloofbcaaP
import Derived.Test.YthpcipfloofbcaaT
namespace Go.Proofs.Ythpcipfloofbcaa
open Go.RowKit
set_option maxHeartbeats 1000000
set_option linter.unusedSimpArgs false
set_option linter.unusedVariables false

/-! the plain law of Tells: no program in sight -/
def sumN (f : Nat → Int) : Nat → Int
  | 0 => 0
  | k + 1 => sumN f k + f k
theorem sumN_le {f g : Nat → Int} (n : Nat) (h : ∀ i, i < n → f i ≤ g i) : sumN f n ≤ sumN g n := by
  induction n with
  | zero => simp [sumN]
  | succ n ih => have := ih (fun i hi => h i (by omega)); have := h n (by omega); simp only [sumN]; omega
theorem sumN_congr {f g : Nat → Int} (n : Nat) (h : ∀ i, i < n → f i = g i) : sumN f n = sumN g n := by
  induction n with
  | zero => simp [sumN]
  | succ n ih => simp only [sumN, ih (fun i hi => h i (by omega)), h n (by omega)]
theorem sumN_eq {f g : Nat → Int} (n : Nat) (h : ∀ i, i < n → f i ≤ g i) (he : sumN f n = sumN g n) : ∀ i, i < n → f i = g i := by
  induction n with
  | zero => intro i hi; omega
  | succ n ih =>
    have h1 := sumN_le n (fun i hi => h i (by omega))
    have h2 := h n (by omega)
    simp only [sumN] at he
    intro i hi
    by_cases e : i = n
    · subst e; omega
    · exact ih (fun i hi => h i (by omega)) (by omega) i (by omega)
theorem sumN_shift (f : Nat → Int) (n : Nat) : sumN f (n + 1) = f 0 + sumN (fun i => f (i + 1)) n := by
  induction n with
  | zero => simp [sumN]
  | succ n ih => rw [sumN, ih]; simp only [sumN]; omega
abbrev Mem.z : Mem := ⟨false, 0, 0⟩
theorem netM_sum (l : List Mem) : netM l = sumN (fun i => (l.getD i .z).sent) l.length - sumN (fun i => (l.getD i .z).recv) l.length := by
  induction l with
  | nil => rfl
  | cons x l ih =>
    rw [List.length_cons, sumN_shift, sumN_shift]
    simp only [netM, List.getD_cons_zero, List.getD_cons_succ]
    omega
theorem netM_set (l : List Mem) (i : Nat) (x y : Mem) (h : l[i]? = some x) : netM (l.set i y) = netM l + (y.sent - y.recv) - (x.sent - x.recv) := by
  induction l generalizing i with
  | nil => simp at h
  | cons z l ih =>
    cases i with
    | zero => simp at h; subst h; simp only [List.set_cons_zero, netM]; omega
    | succ i => simp at h; simp only [List.set_cons_succ, netM, ih i h]; omega

/-- a move that succeeds -/
inductive Went (s : St) : St → Prop
  | send (i : Nat) (x : Mem) (b : Int) (hx : s.ms[i]? = some x) (ha : x.act = true) (h1 : x.sent < 1000000) (h2 : s.fl.length < 100) (hb : 0 ≤ b ∧ b < s.ms.length) : Went s { s with ms := s.ms.set i { x with sent := x.sent + 1 }, fl := s.fl ++ [b] }
  | idle (i : Nat) (x : Mem) (hx : s.ms[i]? = some x) (ha : x.act = true) : Went s { s with ms := s.ms.set i { x with act := false } }
  | arrive (j i : Nat) (x : Mem) (hj : j < s.fl.length) (hx : s.ms[i]? = some x) (h1 : x.recv < 1000000) : Went s { s with ms := s.ms.set i { x with recv := x.recv + 1, act := true }, fl := s.fl.eraseIdx j }
  | ask (x : Mem) (h0 : 0 ≤ s.wn) (hx : s.ms[s.wn.toNat]? = some x) (ha : x.act = false) (h1 : s.ws + x.sent ≤ 10000000) (h2 : s.wr + x.recv ≤ 10000000) (h3 : s.wv < 1000000) (hn : s.wn + 1 < s.ms.length) : Went s { s with wn := s.wn + 1, ws := s.ws + x.sent, wr := s.wr + x.recv }
  | done (x : Mem) (h0 : 0 ≤ s.wn) (hx : s.ms[s.wn.toNat]? = some x) (ha : x.act = false) (h1 : s.ws + x.sent ≤ 10000000) (h2 : s.wr + x.recv ≤ 10000000) (h3 : s.wv < 1000000) (hn : ¬ s.wn + 1 < s.ms.length) : Went s { s with told := (decide (s.ws + x.sent = s.wr + x.recv) && decide (s.ws + x.sent = s.ls) && decide (s.wr + x.recv = s.lr)) || s.told, ls := s.ws + x.sent, lr := s.wr + x.recv, wv := s.wv + 1, wn := 0, ws := 0, wr := 0 }

theorem at_get {s : St} {a : Int} {x : Mem} (h : s.at a = some x) : 0 ≤ a ∧ s.ms[a.toNat]? = some x := by
  unfold St.at at h
  split at h
  · exact ⟨by assumption, h⟩
  · simp at h

theorem went_of {s s' : St} {m : Mov} (h : moveF s m = .ok s') : Went s s' := by
  unfold moveF at h
  split at h
  · unfold sendF at h
    split at h
    · simp at h
    · rename_i x hx
      obtain ⟨h0, hx⟩ := at_get hx
      cases hb : s.at m.b with
      | none => simp [hb] at h
      | some y =>
        obtain ⟨b0, b1, _⟩ := St.at_some hb
        simp only [hb, Option.isNone_some, Bool.false_eq_true, if_false] at h
        split at h
        · split at h
          · cases h
            rename_i h1 h2
            simp only [Bool.and_eq_true, decide_eq_true_eq] at h2
            exact .send m.a.toNat x m.b hx h1 h2.1 (by omega) ⟨b0, b1⟩
          · simp at h
        · simp at h
  · split at h
    · unfold idleF at h
      split at h
      · simp at h
      · rename_i x hx
        obtain ⟨h0, hx⟩ := at_get hx
        split at h
        · cases h; exact .idle _ x hx (by assumption)
        · simp at h
    · split at h
      · unfold arriveF at h
        split at h
        · split at h
          · simp at h
          · rename_i h1 x hx
            obtain ⟨h0, hx⟩ := at_get hx
            split at h
            · cases h; exact .arrive m.a.toNat _ x (by omega) hx (by assumption)
            · simp at h
        · simp at h
      · unfold askF at h
        split at h
        · simp at h
        · rename_i x hx
          obtain ⟨h0, hx⟩ := at_get hx
          split at h
          · simp at h
          · rename_i ha
            simp only [Bool.not_eq_true] at ha
            split at h
            · rename_i hh
              split at h
              · cases h; exact .ask x h0 hx ha hh.2.1 hh.2.2 hh.1 (by assumption)
              · cases h; exact .done x h0 hx ha hh.2.1 hh.2.2 hh.1 (by assumption)
            · simp at h

theorem check_iff (s : St) : checkF s = 0 ↔ Fine s := by
  rw [← fine_iff]; unfold checkF; split <;> simp_all

theorem mem_set_all {l : List Mem} {i : Nat} {y : Mem} {P : Mem → Prop} (h : ∀ x ∈ l, P x) (hy : P y) : ∀ x ∈ l.set i y, P x := fun x hx => by
  rcases List.mem_or_eq_of_mem_set hx with h1 | h1
  · exact h x h1
  · exact h1 ▸ hy

theorem Went.fine {s s' : St} (h : Went s s') (hf : Fine s) : Fine s' := by
  obtain ⟨f1, f2, f3, f4, f5, f6, f7, f8, f9, f10⟩ := hf
  cases h with
  | send i x b hx ha h1 h2 hb =>
    have hm := f4 x (List.mem_of_getElem? hx)
    exact ⟨by simpa using f1, by simpa using f2, by simp; omega, mem_set_all f4 ⟨by simp; omega, by simp; omega, hm.2.2.1, hm.2.2.2⟩, fun y hy => by
      rw [List.length_set]
      rcases List.mem_append.1 hy with h | h
      · exact f5 y h
      · simp at h; subst h; exact hb, by simpa using f6, f7, f8, f9, f10⟩
  | idle i x hx ha =>
    have hm := f4 x (List.mem_of_getElem? hx)
    exact ⟨by simpa using f1, by simpa using f2, f3, mem_set_all f4 hm, by simpa using f5, by simpa using f6, f7, f8, f9, f10⟩
  | arrive j i x hj hx h1 =>
    have hm := f4 x (List.mem_of_getElem? hx)
    exact ⟨by simpa using f1, by simpa using f2, by simp [List.length_eraseIdx]; split <;> omega, mem_set_all f4 ⟨hm.1, hm.2.1, by simp; omega, by simp; omega⟩, fun y hy => by
      rw [List.length_set]; exact f5 y (List.mem_of_mem_eraseIdx hy), by simpa using f6, f7, f8, f9, f10⟩
  | ask x h0 hx ha h1 h2 h3 hn =>
    have hm := f4 x (List.mem_of_getElem? hx)
    exact ⟨f1, f2, f3, f4, f5, ⟨by simp; omega, hn⟩, ⟨by simp; omega, h1, by simp; omega, h2⟩, .inl (by simp; omega), f9, f10⟩
  | done x h0 hx ha h1 h2 h3 hn =>
    have hm := f4 x (List.mem_of_getElem? hx)
    exact ⟨f1, f2, f3, f4, f5, ⟨by simp, by simp; omega⟩, by simp, .inr ⟨rfl, rfl⟩, .inr ⟨by simp; omega, h1, by simp; omega, h2⟩, ⟨by simp; omega, by simp; omega⟩⟩

theorem quietB_iff (s : St) : quietB s = true ↔ s.fl = [] ∧ ∀ (i : Nat) (x : Mem), s.ms[i]? = some x → x.act = false := by
  unfold quietB
  rw [Bool.and_eq_true, List.isEmpty_iff, Bool.not_eq_true', List.any_eq_false]
  constructor
  · rintro ⟨h1, h2⟩
    exact ⟨h1, fun i x hx => by simpa using h2 x (List.mem_of_getElem? hx)⟩
  · rintro ⟨h1, h2⟩
    refine ⟨h1, fun x hx => ?_⟩
    obtain ⟨i, hi⟩ := List.getElem?_of_mem hx
    simpa using h2 i x hi

theorem Went.quiet {s s' : St} (h : Went s s') (hq : quietB s = true) : quietB s' = true := by
  have hq' := hq
  rw [quietB_iff] at hq
  cases h with
  | send i x b hx ha h1 h2 hb => rw [hq.2 i x hx] at ha; simp at ha
  | idle i x hx ha => rw [hq.2 i x hx] at ha; simp at ha
  | arrive j i x hj hx h1 => rw [hq.1] at hj; simp at hj
  | ask x h0 hx ha h1 h2 h3 hn => exact hq'
  | done x h0 hx ha h1 h2 h3 hn => exact hq'

theorem Went.net {s s' : St} (h : Went s s') (hn : netM s.ms = s.fl.length) : netM s'.ms = s'.fl.length := by
  cases h with
  | send i x b hx ha h1 h2 hb => simp only [netM_set _ _ _ _ hx, List.length_append, List.length_singleton]; omega
  | idle i x hx ha => simp only [netM_set _ _ _ _ hx]; omega
  | arrive j i x hj hx h1 => simp only [netM_set _ _ _ _ hx, List.length_eraseIdx, hj, if_true]; omega
  | ask x h0 hx ha h1 h2 h3 _ => exact hn
  | done x h0 hx ha h1 h2 h3 _ => exact hn

structure Gst (p q u : Nat → Int) (V : Int) (s : St) : Prop where
  ws : s.ws = sumN p s.wn.toNat
  wr : s.wr = sumN q s.wn.toNat
  ask : ∀ (i : Nat) (x : Mem), i < s.wn.toNat → s.ms[i]? = some x → q i ≤ x.recv ∧ (q i = x.recv → x.act = false)
  last : s.ls = -1 ∨ (s.lr ≤ V ∧ V ≤ sumN u s.ms.length ∧ (∀ (i : Nat) (x : Mem), s.ms[i]? = some x → u i ≤ x.sent) ∧ (∀ i, i < s.wn.toNat → u i ≤ p i) ∧ (s.lr = V → sumN u s.ms.length = V → quietB s = true))

/-- the right states on the way from New -/
structure Reach (s : St) : Prop where
  fine : Fine s
  net : netM s.ms = s.fl.length
  told : s.told = true → quietB s = true
  gst : ∃ p q u V, Gst p q u V s

theorem set_get {l : List Mem} {i : Nat} {x y : Mem} (hx : l[i]? = some x) (j : Nat) (z : Mem) (h : (l.set i y)[j]? = some z) : (j = i ∧ z = y) ∨ (j ≠ i ∧ l[j]? = some z) := by
  rw [List.getElem?_set] at h
  split at h
  · split at h
    · cases h; left; exact ⟨by omega, rfl⟩
    · simp at h
  · right; exact ⟨by omega, h⟩

theorem Gst.step {p q u : Nat → Int} {V : Int} {s s' : St} (h : Gst p q u V s) (hq : quietB s = true → quietB s' = true) (h1 : s'.wn = s.wn) (h2 : s'.ws = s.ws) (h3 : s'.wr = s.wr) (h4 : s'.ls = s.ls) (h5 : s'.lr = s.lr) (hl : s'.ms.length = s.ms.length)
    (hm : ∀ (i : Nat) (y : Mem), s'.ms[i]? = some y → ∃ x, s.ms[i]? = some x ∧ x.sent ≤ y.sent ∧ x.recv ≤ y.recv ∧ (x.recv = y.recv → x.act = false → y.act = false)) : Gst p q u V s' := by
  refine ⟨by rw [h1, h2]; exact h.ws, by rw [h1, h3]; exact h.wr, fun i y hi hy => ?_, ?_⟩
  · obtain ⟨x, hx, a1, a2, a3⟩ := hm i y hy
    obtain ⟨b1, b2⟩ := h.ask i x (by rw [← h1]; exact hi) hx
    exact ⟨by omega, fun e => a3 (by omega) (b2 (by omega))⟩
  · rcases h.last with hL | ⟨c1, c2, c3, c4, c5⟩
    · left; rw [h4]; exact hL
    · right
      refine ⟨by rw [h5]; exact c1, by rw [hl]; exact c2, fun i y hy => ?_, fun i hi => c4 i (by rw [← h1]; exact hi), fun e1 e2 => hq (c5 (by rw [← h5]; exact e1) (by rw [← hl]; exact e2))⟩
      obtain ⟨x, hx, a1, _⟩ := hm i y hy
      have := c3 i x hx; omega

theorem Reach.went {s s' : St} (h : Reach s) (hw : Went s s') : Reach s' := by
  have hf' := hw.fine h.fine
  have hn' := hw.net h.net
  have hq' := hw.quiet
  obtain ⟨p, q, u, V, hg⟩ := h.gst
  cases hw with
  | send i x b hx ha h1 h2 hb =>
    refine ⟨hf', hn', fun ht => hq' (h.told ht), p, q, u, V, hg.step hq' rfl rfl rfl rfl rfl (by simp) (fun j y hy => ?_)⟩
    rcases set_get hx j y hy with ⟨rfl, rfl⟩ | ⟨_, hy⟩
    · exact ⟨x, hx, by simp; omega, by simp, fun _ e => e⟩
    · exact ⟨y, hy, by omega, by omega, fun _ e => e⟩
  | idle i x hx ha =>
    refine ⟨hf', hn', fun ht => hq' (h.told ht), p, q, u, V, hg.step hq' rfl rfl rfl rfl rfl (by simp) (fun j y hy => ?_)⟩
    rcases set_get hx j y hy with ⟨rfl, rfl⟩ | ⟨_, hy⟩
    · exact ⟨x, hx, by simp, by simp, fun _ e => rfl⟩
    · exact ⟨y, hy, by omega, by omega, fun _ e => e⟩
  | arrive k i x hj hx h1 =>
    refine ⟨hf', hn', fun ht => hq' (h.told ht), p, q, u, V, hg.step hq' rfl rfl rfl rfl rfl (by simp) (fun j y hy => ?_)⟩
    rcases set_get hx j y hy with ⟨rfl, rfl⟩ | ⟨_, hy⟩
    · exact ⟨x, hx, by simp, by simp; omega, fun e => by simp at e; omega⟩
    · exact ⟨y, hy, by omega, by omega, fun _ e => e⟩
  | ask x h0 hx ha h1 h2 h3 hn =>
    refine ⟨hf', hn', fun ht => hq' (h.told ht), (fun i => if i = s.wn.toNat then x.sent else p i), (fun i => if i = s.wn.toNat then x.recv else q i), u, V, ?_⟩
    have e1 : (s.wn + 1).toNat = s.wn.toNat + 1 := by omega
    refine ⟨?_, ?_, fun i y hi hy => ?_, ?_⟩
    · simp only [e1, sumN, if_true]; rw [sumN_congr (g := p) _ (fun i hi => if_neg (by omega)), ← hg.ws]
    · simp only [e1, sumN, if_true]; rw [sumN_congr (g := q) _ (fun i hi => if_neg (by omega)), ← hg.wr]
    · simp only [e1] at hi
      by_cases e : i = s.wn.toNat
      · subst e
        rw [hx] at hy; cases hy
        exact ⟨by simp, fun _ => ha⟩
      · simp only [e, if_false]; exact hg.ask i y (by omega) hy
    · rcases hg.last with hL | ⟨c1, c2, c3, c4, c5⟩
      · left; exact hL
      · right
        refine ⟨c1, c2, c3, fun i hi => ?_, c5⟩
        simp only [e1] at hi
        by_cases e : i = s.wn.toNat
        · subst e; simp only [if_true]; exact c3 _ x hx
        · simp only [e, if_false]; exact c4 i (by omega)
  | done x h0 hx ha h1 h2 h3 hn =>
    have hlen : s.ms.length = s.wn.toNat + 1 := by have := h.fine.wn; omega
    have hps : sumN (fun i => if i = s.wn.toNat then x.sent else p i) s.ms.length = s.ws + x.sent := by
      rw [hlen]; simp only [sumN, if_true]; rw [sumN_congr (g := p) _ (fun i hi => if_neg (by omega)), ← hg.ws]
    have hqs : sumN (fun i => if i = s.wn.toNat then x.recv else q i) s.ms.length = s.wr + x.recv := by
      rw [hlen]; simp only [sumN, if_true]; rw [sumN_congr (g := q) _ (fun i hi => if_neg (by omega)), ← hg.wr]
    have hask : ∀ (i : Nat) (y : Mem), s.ms[i]? = some y → (if i = s.wn.toNat then x.recv else q i) ≤ y.recv ∧ ((if i = s.wn.toNat then x.recv else q i) = y.recv → y.act = false) := fun i y hy => by
      by_cases e : i = s.wn.toNat
      · subst e; rw [hx] at hy; cases hy; exact ⟨by simp, fun _ => ha⟩
      · simp only [e, if_false]; exact hg.ask i y (by have := (List.getElem?_eq_some_iff.1 hy).1; omega) hy
    have hget : ∀ i, i < s.ms.length → s.ms[i]? = some (s.ms.getD i .z) := fun i hi => by
      rw [List.getD_eq_getElem?_getD, List.getElem?_eq_getElem hi]; rfl
    have hqv := sumN_le (f := fun i => if i = s.wn.toNat then x.recv else q i) (g := fun i => (s.ms.getD i .z).recv) s.ms.length (fun i hi => (hask i _ (hget i hi)).1)
    have hnet := netM_sum s.ms
    rw [h.net] at hnet
    have hmem := h.fine.mem x (List.mem_of_getElem? hx)
    have hws := h.fine.ws
    refine ⟨hf', hn', fun ht => ?_, p, q, (fun i => (s.ms.getD i .z).sent), sumN (fun i => (s.ms.getD i .z).recv) s.ms.length, ?_⟩
    · simp only [Bool.or_eq_true, Bool.and_eq_true, decide_eq_true_eq] at ht
      rcases ht with ⟨⟨t1, t2⟩, t3⟩ | ht
      · rcases hg.last with hL | ⟨c1, c2, c3, c4, c5⟩
        · omega
        · have hup := sumN_le (f := u) (g := fun i => if i = s.wn.toNat then x.sent else p i) s.ms.length (fun i hi => by
            by_cases e : i = s.wn.toNat
            · subst e; simp only [if_true]; exact c3 _ x hx
            · simp only [e, if_false]; exact c4 i (by omega))
          exact hq' (c5 (by omega) (by omega))
      · exact hq' (h.told ht)
    · refine ⟨rfl, rfl, fun i y hi => by simp at hi, .inr ⟨?_, ?_, fun i y hy => ?_, fun i hi => by simp at hi, fun e1 e2 => ?_⟩⟩
      · simp only; omega
      · simp only; omega
      · simp only [List.getD_eq_getElem?_getD, hy, Option.getD_some]; omega
      · simp only at e1 e2
        have hall := sumN_eq (f := fun i => if i = s.wn.toNat then x.recv else q i) (g := fun i => (s.ms.getD i .z).recv) s.ms.length (fun i hi => (hask i _ (hget i hi)).1) (by omega)
        rw [quietB_iff]
        refine ⟨show s.fl = [] from List.length_eq_zero_iff.1 (by omega), fun i y hy => ?_⟩
        replace hy : s.ms[i]? = some y := hy
        have hi := (List.getElem?_eq_some_iff.1 hy).1
        have hy' : s.ms.getD i .z = y := by simp only [List.getD_eq_getElem?_getD]; rw [show s.ms[i]? = some y from hy]; rfl
        exact (hask i y hy).2 ((hall i hi).trans (by rw [← hy']))

theorem netM_rep (n : Nat) : netM (List.replicate n .z) = 0 := by
  induction n with
  | zero => rfl
  | succ n ih => rw [List.replicate_succ]; simp only [netM, ih]; omega
theorem newS_reach (n : Nat) (h1 : 1 ≤ n) (h2 : n ≤ 10) : Reach (newS n) := by
  have hg0 : (List.replicate n Mem.z)[0]? = some .z := by rw [List.getElem?_replicate]; simp; omega
  refine ⟨⟨by simpa [newS] using h1, by simpa [newS] using h2, by simp [newS], ?_, by simp [newS], ⟨by simp [newS], by simp [newS]; omega⟩, by simp [newS], .inr ⟨rfl, rfl⟩, .inl ⟨rfl, rfl⟩, by simp [newS]⟩, ?_, fun h => by simp [newS] at h, fun _ => 0, fun _ => 0, fun _ => 0, 0, rfl, rfl, fun i x hi => by simp [newS] at hi, .inl rfl⟩
  · exact mem_set_all (fun x hx => by rw [(List.mem_replicate.1 hx).2]; decide) (by decide)
  · show netM ((List.replicate n Mem.z).set 0 ⟨true, 0, 0⟩) = _
    rw [netM_set _ _ _ _ hg0, netM_rep]; rfl

theorem step_went {s : St} {m : Mov} (h : (stepF s m).2 = 0) (hf : Fine s) (hk : ∀ k, moveF s m = .error k → k ≠ 0) : Went s (stepF s m).1 := by
  unfold stepF at h ⊢
  rw [if_pos ((check_iff s).2 hf)] at h ⊢
  split at h
  · rename_i hh
    rw [if_pos hh]
    cases hm : moveF s m with
    | ok s' => simp only; exact went_of hm
    | error k => rw [hm] at h; simp only at h; exact absurd h (hk k hm)
  · simp at h
theorem moveF_error {s : St} {m : Mov} {k : Int} (h : moveF s m = .error k) : k ≠ 0 := by
  unfold moveF sendF idleF arriveF askF at h
  repeat' split at h
  all_goals first | (cases h; decide) | (simp at h)

/-- a step, as Play makes it -/
def goF (s : St) (m : Mov) : St := if (stepF s m).2 = 0 then (stepF s m).1 else s
theorem Reach.go {s : St} (h : Reach s) (m : Mov) : Reach (goF s m) := by
  unfold goF
  split
  · exact h.went (step_went (by assumption) h.fine (fun k hk => moveF_error hk))
  · exact h
def runF (s : St) (l : List Mov) : St := l.foldl goF s
theorem Reach.run {s : St} (h : Reach s) (l : List Mov) : Reach (runF s l) := by
  induction l generalizing s with
  | nil => exact h
  | cons m l ih => exact ih (h.go m)
end Go.Proofs.Ythpcipfloofbcaa
