import Derived.Test.YthpcipfloofbcaaZ
namespace Go.Proofs.Ythpcipfloofbcaa
open Go.RowKit
set_option maxHeartbeats 1000000
set_option linter.unusedSimpArgs false
set_option linter.unusedVariables false

/-! the plain law of Ends: no program in sight -/
structure Bd (k : Int) (s : St) : Prop where
  mem : ∀ x ∈ s.ms, x.sent ≤ k ∧ x.recv ≤ k
  ws : s.ws ≤ 1000 * s.wn
  wr : s.wr ≤ 1000 * s.wn
  wv : s.wv ≤ k
theorem Bd.mono {k j : Int} {s : St} (h : Bd k s) (hj : k ≤ j) : Bd j s := ⟨fun x hx => by have := h.mem x hx; omega, h.ws, h.wr, by have := h.wv; omega⟩
theorem Bd.went {k : Int} {s s' : St} (h : Bd k s) (hk : k ≤ 1000) (hw : Went s s') : Bd (k + 1) s' := by
  obtain ⟨b1, b2, b3, b4⟩ := h
  have b1' : ∀ x ∈ s.ms, x.sent ≤ k + 1 ∧ x.recv ≤ k + 1 := fun x hx => by have := b1 x hx; omega
  cases hw with
  | send i x b hx ha h1 h2 hb =>
    have hm := b1 x (List.mem_of_getElem? hx)
    exact ⟨mem_set_all b1' ⟨by simp; omega, by simp; omega⟩, b2, b3, by simp; omega⟩
  | idle i x hx ha =>
    have hm := b1 x (List.mem_of_getElem? hx)
    exact ⟨mem_set_all b1' ⟨by simp; omega, by simp; omega⟩, b2, b3, by simp; omega⟩
  | arrive j i x hj hx h1 =>
    have hm := b1 x (List.mem_of_getElem? hx)
    exact ⟨mem_set_all b1' ⟨by simp; omega, by simp; omega⟩, b2, b3, by simp; omega⟩
  | ask x h0 hx ha h1 h2 h3 hn =>
    have hm := b1 x (List.mem_of_getElem? hx)
    exact ⟨b1', by simp; omega, by simp; omega, by simp; omega⟩
  | done x h0 hx ha h1 h2 h3 hn =>
    have hm := b1 x (List.mem_of_getElem? hx)
    exact ⟨b1', by simp, by simp, by simp; omega⟩

theorem newS_bd (n : Nat) : Bd 0 (newS n) := by
  refine ⟨mem_set_all (fun x hx => by rw [(List.mem_replicate.1 hx).2]; decide) (by decide), by simp [newS], by simp [newS], by simp [newS]⟩

theorem go_bd {k : Int} {s : St} (h : Bd k s) (hk : k ≤ 1000) (hr : Reach s) (m : Mov) : Bd (k + 1) (goF s m) := by
  unfold goF
  split
  · exact h.went hk (step_went (by assumption) hr.fine (fun k hk => moveF_error hk))
  · exact h.mono (by omega)
theorem run_bd {k : Int} {s : St} (h : Bd k s) (hr : Reach s) (l : List Mov) (hk : k + l.length ≤ 1000) : Bd (k + l.length) (runF s l) := by
  induction l generalizing s k with
  | nil => simpa [runF] using h
  | cons m l ih =>
    simp only [List.length_cons] at hk
    have := ih (go_bd h (by omega) hr m) (hr.go m) (by omega)
    simp only [List.length_cons]
    rw [show (k + (l.length + 1 : Nat) : Int) = k + 1 + l.length by omega]
    exact this
theorem seqL_run (s : St) (l : List Mov) : (seqL s l).getLastD s = runF s l := by
  induction l generalizing s with
  | nil => rfl
  | cons m l ih =>
    show _ = runF (goF s m) l
    simp only [seqL, goF]
    split
    · rw [List.getLastD_cons]; exact ih _
    · exact ih _
theorem play_run {s : St} (h : Fine s) (l : List Mov) : ∃ n, playF s l = (runF s l, n, 0) := by
  unfold playF
  rw [if_pos ((check_iff s).2 h)]
  exact ⟨_, by rw [seqL_run]⟩
theorem run_len (s : St) (h : Reach s) (l : List Mov) : (runF s l).ms.length = s.ms.length := by
  induction l generalizing s with
  | nil => rfl
  | cons m l ih =>
    show (runF (goF s m) l).ms.length = _
    rw [ih _ (h.go m)]
    unfold goF
    split
    · rename_i h0
      have hw := step_went h0 h.fine (fun k hk => moveF_error hk)
      generalize (stepF s m).1 = s' at hw
      cases hw <;> simp
    · rfl

theorem at_of {s : St} {i : Nat} {x : Mem} (h : s.ms[i]? = some x) : s.at (i : Int) = some x := by
  unfold St.at; rw [if_pos (by omega), Int.toNat_natCast]; exact h
theorem idle_step {s : St} (hf : Fine s) {i : Nat} {x : Mem} (hx : s.ms[i]? = some x) (ha : x.act = true) : stepF s ⟨2, i, 0⟩ = ({ s with ms := s.ms.set i { x with act := false } }, 0) := by
  unfold stepF
  rw [if_pos ((check_iff s).2 hf), if_pos ⟨by simp, by simp⟩]
  have e : moveF s ⟨2, i, 0⟩ = idleF s ⟨2, i, 0⟩ := rfl
  rw [e]
  unfold idleF
  simp only [at_of hx, ha, if_true, St.put, Int.toNat_natCast]
theorem arrive_step {s : St} (hf : Fine s) {q : Int} {rest : List Int} (hfl : s.fl = q :: rest) (hb : ∀ x ∈ s.ms, x.recv < 1000000) : 0 ≤ q ∧ q < s.ms.length ∧ ∃ x, s.ms[q.toNat]? = some x ∧ stepF s ⟨3, 0, 0⟩ = ({ s with ms := s.ms.set q.toNat { x with recv := x.recv + 1, act := true }, fl := rest }, 0) := by
  have h1 := hf.flt q (by rw [hfl]; simp)
  have hx : s.ms[q.toNat]? = some s.ms[q.toNat] := List.getElem?_eq_getElem (by omega)
  refine ⟨h1.1, h1.2, _, hx, ?_⟩
  have hat : s.at q = some s.ms[q.toNat] := by unfold St.at; rw [if_pos h1.1]; exact hx
  unfold stepF
  rw [if_pos ((check_iff s).2 hf), if_pos ⟨by simp, by simp⟩]
  have e : moveF s ⟨3, 0, 0⟩ = arriveF s ⟨3, 0, 0⟩ := rfl
  rw [e]
  unfold arriveF
  rw [if_pos ⟨by decide, by simp [hfl]⟩]
  have e2 : s.fl.getD (Int.toNat 0) 0 = q := by rw [hfl]; rfl
  simp only [e2, hat]
  rw [if_pos (hb _ (List.getElem_mem _))]
  simp only [St.put, hfl]
  rfl

def Passive (s : St) : Prop := ∀ (i : Nat) (x : Mem), s.ms[i]? = some x → x.act = false
theorem quiet_of {s : St} (hp : Passive s) (hf : s.fl = []) : quietB s = true := (quietB_iff s).2 ⟨hf, hp⟩

structure Bs (s : St) : Prop where
  mem : ∀ x ∈ s.ms, x.sent ≤ 1000 ∧ x.recv ≤ 1000
  ws : s.ws ≤ 1000 * s.wn
  wr : s.wr ≤ 1000 * s.wn
theorem Bd.bs {k : Int} {s : St} (h : Bd k s) (hk : k ≤ 1000) : Bs s := ⟨(h.mono hk).mem, h.ws, h.wr⟩
theorem Bs.went {s s' : St} (h : Bs s) (hw : Went s s') (hm : s'.ms = s.ms) : Bs s' := by
  obtain ⟨b1, b2, b3⟩ := h
  cases hw with
  | send i x b hx ha h1 h2 hb => exact ⟨by rw [hm]; exact b1, b2, b3⟩
  | idle i x hx ha => exact ⟨by rw [hm]; exact b1, b2, b3⟩
  | arrive j i x hj hx h1 => exact ⟨by rw [hm]; exact b1, b2, b3⟩
  | ask x h0 hx ha h1 h2 h3 hn =>
    have hm := b1 x (List.mem_of_getElem? hx)
    exact ⟨b1, by simp; omega, by simp; omega⟩
  | done x h0 hx ha h1 h2 h3 hn => exact ⟨b1, by simp, by simp⟩

/-- what an ask of a passive system does -/
theorem ask_step {s : St} (hf : Fine s) (hp : Passive s) (hb : Bs s) (hv : s.wv < 1000000) : ∃ x, s.ms[s.wn.toNat]? = some x ∧ stepF s ⟨4, 0, 0⟩ = ((if s.wn + 1 < s.ms.length then { s with wn := s.wn + 1, ws := s.ws + x.sent, wr := s.wr + x.recv }
      else { s with told := (decide (s.ws + x.sent = s.wr + x.recv) && decide (s.ws + x.sent = s.ls) && decide (s.wr + x.recv = s.lr)) || s.told, ls := s.ws + x.sent, lr := s.wr + x.recv, wv := s.wv + 1, wn := 0, ws := 0, wr := 0 }), 0) := by
  have hw := hf.wn
  have hx : s.ms[s.wn.toNat]? = some s.ms[s.wn.toNat] := List.getElem?_eq_getElem (by omega)
  have hm := hb.mem _ (List.getElem_mem (l := s.ms) (n := s.wn.toNat) (by omega))
  have hws := hb.ws
  have hwr := hb.wr
  have hn := hf.n1
  have hat : s.at s.wn = some s.ms[s.wn.toNat] := by unfold St.at; rw [if_pos hw.1]; exact hx
  refine ⟨_, hx, ?_⟩
  unfold stepF
  rw [if_pos ((check_iff s).2 hf), if_pos ⟨by simp, by simp⟩]
  have e : moveF s ⟨4, 0, 0⟩ = askF s := rfl
  rw [e]
  unfold askF
  simp only [hat, hp _ _ hx, Bool.false_eq_true, if_false]
  rw [if_pos ⟨hv, by omega, by omega⟩]
  by_cases hl : s.wn + 1 < s.ms.length
  · rw [if_pos hl, if_pos hl]
  · rw [if_neg hl, if_neg hl]

/-- asking a passive system makes no error, and moves no message -/
theorem detN_passive (g : Nat) (s : St) (e : Int) (he : e ≤ 1000000) (hr : Reach s) (hp : Passive s) (hb : Bs s) : (detN g s e).2 = 0 ∧ Reach (detN g s e).1 ∧ (detN g s e).1.fl = s.fl := by
  induction g generalizing s with
  | zero => exact ⟨rfl, hr, rfl⟩
  | succ g ih =>
    unfold detN
    split
    · rename_i hgo
      simp only [Bool.and_eq_true, decide_eq_true_eq] at hgo
      obtain ⟨x, hx, hst⟩ := ask_step hr.fine hp hb (by omega)
      have h0 : (stepF s ⟨4, 0, 0⟩).2 = 0 := by rw [hst]
      rw [if_pos h0]
      have hw := step_went h0 hr.fine (fun k hk => moveF_error hk)
      obtain ⟨_, a2, a3, a4⟩ := asked hr.fine h0
      have hb' := hb.went hw a2
      have hr' := hr.went hw
      generalize (stepF s ⟨4, 0, 0⟩).1 = s' at *
      obtain ⟨i1, i2, i3⟩ := ih s' hr' (by unfold Passive; rw [a2]; exact hp) hb'
      exact ⟨i1, i2, i3.trans a3⟩
    · exact ⟨rfl, hr, rfl⟩

/-- while a message is on its way no end is told -/
theorem detF_before {s : St} (hr : Reach s) (hp : Passive s) (hb : Bs s) (hv : s.wv ≤ 1000) (hf : s.fl ≠ []) : (detF s 3).2 = 0 ∧ (detF s 3).1.told = false := by
  unfold detF
  rw [if_pos ((check_iff s).2 hr.fine), if_pos (by decide)]
  obtain ⟨h1, h2, h3⟩ := detN_passive 1001 s (s.wv + 3) (by omega) hr hp hb
  refine ⟨h1, ?_⟩
  cases ht : (detN 1001 s (s.wv + 3)).1.told with
  | false => rfl
  | true =>
    have := ((quietB_iff _).1 (h2.told ht)).1
    exact absurd (h3.symm.trans this) hf

def fS (s : St) (i : Nat) : Int := (s.ms.getD i .z).sent
def fR (s : St) (i : Nat) : Int := (s.ms.getD i .z).recv
/-- what holds of a quiet system that is asked, by the waves that have ended -/
def Ph (s : St) (w0 : Int) : Prop := s.told = true ∨ s.wv = w0 ∨ ((s.ws = sumN (fS s) s.wn.toNat ∧ s.wr = sumN (fR s) s.wn.toNat) ∧ (s.wv = w0 + 1 ∨ (s.wv = w0 + 2 ∧ s.ls = sumN (fS s) s.ms.length ∧ s.lr = sumN (fR s) s.ms.length)))

theorem detN_tells (g : Nat) (s : St) (w0 : Int) (h0 : 0 ≤ w0) (he : w0 ≤ 1000) (hr : Reach s) (hq : quietB s = true) (hb : Bs s) (hph : Ph s w0) (hg : (w0 + 3 - s.wv) * s.ms.length - s.wn ≤ g) (hwv : s.wv ≤ w0 + 3) : (detN g s (w0 + 3)).2 = 0 ∧ (detN g s (w0 + 3)).1.told = true := by
  have hp : Passive s := ((quietB_iff s).1 hq).2
  have hfl := ((quietB_iff s).1 hq).1
  have hlt : s.told = false → s.wv < w0 + 3 := fun ht => by
    rcases hph with h | h | ⟨_, h | ⟨h, _⟩⟩
    · rw [ht] at h; simp at h
    all_goals omega
  have hwn := hr.fine.wn
  have hpos : ∀ D : Int, 0 < D → (s.ms.length : Int) ≤ D * s.ms.length := fun D hD => by
    have := Int.mul_le_mul_of_nonneg_right (show (1 : Int) ≤ D by omega) (show (0 : Int) ≤ (s.ms.length : Int) by omega)
    omega
  have hmul : ∀ D : Int, (D - 1) * s.ms.length = D * s.ms.length - s.ms.length := fun D => by rw [Int.sub_mul, Int.one_mul]
  induction g generalizing s with
  | zero =>
    cases ht : s.told with
    | true => exact ⟨rfl, ht⟩
    | false =>
      have := hpos (w0 + 3 - s.wv) (by have := hlt ht; omega)
      omega
  | succ g ih =>
    unfold detN
    split
    · rename_i hgo
      simp only [Bool.and_eq_true, decide_eq_true_eq, Bool.not_eq_true'] at hgo
      obtain ⟨x, hx, hst⟩ := ask_step hr.fine hp hb (by omega)
      have hc : (stepF s ⟨4, 0, 0⟩).2 = 0 := by rw [hst]
      rw [if_pos hc]
      have hw := step_went hc hr.fine (fun k hk => moveF_error hk)
      obtain ⟨_, a2, a3, a4⟩ := asked hr.fine hc
      have hb' := hb.went hw a2
      have hr' := hr.went hw
      have hq' := hw.quiet hq
      have hxS : fS s s.wn.toNat = x.sent := by unfold fS; rw [List.getD_eq_getElem?_getD, hx]; rfl
      have hxR : fR s s.wn.toNat = x.recv := by unfold fR; rw [List.getD_eq_getElem?_getD, hx]; rfl
      have hnet : netM s.ms = sumN (fS s) s.ms.length - sumN (fR s) s.ms.length := netM_sum s.ms
      rw [hr.net, hfl] at hnet
      have hnet' : sumN (fS s) s.ms.length = sumN (fR s) s.ms.length := by simp only [List.length_nil] at hnet; omega
      have hph' : Ph (stepF s ⟨4, 0, 0⟩).1 w0 := by
        rw [hst]
        simp only
        by_cases hl : s.wn + 1 < s.ms.length
        · rw [if_pos hl]
          rcases hph with h | h | ⟨⟨h1, h2⟩, h3⟩
          · exact .inl h
          · exact .inr (.inl h)
          · refine .inr (.inr ⟨⟨?_, ?_⟩, h3⟩)
            · show s.ws + x.sent = sumN (fS s) (s.wn + 1).toNat
              rw [show (s.wn + 1).toNat = s.wn.toNat + 1 by omega, sumN, hxS, h1]
            · show s.wr + x.recv = sumN (fR s) (s.wn + 1).toNat
              rw [show (s.wn + 1).toNat = s.wn.toNat + 1 by omega, sumN, hxR, h2]
        · rw [if_neg hl]
          have hlen : s.ms.length = s.wn.toNat + 1 := by omega
          rcases hph with h | h | ⟨⟨h1, h2⟩, h3⟩
          · rw [hgo.1] at h; simp at h
          · exact .inr (.inr ⟨⟨rfl, rfl⟩, .inl (by show s.wv + 1 = w0 + 1; omega)⟩)
          · have e1 : s.ws + x.sent = sumN (fS s) s.ms.length := by rw [hlen, sumN, hxS, h1]
            have e2 : s.wr + x.recv = sumN (fR s) s.ms.length := by rw [hlen, sumN, hxR, h2]
            rcases h3 with h3 | ⟨h3, h4, h5⟩
            · exact .inr (.inr ⟨⟨rfl, rfl⟩, .inr ⟨by show s.wv + 1 = w0 + 2; omega, e1, e2⟩⟩)
            · left
              show (decide (s.ws + x.sent = s.wr + x.recv) && decide (s.ws + x.sent = s.ls) && decide (s.wr + x.recv = s.lr) || s.told) = true
              rw [decide_eq_true (by omega : s.ws + x.sent = s.wr + x.recv), decide_eq_true (by omega : s.ws + x.sent = s.ls), decide_eq_true (by omega : s.wr + x.recv = s.lr)]
              rfl
      have hmm := hmul (w0 + 3 - s.wv)
      have hps := hpos
      generalize (stepF s ⟨4, 0, 0⟩).1 = s' at *
      refine ih s' hr' hq' hb' hph' ?_ ?_ ((quietB_iff s').1 hq').2 ((quietB_iff s').1 hq').1 (fun ht => ?_) hr'.fine.wn (by rw [a2]; exact hps) (by rw [a2]; exact hmul)
      · rw [a2]
        rcases a4 with ⟨b1, b2⟩ | ⟨b1, b2, b3⟩
        · rw [b1, b2]; omega
        · rw [b1, b2, show w0 + 3 - (s.wv + 1) = w0 + 3 - s.wv - 1 by omega]; omega
      · rcases a4 with ⟨b1, b2⟩ | ⟨b1, b2, b3⟩ <;> omega
      · rcases hph' with h | h | ⟨_, h | ⟨h, _⟩⟩
        · rw [ht] at h; simp at h
        all_goals omega
    · rename_i hgo
      cases ht : s.told with
      | true => exact ⟨rfl, rfl⟩
      | false => simp [ht, hlt ht] at hgo

/-- three waves tell the end of a quiet system -/
theorem detF_tells {s : St} (hr : Reach s) (hq : quietB s = true) (hb : Bs s) (hv : s.wv ≤ 1000) : (detF s 3).2 = 0 ∧ (detF s 3).1.told = true := by
  unfold detF
  rw [if_pos ((check_iff s).2 hr.fine), if_pos (by decide)]
  have hn := hr.fine.n1
  have hw := hr.fine.wn
  have hwv := hr.fine.wv
  exact detN_tells 1001 s s.wv hwv.1 hv hr hq hb (.inr (.inl rfl)) (by rw [show s.wv + 3 - s.wv = 3 by omega]; omega) (by omega)
end Go.Proofs.Ythpcipfloofbcaa
