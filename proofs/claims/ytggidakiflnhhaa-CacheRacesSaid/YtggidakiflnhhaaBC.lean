import Derived.Test.YtggidakiflnhhaaBB
import Derived.Deep.RegionHeld
namespace Go.Proofs.Ytggidakiflnhhaa
open Go.RowKit
set_option maxHeartbeats 16000000
set_option maxRecDepth 100000
set_option linter.unusedSimpArgs false
set_option linter.unusedVariables false

section
variable {P : Program} {ops : Array Oper} {Q : Exit → Act → World → Prop} {md : Region.Mode} {p : Nat} {S1 S2 : World → Prop}
/-- what holds while an order runs: S2 always, S1 till number p comes up -/
def Ph (p : Nat) (S1 S2 : World → Prop) (l : Array Bool) (w : World) : Prop := (l.getD p true = false → S1 w) ∧ S2 w
theorem Ph.pre {l : Array Bool} {w : World} (h1 : S1 w) (h2 : S2 w) : Ph p S1 S2 l w := ⟨fun _ => h1, h2⟩
theorem Ph.post {l : Array Bool} {w : World} (hl : l.getD p true = true) (h2 : S2 w) : Ph p S1 S2 l w := ⟨fun h => (by rw [hl] at h; cases h), h2⟩
def wpPh (P : Program) (md : Region.Mode) (ops : Array Oper) (Q : Exit → Act → World → Prop) (p : Nat) (S1 S2 : World → Prop) : Nat → Array Bool → Act → World → Prop
  | 0, l, a, w => Region.ready md ops l = [] ∧ Q .normal a w
  | k + 1, l, a, w => (Region.ready md ops l = [] → Q .normal a w) ∧ ∀ i ∈ Region.ready md ops l, wpOp P ops Q i (fun a' w' => Ph p S1 S2 (l.setIfInBounds i true) w' ∧ wpPh P md ops Q p S1 S2 k (l.setIfInBounds i true) a' w') a w
theorem wpAny_of_ph : ∀ (k : Nat) (l : Array Bool) (a : Act) (w : World), wpPh P md ops Q p S1 S2 k l a w → wpAny P md ops Q k l a w
  | 0, _, _, _, h => h
  | k + 1, _, _, _, h => ⟨h.1, fun i hi => wpOp_mono (fun a' w' h' => wpAny_of_ph k _ a' w' h'.2) (h.2 i hi)⟩
/-- number p waits for number i -/
def waitsFor (md : Region.Mode) (ops : Array Oper) (p i : Nat) : Bool := match ops[p]? with | some o => o.after.any (fun e => Region.binds md e && (e.on == i)) | none => false
theorem ready_waits {i : Nat} {l : Array Bool} {j : Nat} (hj : j ∈ Region.ready md ops l) (hi : i ∈ Region.ready md ops l) (hw : waitsFor md ops p i = true) : j ≠ p := by
  rintro rfl
  obtain ⟨_, oj, hoj, hall⟩ := mem_ready.1 hj
  unfold waitsFor at hw
  rw [hoj] at hw
  simp only at hw
  obtain ⟨e, he, hb⟩ := Array.any_eq_true'.1 hw
  rw [Bool.and_eq_true] at hb
  have h1 := hall e he hb.1
  have h0 := (mem_ready.1 hi).1
  have hei : e.on = i := by simpa using hb.2
  rw [hei] at h1
  rcases Nat.lt_or_ge i l.size with h' | h'
  · simp [h'] at h0 h1; rw [h0] at h1; cases h1
  · simp [Array.getElem?_eq_none h'] at h1
/-- an operation that can come up is taken ahead; where it reads what S1 tells, number p must wait for it -/
theorem wpPh_first {i : Nat} {oi : Oper} {v : Value} {T : World → Prop} (hi : ops[i]? = some oi) (hsel : ∀ (j : Nat) (o : Oper) cs b, ops[j]? = some o → o.op ≠ .select cs b)
    (hQ : ∀ c a w, Q (.panic c) (a.put oi.dst v) w → Q (.panic c) a w) (hip : i ≠ p)
    (hT : (∀ w, S2 w → T w) ∨ (waitsFor md ops p i = true ∧ ∀ w, S1 w → S2 w → T w)) :
    ∀ (k : Nat) (l : Array Bool) (a : Act) (w : World),
      (∀ j oj, ops[j]? = some oj → j ≠ i → l.getD j true = false → (∀ e ∈ oj.after, Region.binds md e = true → e.on ≠ i) → oi.apart ops oj = true) →
      (l.getD p true = false ∨ ∀ w, S2 w → T w) → i ∈ Region.ready md ops l → YieldsIf P ops T oi v a → Ph p S1 S2 l w →
      wpPh P md ops Q p S1 S2 k (l.setIfInBounds i true) (a.put oi.dst v) w → wpPh P md ops Q p S1 S2 (k + 1) l a w := by
  have key : ∀ l w, (l.getD p true = false ∨ ∀ w, S2 w → T w) → Ph p S1 S2 l w → T w := fun l w hl hp => by
    rcases hT with h | ⟨_, h⟩
    · exact h w hp.2
    · rcases hl with hl | hl
      · exact h w (hp.1 hl) hp.2
      · exact hl w hp.2
  have same : ∀ (l : Array Bool) w, Ph p S1 S2 (l.setIfInBounds i true) w ↔ Ph p S1 S2 l w := fun l w => by
    unfold Ph; rw [getD_set_ne true hip]
  intro k
  induction k with
  | zero =>
    intro l a w _ hl hr hy hS H
    refine ⟨fun h => (by rw [h] at hr; cases hr), fun j hj => ?_⟩
    by_cases hji : j = i
    · subst hji; exact hy.wpOp hi (key l w hl hS) ⟨(same l w).2 hS, H⟩
    · have := ready_mono hj hji
      rw [H.1] at this
      cases this
  | succ k ih =>
    intro l a w hfree hl hr hy hS H
    refine ⟨fun h => (by rw [h] at hr; cases hr), fun j hj => ?_⟩
    by_cases hji : j = i
    · subst hji; exact hy.wpOp hi (key l w hl hS) ⟨(same l w).2 hS, H⟩
    · have h1 := H.2 j (ready_mono hj hji)
      obtain ⟨hjun, oj, hoj, hall⟩ := mem_ready.1 hj
      have hnot : ∀ e ∈ oj.after, Region.binds md e = true → e.on ≠ i := fun e he hb heq => by
        have h1 := hall e he hb
        have h0 := (mem_ready.1 hr).1
        rw [heq] at h1
        rcases Nat.lt_or_ge i l.size with h' | h'
        · simp [h'] at h0 h1; rw [h0] at h1; cases h1
        · simp [Array.getElem?_eq_none h'] at h1
      have h2 := wpOp_putIf hoj (hfree j oj hoj hji hjun hnot) (fun cs b => hsel i oi cs b hi) (fun cs b => hsel j oj cs b hoj) hQ hy h1
      have hfree' : ∀ q oq, ops[q]? = some oq → q ≠ i → (l.setIfInBounds j true).getD q true = false →
          (∀ e ∈ oq.after, Region.binds md e = true → e.on ≠ i) → oi.apart ops oq = true := fun q oq hq hqi hun hno => by
        refine hfree q oq hq hqi ?_ hno
        by_cases hjq : j = q
        · subst hjq; exact hjun
        · rw [getD_set_ne true hjq] at hun; exact hun
      have hl' : ((l.setIfInBounds j true).getD p true = false ∨ ∀ w, S2 w → T w) := by
        rcases hT with h | ⟨hw, _⟩
        · exact Or.inr h
        · rcases hl with hl | hl
          · left; rw [getD_set_ne true (ready_waits hj hr hw)]; exact hl
          · exact Or.inr hl
      refine wpOp_mono (fun a' w' h3 => ?_) h2
      have e := Array.setIfInBounds_comm (xs := l) true true hji
      rw [← e] at h3
      exact ⟨(same _ _).1 h3.2.1, ih (l.setIfInBounds j true) a' w' hfree' hl' (ready_mono hr (Ne.symm hji)) h3.1 ((same _ _).1 h3.2.1) h3.2.2⟩
/-- taken ahead: it reads what S1 and S2 tell -/
theorem wpPh_take {i : Nat} {oi : Oper} {v : Value} {k : Nat} {l : Array Bool} {a : Act} {w : World} (hi : ops[i]? = some oi)
    (hs : Region.noSelect ops = true) (hf : Region.free md ops l i = true) (hr : (Region.ready md ops l).contains i = true) (hw : (waitsFor md ops p i && !(l.getD p true) && !(i == p)) = true)
    (hQ : ∀ c a w, Q (.panic c) (a.put oi.dst v) w → Q (.panic c) a w) (hy : YieldsIf P ops (fun w => S1 w ∧ S2 w) oi v a) (hS : Ph p S1 S2 l w)
    (h : wpPh P md ops Q p S1 S2 k (l.setIfInBounds i true) (a.put oi.dst v) w) : wpPh P md ops Q p S1 S2 (k + 1) l a w := by
  simp only [Bool.and_eq_true, Bool.not_eq_true'] at hw
  exact wpPh_first hi (Region.noSelect_spec hs) hQ (by simpa using hw.2) (Or.inr ⟨hw.1.1, fun w h1 h2 => ⟨h1, h2⟩⟩) k l a w (Region.free_spec hi hf) (Or.inl hw.1.2) (by simpa using hr) hy hS h
/-- taken ahead: it reads what S2 tells -/
theorem wpPh_take2 {i : Nat} {oi : Oper} {v : Value} {k : Nat} {l : Array Bool} {a : Act} {w : World} (hi : ops[i]? = some oi)
    (hs : Region.noSelect ops = true) (hf : Region.free md ops l i = true) (hr : (Region.ready md ops l).contains i = true) (hip : (i == p) = false)
    (hQ : ∀ c a w, Q (.panic c) (a.put oi.dst v) w → Q (.panic c) a w) (hy : YieldsIf P ops S2 oi v a) (hS : Ph p S1 S2 l w)
    (h : wpPh P md ops Q p S1 S2 k (l.setIfInBounds i true) (a.put oi.dst v) w) : wpPh P md ops Q p S1 S2 (k + 1) l a w :=
  wpPh_first hi (Region.noSelect_spec hs) hQ (by simpa using hip) (Or.inl (fun w h => h)) k l a w (Region.free_spec hi hf) (Or.inr (fun w h => h)) (by simpa using hr) hy hS h
theorem wpPh_done {l : Array Bool} {a : Act} {w : World} (hr : Region.ready md ops l = []) (h : Q .normal a w) : ∀ k, wpPh P md ops Q p S1 S2 k l a w
  | 0 => ⟨hr, h⟩
  | _ + 1 => ⟨fun _ => h, by rw [hr]; simp⟩
def AllPh (P : Program) (md : Region.Mode) (ops : Array Oper) (Q : Exit → Act → World → Prop) (p : Nat) (S1 S2 : World → Prop) (k : Nat) (l : Array Bool) (a : Act) (w : World) (rs : List Nat) : Prop :=
  ∀ i ∈ rs, wpOp P ops Q i (fun a' w' => Ph p S1 S2 (l.setIfInBounds i true) w' ∧ wpPh P md ops Q p S1 S2 k (l.setIfInBounds i true) a' w') a w
theorem AllPh.nil {k : Nat} {l : Array Bool} {a : Act} {w : World} : AllPh P md ops Q p S1 S2 k l a w [] := fun _ h => by cases h
theorem AllPh.cons {k : Nat} {l : Array Bool} {a : Act} {w : World} {i : Nat} {o : Oper} {rs : List Nat} (ho : ops[i]? = some o)
    (h : ∀ K' : Act → World → Prop, Shut (∀ a w, Ph p S1 S2 (l.setIfInBounds i true) w → (Ph p S1 S2 (l.setIfInBounds i true) w → wpPh P md ops Q p S1 S2 k (l.setIfInBounds i true) a w) → K' a w) → if Region.wanted o (yielded ops a.tmps) = true then Oper.wp P o a w K' Q else K' (a.put o.dst undef) w)
    (hs : AllPh P md ops Q p S1 S2 k l a w rs) : AllPh P md ops Q p S1 S2 k l a w (i :: rs) := fun j hj => by
  rcases List.mem_cons.1 hj with rfl | hj
  · exact wpOp_step ho (fun K' hK => h K' (fun a w hS hW => hK a w ⟨hS, hW hS⟩))
  · exact hs j hj
theorem wpPh_ready {rs : List Nat} {k : Nat} {l : Array Bool} {a : Act} {w : World} (hr : Region.ready md ops l = rs) (hne : rs ≠ [])
    (h : AllPh P md ops Q p S1 S2 k l a w rs) : wpPh P md ops Q p S1 S2 (k + 1) l a w := ⟨fun h0 => absurd (hr ▸ h0) hne, hr ▸ h⟩
theorem wp_region_ph {id : Nat} {a : Act} {w : World} (p : Nat) (S1 S2 : World → Prop) (hm : P.follows .mixedOrders = true) (h1 : S1 w.drew) (h2 : S2 w.drew)
    (h : Ph p S1 S2 (Array.replicate ops.size false) w.drew → wpPh P .any ops Q p S1 S2 ops.size (Array.replicate ops.size false) a w.drew) : (Code.region id ops true).wp P Q a w :=
  wp_region_any hm (wpAny_of_ph _ _ _ _ (h (Ph.pre h1 h2)))
end

/-- the releases, the first i of them turned -/
def addI (tr : List Op) (re : List Int) (a n : Int) (i : Nat) : List Int := (addR tr re a n).take i ++ re.drop i
theorem addI_len {tr : List Op} {re : List Int} {a n : Int} {i : Nat} (h : re.length = tr.length) (hi : i ≤ tr.length) : (addI tr re a n i).length = tr.length := by
  unfold addI
  rw [List.length_append, List.length_take, addR_len _ _ _ _ h, List.length_drop]
  omega
theorem addI_at {tr : List Op} {re : List Int} {a n : Int} {i : Nat} (h : re.length = tr.length) (hi : i < tr.length) : (addI tr re a n i).getD i (-1) = re.getD i (-1) := by
  unfold addI
  have h1 := addR_len tr re a n h
  rw [List.getD_eq_getElem?_getD, List.getD_eq_getElem?_getD, List.getElem?_append_right (by rw [List.length_take]; omega), List.length_take, List.getElem?_drop]
  rw [show i + (i - min i (addR tr re a n).length) = i by omega]
theorem addI_step {tr : List Op} {re : List Int} {a n : Int} {i : Nat} (h : re.length = tr.length) (hi : i < tr.length) : addI tr re a n (i + 1) = if (tr.getD i opZ).a = a ∧ re.getD i (-1) < 0 then (addI tr re a n i).set i n else addI tr re a n i := by
  have h1 := addR_len tr re a n h
  have h2 := addR_at tr re a n h i hi
  have h3 : i < re.length := by omega
  have h4 : i < (addR tr re a n).length := by omega
  have hd : re.drop i = re[i] :: re.drop (i + 1) := List.drop_eq_getElem_cons h3
  have e1 : addI tr re a n (i + 1) = (addR tr re a n).take i ++ (addR tr re a n)[i] :: re.drop (i + 1) := by
    unfold addI
    rw [List.take_succ_eq_append_getElem h4, List.append_assoc]; rfl
  have e2 : addI tr re a n i = (addR tr re a n).take i ++ re[i] :: re.drop (i + 1) := by unfold addI; rw [hd]
  have e3 : (addR tr re a n)[i] = (addR tr re a n).getD i (-1) := by rw [List.getD_eq_getElem?_getD, List.getElem?_eq_getElem h4]; rfl
  have e4 : re[i] = re.getD i (-1) := by rw [List.getD_eq_getElem?_getD, List.getElem?_eq_getElem h3]; rfl
  rw [e1, e3, h2]
  split
  · rw [e2, List.set_append_right _ _ (by rw [List.length_take]; omega), List.length_take, show i - min i (addR tr re a n).length = 0 by omega]
    rfl
  · rw [e2, e4]
theorem addI_zero {tr : List Op} {re : List Int} {a n : Int} : addI tr re a n 0 = re := by simp [addI]
theorem addI_end {tr : List Op} {re : List Int} {a n : Int} (h : re.length = tr.length) : addI tr re a n tr.length = addR tr re a n := by
  have h1 := addR_len tr re a n h
  unfold addI
  rw [List.take_of_length_le (by omega), List.drop_eq_nil_of_le (by omega), List.append_nil]
theorem own_slice {α : Type} {enc : α → List Value} {sz : Nat} {e : TypeId} {w : World} {base : Nat} {A : Option Addr} {n c : Nat} {xs : List α} (hs : ∀ x, (enc x).length = sz) (h : Own enc sz e w base (.slice A n c) xs) :
    n = xs.length ∧ n ≤ c ∧ Rd enc sz w A xs ∧ ∀ a, A = some a → ∃ g, a = ⟨g, 0, none⟩ ∧ base ≤ g ∧ g < w.heap.size := by
  obtain ⟨A', c', he, hle, hr, hb⟩ := h.form hs
  obtain ⟨rfl, rfl, rfl⟩ := Value.slice.inj he
  refine ⟨rfl, hle, hr, fun a ha => ?_⟩
  subst ha
  rcases h.2 with ⟨h1, _⟩ | ⟨g, cap, cur, h1, _⟩
  · exact absurd (Value.slice.inj h1).1 (by simp)
  · obtain ⟨e1, _, _⟩ := Value.slice.inj h1
    obtain rfl := Option.some.inj e1
    exact ⟨g, rfl, (h.blk g rfl).1, (h.blk g rfl).2.1⟩
theorem Fw.reSet {P : Nat → Prop} {bf base g n c : Nat} {ca cb va : Value} {xs : List Op} {ys : List Int} {f : Nat → Int} {w : World} (h : Fw P bf base ca cb va (.slice (some ⟨g, 0, none⟩) n c) xs ys f w) (hn : ys.length = n) (i : Nat) (hi : i < ys.length) (y : Int) :
    Fw P bf base ca cb va (.slice (some ⟨g, 0, none⟩) n c) xs (ys.set i y) f (w.setCell ⟨g, i, none⟩ (.int .i64 y)) ∧ Ke P w (w.setCell ⟨g, i, none⟩ (.int .i64 y)) := by
  have hs := h.re.set lenI hn i hi 0 (by decide) (.int .i64 y) y rfl
  rw [Nat.mul_one, Nat.add_zero] at hs
  have hb : (Value.slice (some ⟨g, 0, none⟩) n c).ownBlock = some g := rfl
  refine ⟨⟨?_, h.tr.grown hs.2 ?_, hs.1, h.bf_, Nat.le_trans h.bw hs.2.size, h.pf, h.pa, h.pb⟩, Ke.grown hs.2 (fun k e => by obtain rfl := Option.some.inj e; exact h.pb _ rfl)⟩
  · refine (hs.2.block _ (blk_lt h.top) (fun e => ?_)).trans h.top
    exact own_ty h.re h.top (by decide) e.symm
  · have := own_ne h.tr h.re (by decide)
    exact this
theorem getD_at {α : Type} (xs : List α) (d : α) {i : Nat} (h : i < xs.length) : xs.getD i d = xs[i] := by rw [List.getD_eq_getElem?_getD, List.getElem?_eq_getElem h]; rfl
theorem foC_at (ca cb : Value) (f : Nat → Int) {n : Nat} (h : n < 8) : (foC ca cb f)[2 + n]? = some (.int .i64 (f n)) := by
  have : n = 0 ∨ n = 1 ∨ n = 2 ∨ n = 3 ∨ n = 4 ∨ n = 5 ∨ n = 6 ∨ n = 7 := by omega
  rcases this with rfl | rfl | rfl | rfl | rfl | rfl | rfl | rfl <;> rfl
theorem foC_set (ca cb : Value) (f : Nat → Int) {n : Nat} (h : n < 8) (v : Int) : (foC ca cb f).setIfInBounds (2 + n) (.int .i64 v) = foC ca cb (upd f n v) := by
  have : n = 0 ∨ n = 1 ∨ n = 2 ∨ n = 3 ∨ n = 4 ∨ n = 5 ∨ n = 6 ∨ n = 7 := by omega
  rcases this with rfl | rfl | rfl | rfl | rfl | rfl | rfl | rfl <;> rfl
theorem rd_blk {α : Type} (enc : α → List Value) (sz : Nat) (w : World) (x : α) {b : Nat} {t : TypeId} (h : w.heap[b]? = some (.cells (enc x).toArray t (0, 0))) : Rd enc sz w (some ⟨b, 0, none⟩) [x] :=
  ⟨by simp, fun k hk => ⟨_, rfl, fun j v hv => by
    have : k = 0 := by simp at hk; exact hk
    subst this
    rw [Nat.zero_mul, Nat.zero_add, add_at, cell_of_row _ _ _ _ _ _ h]
    simpa using hv⟩⟩
theorem keep_other {w w' : World} {X : Option Nat} (hg : w.grownBy w' X) {b : Nat} {o : Obj} (hb : w.heap[b]? = some o) (hx : X ≠ some b) : w'.heap[b]? = some o := (hg.block _ (blk_lt hb) (fun e => hx e.symm)).trans hb
end Go.Proofs.Ytggidakiflnhhaa
