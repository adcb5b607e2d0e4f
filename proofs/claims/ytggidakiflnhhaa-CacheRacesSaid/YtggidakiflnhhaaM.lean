import Derived.Test.YtggidakiflnhhaaL
namespace Go.Proofs.Ytggidakiflnhhaa
open Go.RowKit
set_option maxHeartbeats 1000000
set_option maxRecDepth 100000
set_option linter.unusedSimpArgs false
set_option linter.unusedVariables false

/-- the locale of a line -/
def hmF (c : Cf) (x : Nat) : Int := (x : Int) * c.L / (c.W / 4)
def rowA (A : AS) (k : Nat) : List En := A.cs.getD k []
theorem rowA_some {A : AS} {k : Nat} {es : List En} (h : A.cs[k]? = some es) : rowA A k = es := by
  unfold rowA; rw [List.getD_eq_getElem?_getD, h]; rfl
/-- a new entry is put in and fetched -/
def entF (c : Cf) (A : AS) (k : Nat) (es : List En) (x : Nat) : AS := { evA c A k es with f := A.f + 1, cs := A.cs.set k (evL c es ++ [ftE (evA c A k es).m (newE x)]) }
/-- one line is read ahead -/
def ahS (c : Cf) (k x : Nat) (A : AS) (j : Nat) : AS := if ((x + (j + 1) : Nat) : Int) < c.W / 4 ∧ hmF c (x + (j + 1)) ≠ (k : Int) ∧ fiF (rowA A k) (x + (j + 1)) = none then entF c A k (rowA A k) (x + (j + 1)) else A
def ahN (c : Cf) : Nat := (min c.H (c.N - 1)).toNat
def aheadA (c : Cf) (k x : Nat) (A : AS) : AS := (List.range (ahN c)).foldl (ahS c k x) A
/-- the line is filled -/
def fillA (c : Cf) (A : AS) (k x : Nat) : AS :=
  match fiF (rowA A k) x with
  | some j => { A with f := A.f + 1, cs := A.cs.set k ((rowA A k).eraseIdx j ++ [ftE A.m ((rowA A k).getD j (newE 0))]) }
  | none => entF c A k (rowA A k) x
/-- the entry of a line is the last one used, and tells a word -/
def touchA (A : AS) (k x i : Nat) : AS :=
  match fiF (rowA A k) x with
  | some j => { A with cs := A.cs.set k (useL (rowA A k) j ((rowA A k).getD j (newE 0))), vs := A.vs ++ [((rowA A k).getD j (newE 0)).d i] }
  | none => A
/-- is a word at hand -/
def hitB (A : AS) (k x i : Nat) : Bool := match fiF (rowA A k) x with | some j => ((rowA A k).getD j (newE 0)).v i | none => false
def getA (c : Cf) (A : AS) (k p : Nat) : AS :=
  if hmF c (p / 4) = (k : Int) then { A with vs := A.vs ++ [A.m.getD p 0] }
  else if hitB A k (p / 4) (p % 4) = true then touchA { A with h := A.h + 1 } k (p / 4) (p % 4)
  else touchA (aheadA c k (p / 4) (fillA c A k (p / 4))) k (p / 4) (p % 4)
def wrE (e : En) (i : Nat) (v : Int) : En := { e with d := upd e.d i v, v := upd e.v i true, t := upd e.t i true }
def putA (c : Cf) (A : AS) (k p : Nat) (v : Int) : AS :=
  if hmF c (p / 4) = (k : Int) then { A with m := A.m.set p v }
  else match fiF (rowA A k) (p / 4) with
  | some j => { A with h := A.h + 1, cs := A.cs.set k ((rowA A k).eraseIdx j ++ [wrE ((rowA A k).getD j (newE 0)) (p % 4) v]) }
  | none => { evA c A k (rowA A k) with cs := A.cs.set k (evL c (rowA A k) ++ [wrE (newE (p / 4)) (p % 4) v]) }
def acE (e : En) : En := { e with v := e.t }
def acqA (A : AS) (k : Nat) : AS := { A with cs := A.cs.set k (((rowA A k).map acE).filter (fun e => anyT e.v)) }
def rlS (k : Nat) (A : AS) (i : Nat) : AS := match (rowA A k)[i]? with | some e => { wb A e with cs := A.cs.set k ((rowA A k).set i (clE e)) } | none => A
def relA (A : AS) (k : Nat) : AS := (List.range (rowA A k).length).foldl (rlS k) A
def opA (c : Cf) (A : AS) (o : Op) : AS :=
  if o.k = 1 then getA c A o.a.toNat o.p.toNat
  else if o.k = 2 then putA c A o.a.toNat o.p.toNat o.v
  else if o.k = 3 then acqA A o.a.toNat
  else relA A o.a.toNat
def initA (c : Cf) : AS := ⟨List.replicate c.W.toNat 0, List.replicate c.L.toNat [], 0, 0, 0, []⟩
def runA (c : Cf) (l : List Op) : AS := (List.range c.L.toNat).foldl relA (l.foldl (opA c) (initA c))

/-! ### what holds of each state stays -/
theorem Ok.set {c : Cf} {A B : AS} (h : Ok c A) {k : Nat} {es : List En} (hm : B.m.length = A.m.length) (hc : B.cs = A.cs.set k es) (h1 : (es.length : Int) ≤ c.N) (h2 : ∀ e ∈ es, e.l * 4 + 4 ≤ A.m.length) (h3 : (es.map En.l).Nodup) : Ok c B := by
  refine ⟨h.cf, by rw [hm]; exact h.ml, by rw [hc, List.length_set]; exact h.cl, ?_, ?_, ?_⟩
  · intro j fs hj
    rw [hc, List.getElem?_set] at hj
    split at hj
    · split at hj
      · obtain rfl := Option.some.inj hj; exact h1
      · cases hj
    · exact h.len j fs hj
  · intro j fs e hj he
    rw [hm]
    rw [hc, List.getElem?_set] at hj
    split at hj
    · split at hj
      · obtain rfl := Option.some.inj hj; exact h2 e he
      · cases hj
    · exact h.lin j fs e hj he
  · intro j fs hj
    rw [hc, List.getElem?_set] at hj
    split at hj
    · split at hj
      · obtain rfl := Option.some.inj hj; exact h3
      · cases hj
    · exact h.uni j fs hj
theorem Ok.same {c : Cf} {A B : AS} (h : Ok c A) (hm : B.m.length = A.m.length) (hc : B.cs = A.cs) : Ok c B :=
  ⟨h.cf, by rw [hm]; exact h.ml, by rw [hc]; exact h.cl, by rw [hc]; exact h.len, by rw [hc, hm]; exact h.lin, by rw [hc]; exact h.uni⟩
theorem Ok.rlen {c : Cf} {A : AS} (h : Ok c A) (k : Nat) : ((rowA A k).length : Int) ≤ c.N := by
  unfold rowA
  rw [List.getD_eq_getElem?_getD]
  cases hk : A.cs[k]? with
  | none => have := h.cf.2.2.2.2.2.1; simp; omega
  | some es => exact h.len k es hk
theorem Ok.rlin {c : Cf} {A : AS} (h : Ok c A) (k : Nat) : ∀ e ∈ rowA A k, e.l * 4 + 4 ≤ A.m.length := by
  unfold rowA
  rw [List.getD_eq_getElem?_getD]
  cases hk : A.cs[k]? with
  | none => intro e he; simp at he
  | some es => exact fun e he => h.lin k es e hk he
theorem Ok.runi {c : Cf} {A : AS} (h : Ok c A) (k : Nat) : ((rowA A k).map En.l).Nodup := by
  unfold rowA
  rw [List.getD_eq_getElem?_getD]
  cases hk : A.cs[k]? with
  | none => simp
  | some es => exact h.uni k es hk
theorem fiF_some {es : List En} {x j : Nat} (h : fiF es x = some j) : ∃ hj : j < es.length, es[j].l = x := by
  unfold fiF at h
  rw [List.findIdx?_eq_some_iff_getElem] at h
  obtain ⟨h1, h2, _⟩ := h
  exact ⟨h1, by simpa using h2⟩
theorem fiF_none {es : List En} {x : Nat} (h : fiF es x = none) : x ∉ es.map En.l := by
  unfold fiF at h
  rw [List.findIdx?_eq_none_iff] at h
  intro hx
  obtain ⟨e, he, rfl⟩ := List.mem_map.1 hx
  simpa using h e he
theorem fiF_of {es : List En} {x j : Nat} (hu : (es.map En.l).Nodup) (hj : j < es.length) (h : es[j].l = x) : fiF es x = some j := by
  unfold fiF
  rw [List.findIdx?_eq_some_iff_getElem]
  refine ⟨hj, by simpa using h, fun i hi => ?_⟩
  simp only [decide_eq_true_eq]
  intro e
  have : (es.map En.l)[i]'(by simp; omega) = (es.map En.l)[j]'(by simpa using hj) := by simp [e, h]
  have := (List.getElem_inj hu).1 this
  omega
theorem getD_row {es : List En} {j : Nat} (hj : j < es.length) : es.getD j (newE 0) = es[j] := by
  rw [List.getD_eq_getElem?_getD, List.getElem?_eq_getElem hj]; rfl
theorem evA_m (c : Cf) (A : AS) (k : Nat) (es : List En) : (evA c A k es).m.length = A.m.length := by
  unfold evA; split
  · exact wb_len _ _
  · rfl
theorem evL_ok {c : Cf} {es : List En} (hN : 1 ≤ c.N) (h : (es.length : Int) ≤ c.N) : ((evL c es).length : Int) + 1 ≤ c.N := by
  unfold evL; split
  · rename_i e; simp; omega
  · rename_i e; omega
theorem evL_sub {α : Type} (c : Cf) (l : List α) : (evL c l).Sublist l := by
  unfold evL; split
  · exact List.tail_sublist l
  · exact List.Sublist.refl l
theorem Ok.put {c : Cf} {A B : AS} (h : Ok c A) {k x : Nat} {e : En} (hm : B.m.length = A.m.length) (hc : B.cs = A.cs.set k (evL c (rowA A k) ++ [e])) (he : e.l = x) (hx : fiF (rowA A k) x = none) (hl : x * 4 + 4 ≤ A.m.length) : Ok c B := by
  refine h.set hm hc ?_ ?_ ?_
  · have := evL_ok h.cf.2.2.2.2.2.1 (h.rlen k)
    simp only [List.length_append, List.length_cons, List.length_nil]
    omega
  · intro f hf
    rcases List.mem_append.1 hf with hf | hf
    · exact h.rlin k f ((evL_sub c _).subset hf)
    · simp at hf; subst hf; rw [he]; exact hl
  · rw [List.map_append, List.nodup_append]
    refine ⟨(h.runi k).sublist ((evL_sub c _).map _), by simp, fun a ha b hb => ?_⟩
    simp at hb
    subst hb
    rw [he]
    intro e'
    subst e'
    exact fiF_none hx (((evL_sub c _).map _).subset ha)
theorem erase_perm {α : Type} (l : List α) (j : Nat) (hj : j < l.length) : List.Perm (l.eraseIdx j ++ [l[j]]) l := by
  induction l generalizing j with
  | nil => simp at hj
  | cons x l ih =>
    cases j with
    | zero => simp
    | succ j => simpa using List.Perm.cons x (ih j (by simpa using hj))
theorem nodup_move {es : List En} (h : (es.map En.l).Nodup) {j : Nat} (hj : j < es.length) {e : En} (he : e.l = es[j].l) : ((es.eraseIdx j ++ [e]).map En.l).Nodup := by
  have h1 : ((es.eraseIdx j ++ [e]).map En.l) = (es.map En.l).eraseIdx j ++ [(es.map En.l)[j]'(by simpa using hj)] := by
    simp [List.eraseIdx_eq_take_drop_succ, List.map_take, List.map_drop, he]
  rw [h1]
  have hp := erase_perm (es.map En.l) j (by simpa using hj)
  exact hp.nodup_iff.2 h
theorem Ok.move {c : Cf} {A B : AS} (h : Ok c A) {k j : Nat} {e : En} (hm : B.m.length = A.m.length) (hj : j < (rowA A k).length) (hc : B.cs = A.cs.set k ((rowA A k).eraseIdx j ++ [e])) (he : e.l = (rowA A k)[j].l) : Ok c B := by
  refine h.set hm hc ?_ ?_ (nodup_move (h.runi k) hj he)
  · have := h.rlen k
    rw [List.length_append, List.length_eraseIdx_of_lt hj]
    simp only [List.length_cons, List.length_nil]
    omega
  · intro f hf
    rcases List.mem_append.1 hf with hf | hf
    · exact h.rlin k f (List.mem_of_mem_eraseIdx hf)
    · simp at hf; subst hf; rw [he]; exact h.rlin k _ (List.getElem_mem hj)
theorem Ok.entF {c : Cf} {A : AS} (h : Ok c A) {k x : Nat} (hx : fiF (rowA A k) x = none) (hl : x * 4 + 4 ≤ A.m.length) : Ok c (entF c A k (rowA A k) x) :=
  h.put (evA_m c A k _) rfl (ftE_l _ _) hx hl
theorem Ok.ahS {c : Cf} {A : AS} (h : Ok c A) (k x j : Nat) : Ok c (ahS c k x A j) := by
  unfold Ytggidakiflnhhaa.ahS
  split
  · rename_i hc
    refine h.entF hc.2.2 ?_
    have := h.ml
    have := hc.1
    omega
  · exact h
theorem cnt_evA (c : Cf) (A : AS) (k : Nat) (es : List En) : cnt (evA c A k es) ≤ cnt A + 1 := by
  unfold evA; split
  · have := wb_cnt A (es.headD (newE 0)); unfold cnt at *; exact this
  · omega
theorem evA_f (c : Cf) (A : AS) (k : Nat) (es : List En) : (evA c A k es).f = A.f := by
  unfold evA wb; split <;> (try split) <;> rfl
theorem cnt_entF (c : Cf) (A : AS) (k : Nat) (es : List En) (x : Nat) : cnt (entF c A k es x) ≤ cnt A + 2 := by
  have h1 := cnt_evA c A k es
  have h2 := evA_f c A k es
  unfold entF cnt at *
  simp only
  omega
theorem cnt_ahS (c : Cf) (k x : Nat) (A : AS) (j : Nat) : cnt (ahS c k x A j) ≤ cnt A + 2 := by
  unfold ahS; split
  · exact cnt_entF _ _ _ _ _
  · omega
end Go.Proofs.Ytggidakiflnhhaa
