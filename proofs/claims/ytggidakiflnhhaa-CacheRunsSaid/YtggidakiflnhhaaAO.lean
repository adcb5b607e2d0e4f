import Derived.Test.YtggidakiflnhhaaAN
namespace Go.Proofs.Ytggidakiflnhhaa
open Go.RowKit
set_option maxHeartbeats 1000000
set_option maxRecDepth 100000
set_option linter.unusedSimpArgs false
set_option linter.unusedVariables false

/-! ### what the reference's get and put do, plainly -/
/-- the line is there, or put in -/
def preA (c : Cf) (A : AS) (k : Nat) (es : List En) (x : Nat) : AS :=
  match fiF es x with
  | some j => { A with cs := A.cs.set k (useL es j (es.getD j (newE 0))) }
  | none => entA c A k es x
/-- its row ahead of its last entry -/
def preL (c : Cf) (es : List En) (x : Nat) : List En :=
  match fiF es x with
  | some j => es.eraseIdx j
  | none => evL c es
def preE (es : List En) (x : Nat) : En :=
  match fiF es x with
  | some j => es.getD j (newE 0)
  | none => newE x
theorem preE_l (es : List En) (x : Nat) : (preE es x).l = x := by
  unfold preE
  cases h : fiF es x with
  | none => rfl
  | some j =>
    obtain ⟨hj, he⟩ := fiF_some h
    simp only [getD_row hj, he]
theorem preA_row {c : Cf} {A : AS} {k : Nat} {es : List En} (hk : A.cs[k]? = some es) (x : Nat) : (preA c A k es x).cs[k]? = some (preL c es x ++ [preE es x]) := by
  have hkl := (List.getElem?_eq_some_iff.1 hk).1
  unfold preA preL preE
  cases h : fiF es x with
  | none => exact List.getElem?_set_self hkl
  | some j => exact List.getElem?_set_self hkl
theorem preA_m (c : Cf) (A : AS) (k : Nat) (es : List En) (x : Nat) : (preA c A k es x).m.length = A.m.length := by
  unfold preA
  cases h : fiF es x with
  | none => exact evA_m c A k es
  | some j => rfl
theorem preA_f (c : Cf) (A : AS) (k : Nat) (es : List En) (x : Nat) : (preA c A k es x).f = A.f := by
  unfold preA
  cases h : fiF es x with
  | none => exact evA_f c A k es
  | some j => rfl
theorem preL_len {c : Cf} {A : AS} (hA : Ok c A) {k : Nat} {es : List En} (hk : A.cs[k]? = some es) (x : Nat) : ((preL c es x).length : Int) + 1 ≤ c.N := by
  have h1 := hA.len k es hk
  have h2 := hA.cf.2.2.2.2.2.1
  unfold preL
  cases h : fiF es x with
  | none => exact evL_ok h2 h1
  | some j =>
    obtain ⟨hj, _⟩ := fiF_some h
    simp only [List.length_eraseIdx_of_lt hj]
    omega
theorem ftA_pre {c : Cf} {A : AS} {k : Nat} {es : List En} (hk : A.cs[k]? = some es) (x : Nat) : ftA (preA c A k es x) k (preL c es x) (preE es x) = fillA c A k x := by
  have hr := rowA_some hk
  have h2 := evA_f c A k es
  unfold fillA
  rw [hr]
  unfold preA preL preE
  cases h : fiF es x with
  | none =>
    unfold ftA entA entF
    simp only [List.set_set, h2]
  | some j =>
    unfold ftA
    simp only [List.set_set]
theorem ftA_ent (c : Cf) (A : AS) (k : Nat) (es : List En) (x : Nat) : ftA (entA c A k es x) k (evL c es) (newE x) = entF c A k es x := by
  have h2 := evA_f c A k es
  unfold ftA entA entF
  simp only [List.set_set, h2]
theorem Ok.entA {c : Cf} {A : AS} (h : Ok c A) {k x : Nat} {es : List En} (hk : A.cs[k]? = some es) (hx : fiF es x = none) (hl : x * 4 + 4 ≤ A.m.length) : Ok c (entA c A k es x) := by
  have hr := rowA_some hk
  refine h.put (x := x) (e := newE x) (evA_m c A k es) (by rw [hr]; rfl) rfl (by rw [hr]; exact hx) hl
theorem ahS_vs (c : Cf) (k x : Nat) (A : AS) (j : Nat) : (ahS c k x A j).vs = A.vs := by
  unfold ahS; split
  · exact evA_vs _ _ _ _
  · rfl
theorem aheadA_vs (c : Cf) (k x : Nat) (A : AS) : (aheadA c k x A).vs = A.vs := by
  unfold aheadA
  generalize List.range (ahN c) = is
  induction is generalizing A with
  | nil => rfl
  | cons i is ih => rw [List.foldl_cons, ih, ahS_vs]
theorem fillA_vs (c : Cf) (A : AS) (k x : Nat) : (fillA c A k x).vs = A.vs := by
  unfold fillA
  cases fiF (rowA A k) x with
  | none => exact evA_vs _ _ _ _
  | some j => rfl
theorem trackE {c : Cf} {es1 es2 : List En} {e f : En} (hs : (es2.length : Int) + 1 < c.N) : ∃ es1', evL c (es1 ++ e :: es2) ++ [f] = es1' ++ e :: (es2 ++ [f]) := by
  unfold evL
  by_cases hf : ((es1 ++ e :: es2).length : Int) = c.N
  · rw [if_pos hf]
    cases es1 with
    | nil => simp at hf; omega
    | cons g es1 => exact ⟨es1, by simp⟩
  · rw [if_neg hf]
    exact ⟨es1, by simp⟩
theorem cnt_pre {c : Cf} (A : AS) (k : Nat) (es : List En) (x : Nat) : cnt (preA c A k es x) ≤ cnt A + 1 := by
  unfold preA
  cases fiF es x with
  | none => exact cnt_evA c A k es
  | some j => exact Nat.le_succ _
theorem cnt_ftA (A : AS) (k : Nat) (es : List En) (e : En) : cnt (ftA A k es e) = cnt A + 1 := by unfold ftA cnt; simp only; omega
end Go.Proofs.Ytggidakiflnhhaa
