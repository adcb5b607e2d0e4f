import Derived.Test.YthccnaemocdcbaaW
import Derived.Test.YthccnaemocdcbaaZ
import Derived.Test.YthccnaemocdcbaaH
import Derived.Outline
namespace Go.Proofs.Ythccnaemocdcbaa
open Go.RowKit
set_option maxHeartbeats 4000000
set_option maxRecDepth 100000
set_option linter.unusedSimpArgs false
set_option linter.unusedVariables false

/-! ### three rows of numbers, each of a block of its own -/
/-- append of some elements, told of elements and of the block -/
theorem wpList_append_told {α : Type} {P : Program} {enc : α → List Value} {sz : Nat} (hs : ∀ x, (enc x).length = sz) (h1 : ∀ x, ∀ u ∈ enc x, u.oneCell' = true)
    (w : World) {ops : Array Oper} {rest : List Oper} {o : Oper} {a : Act} {Q : Exit → Act → World → Prop} (hgd : o.guard = none) (s x : Operand) (t : TypeId)
    (ho : o.op = .call { callee := .builtin .append, args := #[s, x], argTypes := #[t, t] })
    (base : Nat) (e : TypeId) (z : Value) (bytes : Nat) (ht : P.underlying t = some (.slice e)) (hinfo : (P.info? e).map (fun i => (i.zero, i.size, i.bytes)) = some (some z, sz, bytes))
    (hzs : z.cells.size = sz) (hsz : 0 < sz) (hb0 : 0 < bytes)
    (v : Value) (xs : List α) (n : Nat) (hn : xs.length = n) (hv : a.eval s = v) (hown : Own enc sz e w base v xs)
    (ad : Addr) (m c : Nat) (ys : List α) (hx : a.eval x = .slice (some ad) m c) (hm : ys.length = m) (hm0 : 0 < m) (hr : Rd enc sz w (some ad) ys)
    (hbytes : (n + m) * bytes ≤ 140737488355328) (hbase : base ≤ w.heap.size)
    (h : ∀ g cap w', Own enc sz e w' base (.slice (some ⟨g, 0, none⟩) (n + m) cap) (xs ++ ys) → w.grownBy w' v.ownBlock → (v.ownBlock = some g ∨ g = w.heap.size) → wpList P ops Q rest (a.put o.dst (.slice (some ⟨g, 0, none⟩) (n + m) cap)) w') : wpList P ops Q (o :: rest) a w := by
  subst hm
  subst hn
  obtain ⟨i0, hi, hz0, hz1, hz2⟩ := info_parts hinfo
  have h63 : xs.length + ys.length ≤ maxLen := by
    have : xs.length + ys.length ≤ (xs.length + ys.length) * bytes := Nat.le_mul_of_pos_right _ hb0
    simp only [maxLen]
    omega
  obtain ⟨g, cap, w', hr1, ho1, hg1, hg2, hg3⟩ := run_append_lies (P := P) w t o.type base e i0 z sz bytes ht hi hz0 hz1 hz2 hzs hsz v xs.length (xs.flatMap enc) hown ad ys.length c (ys.flatMap enc) (flat_length hs ys) (hr.news hs)
    (fun u hu => by obtain ⟨y, _, hy⟩ := List.mem_flatMap.1 hu; exact h1 y u hy) hm0 h63 hbytes hbase _ rfl
  refine wpList_plain hgd fun K hK => ?_
  unfold Oper.wp execOp
  simp only [ho, resolve, invoke, builtin, Sem.run_bind, Sem.run_pure, Result.andThen_ok, List.map_toArray, List.map_cons, List.map_nil, hv, hx, hr1]
  refine hK _ _ (h g cap w' ?_ hg1 hg2)
  unfold Own
  rw [List.length_append, List.flatMap_append]
  exact ho1

def Apt (A B : Value) : Prop := ∀ k, A.ownBlock = some k → B.ownBlock ≠ some k
theorem Apt.symm {A B : Value} (h : Apt A B) : Apt B A := fun k h1 h2 => h k h2 h1
theorem Apt.none (A : Value) : Apt A (.slice Option.none 0 0) := fun k _ h => by simp [Value.ownBlock] at h
structure T3 (w0 wr : World) (A B C : Value) (xs ys zs : List Int) : Prop where
  oa : Own encI 1 3 wr w0.heap.size A xs
  ob : Own encI 1 3 wr w0.heap.size B ys
  oc : Own encI 1 3 wr w0.heap.size C zs
  ab : Apt A B
  bc : Apt B C
  ca : Apt C A
  low : Below w0.heap.size w0 wr
theorem T3.rot {w0 wr : World} {A B C : Value} {xs ys zs : List Int} (h : T3 w0 wr A B C xs ys zs) : T3 w0 wr B C A ys zs xs :=
  ⟨h.ob, h.oc, h.oa, h.bc, h.ca, h.ab, h.low⟩
theorem T3.nil (w : World) : T3 w w (.slice none 0 0) (.slice none 0 0) (.slice none 0 0) [] [] [] :=
  ⟨World.ownsRow_nil _ _ _ _, World.ownsRow_nil _ _ _ _, World.ownsRow_nil _ _ _ _, Apt.none _, Apt.none _, Apt.none _, Below.refl _ _⟩
theorem T3.rest {w0 wr w' : World} {A B C : Value} {xs ys zs : List Int} (h : T3 w0 wr A B C xs ys zs) (hb : Below wr.heap.size wr w') : T3 w0 w' A B C xs ys zs :=
  ⟨h.oa.rest hb, h.ob.rest hb, h.oc.rest hb, h.ab, h.bc, h.ca, h.low.trans (hb.mono h.low.size)⟩
theorem T3.push {w0 wr w' : World} {A B C : Value} {xs ys zs xs' : List Int} {g n cap : Nat} (h : T3 w0 wr A B C xs ys zs)
    (ho : Own encI 1 3 w' w0.heap.size (.slice (some ⟨g, 0, none⟩) n cap) xs') (hg : wr.grownBy w' A.ownBlock) (hl : A.ownBlock = some g ∨ g = wr.heap.size) : T3 w0 w' (.slice (some ⟨g, 0, none⟩) n cap) B C xs' ys zs := by
  have hb : ∀ {D : Value} {ds : List Int}, Own encI 1 3 wr w0.heap.size D ds → Apt A D → Own encI 1 3 w' w0.heap.size D ds ∧ Apt (.slice (some ⟨g, 0, none⟩) n cap) D := by
    intro D ds hd ha
    refine ⟨hd.grown hg ?_, fun k hk hk2 => ?_⟩
    · cases hD : D.ownBlock with
      | none => exact Or.inl rfl
      | some k => exact Or.inr (fun e => ha k e.symm hD)
    · obtain rfl : g = k := by simpa [Value.ownBlock] using hk
      rcases hl with hl | hl
      · exact ha g hl hk2
      · have := (hd.blk g hk2).2.1
        omega
  exact ⟨ho, (hb h.ob h.ab).1, (hb h.oc h.ca.symm).1, (hb h.ob h.ab).2, h.bc, (hb h.oc h.ca.symm).2.symm, h.low.grown hg h.low.size (fun k hk => (h.oa.blk k hk).1)⟩

/-! ### the plain law -/
def aL (v : List Int) : List Int := v.map fun x => x.tmod 1001
def cL (v u : List Int) (k : Int) (n : Nat) : List Int := (List.range n).map fun i => (v.getD i 0).tmod 1001 + k * (u.getD i 0).tmod 1001
theorem tmod_small (x : Int) : -1000 ≤ x.tmod 1001 ∧ x.tmod 1001 ≤ 1000 := by
  have h1 := Int.tmod_lt_of_pos x (show (0 : Int) < 1001 by decide)
  have h2 := Int.tmod_lt_of_pos (-x) (show (0 : Int) < 1001 by decide)
  rw [Int.neg_tmod] at h2
  omega
theorem mul_small (k y : Int) (hk : -128 ≤ k ∧ k ≤ 127) (hy : -1000 ≤ y ∧ y ≤ 1000) : -128000 ≤ k * y ∧ k * y ≤ 128000 := by
  have h : (k * y).natAbs ≤ 128 * 1000 := by
    rw [Int.natAbs_mul]
    exact Nat.mul_le_mul (by omega) (by omega)
  omega
theorem aL_len (v : List Int) : (aL v).length = v.length := by simp [aL]
theorem cL_len (v u : List Int) (k : Int) (n : Nat) : (cL v u k n).length = n := by simp [cL]
theorem aL_small (v : List Int) : ∀ x ∈ aL v, -1000 ≤ x ∧ x ≤ 1000 := by
  intro x hx
  obtain ⟨y, _, rfl⟩ := List.mem_map.1 hx
  exact tmod_small y
theorem cL_small (v u : List Int) (k : Int) (hk : -128 ≤ k ∧ k ≤ 127) (n : Nat) : ∀ x ∈ cL v u k n, -129000 ≤ x ∧ x ≤ 129000 := by
  intro x hx
  obtain ⟨i, _, rfl⟩ := List.mem_map.1 hx
  have h1 := tmod_small (v.getD i 0)
  have h2 := mul_small k _ hk (tmod_small (u.getD i 0))
  omega
theorem take_aL (v : List Int) (i : Nat) (h : i < v.length) : aL (v.take (i + 1)) = aL (v.take i) ++ [(v[i]).tmod 1001] := by
  rw [List.take_succ_eq_append_getElem h]
  unfold aL
  rw [List.map_append]
  rfl
theorem cL_succ (v u : List Int) (k : Int) (i : Nat) (h : i < v.length) (h' : i < u.length) : cL v u k (i + 1) = cL v u k i ++ [(v[i]).tmod 1001 + k * (u[i]).tmod 1001] := by
  simp [cL, List.range_succ, List.getD_eq_getElem?_getD, List.getElem?_eq_getElem h, List.getElem?_eq_getElem h']
theorem outF_lin (R n : Nat) (v u : List Int) (k : Int) (hv : v.length = n) (hu : u.length = n) (ms : List En) (hm : ∀ e ∈ ms, Fit3 R n e) (i : Nat) (hi : i < R) :
    (outF R (aL v) ms).getD i 0 + k * (outF R (aL u) ms).getD i 0 = (outF R (cL v u k n) ms).getD i 0 := by
  suffices ∀ (m : Nat) (ms : List En), ms.length = m → (∀ e ∈ ms, Fit3 R n e) → ∀ i < R, (outF R (aL v) ms).getD i 0 + k * (outF R (aL u) ms).getD i 0 = (outF R (cL v u k n) ms).getD i 0 by exact this _ ms rfl hm i hi
  intro m
  induction m with
  | zero =>
    intro ms hl _ i hi
    have : ms = [] := List.eq_nil_of_length_eq_zero hl
    subst this
    simp [outF_nil, List.getD_eq_getElem?_getD, List.getElem?_replicate, hi]
  | succ m ih =>
    intro ms hl hm i hi
    have hne : ms ≠ [] := by intro e; subst e; simp at hl
    obtain ⟨ms', e, rfl⟩ : ∃ ms' e, ms = ms' ++ [e] := ⟨ms.dropLast, ms.getLast hne, (List.dropLast_concat_getLast hne).symm⟩
    have hl' : ms'.length = m := by simpa using hl
    have hfit := hm e (by simp)
    have h0 := fun i hi => ih ms' hl' (fun e he => hm e (by simp [he])) i hi
    simp only [outF_snoc]
    have hrl : e.r.toNat < R := hfit.2.1
    have hcl : e.c.toNat < n := hfit.2.2.2.1
    have e1 : (aL v).getD e.c.toNat 0 = (v.getD e.c.toNat 0).tmod 1001 := by simp [aL, List.getD_eq_getElem?_getD, List.getElem?_eq_getElem (show e.c.toNat < v.length by omega)]
    have e2 : (aL u).getD e.c.toNat 0 = (u.getD e.c.toNat 0).tmod 1001 := by simp [aL, List.getD_eq_getElem?_getD, List.getElem?_eq_getElem (show e.c.toNat < u.length by omega)]
    have e3 : (cL v u k n).getD e.c.toNat 0 = (v.getD e.c.toNat 0).tmod 1001 + k * (u.getD e.c.toNat 0).tmod 1001 := by
      rw [getD_in _ _ (by rw [cL_len]; exact hcl)]
      simp [cL]
    unfold outS
    rw [e1, e2, e3]
    have hset : ∀ (o : List Int) (x : Int), o.length = R → (o.set e.r.toNat x).getD i 0 = if i = e.r.toNat then x else o.getD i 0 := by
      intro o x ho
      rw [List.getD_eq_getElem?_getD, List.getElem?_set]
      by_cases h : e.r.toNat = i
      · subst h; simp [ho, hrl]
      · rw [if_neg h, if_neg (fun h' => h h'.symm), List.getD_eq_getElem?_getD]
    rw [hset _ _ (outF_len _ _ _), hset _ _ (outF_len _ _ _), hset _ _ (outF_len _ _ _)]
    by_cases h : i = e.r.toNat
    · rw [if_pos h, if_pos h, if_pos h, ← h0 _ hrl]
      generalize (v.getD e.c.toNat 0).tmod 1001 = p
      generalize (u.getD e.c.toNat 0).tmod 1001 = q
      grind
    · rw [if_neg h, if_neg h, if_neg h]
      exact h0 i hi
/-- the code of such a product -/
def linC (n : Nat) (m : List En) : Int := if m.any (badN 20 n) = true then 1 else 0
theorem linC_eq (m : List En) (v : List Int) (parts : Int) (hm : m.length ≤ 60) (hv : v.length ≤ 40) (hs : ∀ x ∈ v, -1000000 ≤ x ∧ x ≤ 1000000) (hp : 1 ≤ parts ∧ parts ≤ 16) : prodC 20 m v parts = linC v.length m := by
  unfold prodC linC
  have h1 : v.any (fun n => !wI 1000000 n) = false := by
    rw [List.any_eq_false]
    intro x hx
    have := hs x hx
    simp [wI, this]
  rw [if_neg (by omega), if_neg (by omega), if_neg (by omega), h1]
  simp
def linO (m : List En) (v : List Int) (n : Nat) : List Int := if linC n m = 0 then outF 20 v m else []
theorem lin_law (m : List En) (v u : List Int) (k : Int) (hk : -128 ≤ k ∧ k ≤ 127) (n : Nat) (hv : v.length = n) (hu : u.length = n) (hn : n ≤ 40) (hm : m.length ≤ 60) :
    ∃ L ≤ 20, (linO m (aL v) n).length = L ∧ (linO m (aL u) n).length = L ∧ (linO m (cL v u k n) n).length = L ∧ ∀ i (h1 : i < (linO m (aL v) n).length) (h2 : i < (linO m (aL u) n).length) (h3 : i < (linO m (cL v u k n) n).length),
      (linO m (aL v) n)[i] + k * (linO m (aL u) n)[i] = (linO m (cL v u k n) n)[i] ∧ (-100000000000000 ≤ (linO m (aL v) n)[i] ∧ (linO m (aL v) n)[i] ≤ 100000000000000) ∧ (-100000000000000 ≤ (linO m (aL u) n)[i] ∧ (linO m (aL u) n)[i] ≤ 100000000000000) := by
  unfold linO
  by_cases h : m.any (badN 20 n) = true
  · refine ⟨0, by omega, ?_⟩
    have hc : linC n m = 1 := by simp [linC, h]
    simp [hc]
  · have hc : linC n m = 0 := by simp [linC, h]
    have hf : ∀ e ∈ m, Fit3 20 n e := fun e he => fit3_of 20 n e (by
      have h' := Bool.eq_false_iff.2 h
      rw [List.any_eq_false] at h'
      exact Bool.eq_false_iff.2 (h' e he))
    refine ⟨20, by omega, ?_⟩
    simp only [hc, if_true, outF_len]
    refine ⟨trivial, trivial, trivial, fun i h1 h2 h3 => ?_⟩
    have hl := outF_lin 20 n v u k hv hu m hf i h1
    rw [getD_in _ _ (by rw [outF_len]; exact h1), getD_in _ _ (by rw [outF_len]; exact h1), getD_in _ _ (by rw [outF_len]; exact h1)] at hl
    have b1 := outF_bound 20 n (aL v) (by rw [aL_len, hv]) (fun x hx => by have := aL_small v x hx; omega) m hf _ (List.getElem_mem (show i < (outF 20 (aL v) m).length by rw [outF_len]; exact h1))
    have b2 := outF_bound 20 n (aL u) (by rw [aL_len, hu]) (fun x hx => by have := aL_small u x hx; omega) m hf _ (List.getElem_mem (show i < (outF 20 (aL u) m).length by rw [outF_len]; exact h1))
    refine ⟨hl, by omega, by omega⟩
end Go.Proofs.Ythccnaemocdcbaa
