import Derived.Test.YthccnaemocdcbaaT
import Derived.Test.YthccnaemocdcbaaJ
import Derived.WideKeyPair
import Derived.Maps.OwnSet
import Derived.Carry
namespace Go.Proofs.Ythccnaemocdcbaa
open Go.RowKit Go.Maps Go.WideMaps
set_option maxHeartbeats 2000000
set_option maxRecDepth 100000
set_option linter.unusedSimpArgs false
set_option linter.unusedVariables false

/-! ### the map of pairs -/
theorem arr82 : ArrKey Try.prog 82 3 2 := ⟨Try.underlying82, by kernel_rfl, by kernel_rfl, by kernel_rfl⟩
theorem keyed82 : Keyed Try.prog 82 := Keyed.of_law arr82.law
/-- a pair as a key -/
def kl2 (k c : Nat) : Lit := .string (keyBytes [.int .i64 (k : Int), .int .i64 (c : Int)])
theorem wf_nat (k : Nat) (h : k ≤ 1000000) : (Lit.int .i64 (k : Int)).wf = true := WalkArith.wf_i64 (by omega)
theorem sized82 : ∃ m, Try.prog.types.size = m + 1 := ⟨134, by kernel_rfl⟩
theorem key82 (k c : Nat) (hk : k ≤ 1000000) (hc : c ≤ 1000000) : keyOf Try.prog 82 (.agg #[.int .i64 (k : Int), .int .i64 (c : Int)]) = some (kl2 k c) :=
  keyOf_pair arr82 Try.underlying3 sized82 (wf_nat k hk) (wf_nat c hc)
theorem kl2_inj (k c k' c' : Nat) (hk : k ≤ 1000000) (hc : c ≤ 1000000) (hk' : k' ≤ 1000000) (hc' : c' ≤ 1000000) (h : kl2 k c = kl2 k' c') : k = k' ∧ c = c' := by
  have e := keyed82.inj (key82 k c hk hc) (h ▸ key82 k' c' hk' hc')
  simp at e
  omega
/-- block b is a map of pairs that are so: f -/
def MB (w : World) (b n : Nat) (f : Nat → Nat → Bool) : Prop :=
  ∃ D : DataW Unit, w.ownsMap Try.prog 82 (plainElem Try.prog 4) b n D ∧ ∀ k c, k ≤ 1000000 → c ≤ 1000000 → D.atKey (kl2 k c) (.lit (.bool false)) = .lit (.bool (f k c))
theorem MB.made (w : World) : MB (w.alloc (.map #[] 0)) w.heap.size 0 (fun _ _ => false) :=
  ⟨_, World.ownsMap_made _ _ _ _, fun k c _ _ => rfl⟩
theorem MB.kept {w w' : World} {b n : Nat} {f : Nat → Nat → Bool} {row : Option Nat} (h : MB w b n f) (hg : w.grownBy w' row) (hne : some b ≠ row) : MB w' b n f := by
  obtain ⟨D, h1, h2⟩ := h
  exact ⟨D, h1.kept hg hne, h2⟩
theorem MB.lt {w : World} {b n : Nat} {f : Nat → Nat → Bool} (h : MB w b n f) : b < w.heap.size := by
  obtain ⟨D, h1, h2⟩ := h
  exact h1.lt
theorem MB.mono {w : World} {b n n' : Nat} {f : Nat → Nat → Bool} (h : MB w b n f) (hn : n ≤ n') : MB w b n' f := by
  obtain ⟨D, h1, h2⟩ := h
  exact ⟨D, h1.mono hn, h2⟩
theorem MB.look {w : World} {b n : Nat} {f : Nat → Nat → Bool} (h : MB w b n f) (k c : Nat) (hk : k ≤ 1000000) (hc : c ≤ 1000000) :
    (Instr.lookup 80 (.map (some b)) (.agg #[.int .i64 (k : Int), .int .i64 (c : Int)]) false).run Try.prog w = .ok (.bool (f k c)) w := by
  obtain ⟨D, h1, h2⟩ := h
  have hz : (zeroValue 4).run Try.prog w = .ok (.bool false) w := by kernel_rfl
  obtain ⟨v, ps, hrun, hv⟩ := h1.lookup keyed82 Try.underlying80 hz (plainElem_bool Try.underlying4 false) (key82 k c hk hc)
  rw [h2 k c hk hc] at hv
  rw [hrun]
  unfold plainElem at hv
  rw [Try.underlying4] at hv
  cases v <;> simp at hv
  rw [hv.1]
theorem MB.turn {w : World} {b n : Nat} {f : Nat → Nat → Bool} (h : MB w b n f) (hn : n < 1000000) (k c : Nat) (hk : k ≤ 1000000) (hc : c ≤ 1000000) :
    ∃ w', (Instr.mapUpdate 80 (.map (some b)) (.agg #[.int .i64 (k : Int), .int .i64 (c : Int)]) (.bool true)).run Try.prog w = .ok () w' ∧ MB w' b (n + 1) (fun k' c' => f k' c' || (k == k' && c == c')) ∧ w.grownBy w' (some b) := by
  obtain ⟨D, h1, h2⟩ := h
  obtain ⟨w', hrun, r1, r2⟩ := h1.update keyed82 Try.underlying80 (by unfold maxLen; omega) (key82 k c hk hc) (plainElem_bool Try.underlying4 true)
  refine ⟨w', hrun, ⟨_, r1, fun k' c' hk' hc' => ?_⟩, r2⟩
  by_cases e : kl2 k' c' = kl2 k c
  · obtain ⟨rfl, rfl⟩ := kl2_inj _ _ _ _ hk' hc' hk hc e
    rw [atKey_put_same h1.isMap (keyed82.key (key82 k' c' hk' hc'))]
    simp
  · rw [atKey_put_other e, h2 k' c' hk' hc']
    have : (k == k' && c == c') = false := by
      simp
      intro e1 e2
      exact e (by rw [e1, e2])
    show _ = DataW.lit (Lit.bool (f k' c' || (k == k' && c == c')))
    rw [this, Bool.or_false]

/-! ### the product, plainly -/
/-- the elements behind an entry -/
def outS (v : List Int) (o : List Int) (e : En) : List Int := o.set e.r.toNat (o.getD e.r.toNat 0 + e.v * v.getD e.c.toNat 0)
def outF (R : Nat) (v : List Int) (ms : List En) : List Int := ms.foldl (outS v) (List.replicate R 0)
theorem outF_nil (R : Nat) (v : List Int) : outF R v [] = List.replicate R 0 := rfl
theorem outF_snoc (R : Nat) (v : List Int) (ms : List En) (e : En) : outF R v (ms ++ [e]) = outS v (outF R v ms) e := by
  simp [outF, List.foldl_append]
theorem outF_len (R : Nat) (v : List Int) (ms : List En) : (outF R v ms).length = R := by
  unfold outF
  suffices ∀ (ms : List En) (o : List Int), (ms.foldl (outS v) o).length = o.length by rw [this]; simp
  intro ms
  induction ms with
  | nil => intro o; rfl
  | cons e ms ih => intro o; rw [List.foldl_cons, ih]; simp [outS]
/-- an entry that a matrix of R rows and L columns may have -/
def Fit3 (R L : Nat) (e : En) : Prop := 0 ≤ e.r ∧ e.r.toNat < R ∧ 0 ≤ e.c ∧ e.c.toNat < L ∧ -1000000 ≤ e.v ∧ e.v ≤ 1000000
theorem fit3_of (R : Nat) (L : Nat) (e : En) (h : badN R L e = false) : Fit3 R L e := by
  simp [badN, wI] at h
  unfold Fit3
  omega
theorem mul_bound (a b : Int) (ha : -1000000 ≤ a ∧ a ≤ 1000000) (hb : -1000000 ≤ b ∧ b ≤ 1000000) : -1000000000000 ≤ a * b ∧ a * b ≤ 1000000000000 := by
  have h : (a * b).natAbs ≤ 1000000 * 1000000 := by
    rw [Int.natAbs_mul]
    exact Nat.mul_le_mul (by omega) (by omega)
  omega
theorem getD_in (v : List Int) (i : Nat) (h : i < v.length) : v.getD i 0 = v[i] := by
  rw [List.getD_eq_getElem?_getD, List.getElem?_eq_getElem h]; rfl
theorem outF_bound (R L : Nat) (v : List Int) (hL : v.length = L) (hv : ∀ x ∈ v, -1000000 ≤ x ∧ x ≤ 1000000) (ms : List En) (hm : ∀ e ∈ ms, Fit3 R L e) :
    ∀ x ∈ outF R v ms, -(ms.length * 1000000000000 : Int) ≤ x ∧ x ≤ (ms.length * 1000000000000 : Int) := by
  suffices ∀ (ms : List En) (o : List Int) (B : Int), (∀ e ∈ ms, Fit3 R L e) → o.length = R → (∀ x ∈ o, -B ≤ x ∧ x ≤ B) → ∀ x ∈ ms.foldl (outS v) o, -(B + ms.length * 1000000000000 : Int) ≤ x ∧ x ≤ (B + ms.length * 1000000000000 : Int) by
    have h := this ms (List.replicate R 0) 0 hm (by simp) (fun x hx => by obtain ⟨_, rfl⟩ := List.mem_replicate.1 hx; simp)
    unfold outF; simpa using h
  intro ms
  induction ms with
  | nil => intro o B _ _ ho x hx; simpa using ho x hx
  | cons e ms ih =>
    intro o B hm hlen ho x hx
    rw [List.foldl_cons] at hx
    have he := hm e (by simp)
    have hr : e.r.toNat < o.length := by rw [hlen]; exact he.2.1
    have b1 := ho _ (List.getElem_mem hr)
    have b2 := hv _ (List.getElem_mem (show e.c.toNat < v.length by rw [hL]; exact he.2.2.2.1))
    have b3 := mul_bound e.v _ he.2.2.2.2 b2
    have h := ih (outS v o e) (B + 1000000000000) (fun e he => hm e (by simp [he])) (by simp [outS, hlen]) (fun x hx => by
      unfold outS at hx
      rw [getD_in _ _ hr, getD_in v _ (by rw [hL]; exact he.2.2.2.1)] at hx
      rcases List.mem_or_eq_of_mem_set hx with h | h
      · have := ho x h; omega
      · omega) x hx
    rw [List.length_cons]
    simp only [Int.natCast_add, Int.natCast_one]
    omega

/-- a column that a part has or knows -/
def knownB (R L P : Nat) (ms : List En) (e : En) : Bool :=
  decide (ptF L e.c.toNat P = ptF R e.r.toNat P) || ms.any (fun x => x.c == e.c && ptF R x.r.toNat P == ptF R e.r.toNat P)
def fetS (R L P : Nat) (ms : List En) (f : List Int) (e : En) : List Int :=
  if knownB R L P ms e then f else f.set (ptF R e.r.toNat P) (f.getD (ptF R e.r.toNat P) 0 + 1)
def fetI (R L P : Nat) (m : List En) : Nat → List Int
  | 0 => List.replicate P 0
  | i + 1 => match m[i]? with
    | some e => fetS R L P (m.take i) (fetI R L P m i) e
    | none => fetI R L P m i
theorem fetI_succ (R L P : Nat) (m : List En) (i : Nat) (h : i < m.length) : fetI R L P m (i + 1) = fetS R L P (m.take i) (fetI R L P m i) m[i] := by
  simp [fetI, List.getElem?_eq_getElem h]
theorem fetI_len (R L P : Nat) (m : List En) (i : Nat) : (fetI R L P m i).length = P := by
  induction i with
  | zero => simp [fetI]
  | succ i ih =>
    by_cases h : i < m.length
    · rw [fetI_succ _ _ _ _ _ h]
      unfold fetS
      split
      · exact ih
      · rw [List.length_set]; exact ih
    · simp [fetI, List.getElem?_eq_none (show m.length ≤ i by omega), ih]
theorem fetI_bound (R L P : Nat) (m : List En) (i : Nat) : ∀ x ∈ fetI R L P m i, 0 ≤ x ∧ x ≤ (i : Int) := by
  induction i with
  | zero => intro x hx; obtain ⟨_, rfl⟩ := List.mem_replicate.1 hx; simp
  | succ i ih =>
    by_cases h : i < m.length
    · rw [fetI_succ _ _ _ _ _ h]
      unfold fetS
      split
      · intro x hx; have := ih x hx; omega
      · intro x hx
        rcases List.mem_or_eq_of_mem_set hx with h | h
        · have := ih x h; omega
        · by_cases hp : ptF R (m[i]).r.toNat P < (fetI R L P m i).length
          · rw [getD_in _ _ hp] at h
            have := ih _ (List.getElem_mem hp); omega
          · rw [List.getD_eq_getElem?_getD, List.getElem?_eq_none (by omega)] at h
            simp at h; omega
    · intro x hx
      simp only [fetI, List.getElem?_eq_none (show m.length ≤ i by omega)] at hx
      have := ih x hx; omega
/-- what the map says behind some entries -/
def metF (R L P : Nat) (ms : List En) (k c : Nat) : Bool :=
  !decide (ptF L c P = k) && ms.any (fun x => x.c == (c : Int) && ptF R x.r.toNat P == k)
theorem metF_nil (R L P : Nat) : metF R L P [] = fun _ _ => false := by
  funext k c; simp [metF]
theorem metF_known (R L P : Nat) (ms : List En) (e : En) (hc : 0 ≤ e.c) : knownB R L P ms e = (decide (ptF L e.c.toNat P = ptF R e.r.toNat P) || metF R L P ms (ptF R e.r.toNat P) e.c.toNat) := by
  unfold knownB metF
  have : ((e.c.toNat : Nat) : Int) = e.c := Int.toNat_of_nonneg hc
  rw [this]
  generalize decide (ptF L e.c.toNat P = ptF R e.r.toNat P) = b
  cases b <;> simp
theorem metF_same (R L P : Nat) (ms : List En) (e : En) (hc : 0 ≤ e.c) (h : knownB R L P ms e = true) : metF R L P (ms ++ [e]) = metF R L P ms := by
  funext k c
  unfold metF
  rw [List.any_append]
  by_cases h1 : ptF L c P = k
  · simp [h1]
  · by_cases h2 : e.c = (c : Int) ∧ ptF R e.r.toNat P = k
    · obtain ⟨h2, h3⟩ := h2
      have hc' : e.c.toNat = c := by omega
      unfold knownB at h
      rw [hc', h3, h2] at h
      simp [h1] at h
      simp [h1, h2, h3]
      exact h
    · have : (e.c == (c : Int) && ptF R e.r.toNat P == k) = false := by
        simp
        intro e1 e2
        exact h2 ⟨e1, e2⟩
      simp [this]
theorem metF_new (R L P : Nat) (ms : List En) (e : En) (hc : 0 ≤ e.c) (h : knownB R L P ms e = false) :
    metF R L P (ms ++ [e]) = fun k c => metF R L P ms k c || (ptF R e.r.toNat P == k && e.c.toNat == c) := by
  funext k c
  unfold metF
  rw [List.any_append]
  simp only [knownB, Bool.or_eq_false_iff, decide_eq_false_iff_not] at h
  by_cases h2 : ptF R e.r.toNat P = k ∧ e.c.toNat = c
  · obtain ⟨h3, h4⟩ := h2
    have h5 : e.c = (c : Int) := by omega
    rw [h3, h4] at h
    simp [h3, h4, h5, h.1]
  · have h3 : (ptF R e.r.toNat P == k && e.c.toNat == c) = false := by
      simp
      intro e1 e2
      exact h2 ⟨e1, e2⟩
    have h4 : (e.c == (c : Int) && ptF R e.r.toNat P == k) = false := by
      simp
      intro e1 e2
      exact h2 ⟨e2, by omega⟩
    rw [h3]
    simp [h4]
end Go.Proofs.Ythccnaemocdcbaa
