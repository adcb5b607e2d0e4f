import Derived.Test.YthebembnlmddoaaH
namespace Go.Proofs.Ythebembnlmddoaa
open Go.RowKit
set_option maxHeartbeats 1000000
set_option maxRecDepth 100000
set_option linter.unusedSimpArgs false
set_option linter.unusedVariables false

/-! ### places as keys -/
open Go.WideMaps in
theorem arr37 : ArrKey Try.prog 37 3 3 := ⟨Try.underlying37, by kernel_rfl, by kernel_rfl, by kernel_rfl⟩
open Go.WideMaps in
theorem keyed37 : Maps.Keyed Try.prog 37 := Maps.Keyed.of_law arr37.law
open Go.WideMaps in
def kP (p : Int × Int × Int) : Lit := .string (keyBytes [.int .i64 p.1, .int .i64 p.2.1, .int .i64 p.2.2])
def okP (p : Int × Int × Int) : Prop := okI p.1 ∧ okI p.2.1 ∧ okI p.2.2
abbrev plV (p : Int × Int × Int) : Value := .agg #[.int .i64 p.1, .int .i64 p.2.1, .int .i64 p.2.2]
theorem wfI (x : Int) (h : okI x) : (Lit.int .i64 x).wf = true := WalkArith.wf_i64 h
open Go.WideMaps in
theorem keyP (p : Int × Int × Int) (h : okP p) : keyOf Try.prog 37 (plV p) = some (kP p) := by
  have A := arr37
  have hsz : ∃ m, Try.prog.types.size = m + 1 := ⟨Try.prog.types.size - 1, by kernel_rfl⟩
  have hkt := A.keyType hsz
  obtain ⟨m, hm⟩ := hsz
  have w0 := wfI _ h.1
  have w1 := wfI _ h.2.1
  have w2 := wfI _ h.2.2
  unfold keyOf
  simp only [A.hu]
  rw [if_pos (by simp [hkt, Value.formed, A.hu, A.size]), hm]
  unfold Program.keyLits
  simp only [A.hu, Value.cells]
  rw [if_pos (by rw [A.size]; rfl), show List.range 3 = [0, 1, 2] from rfl, List.mapM_cons, List.mapM_cons, List.mapM_cons, List.mapM_nil]
  simp [A.one, Program.keyLits, Try.underlying3, w0, w1, w2, kP]
theorem kP_inj (x y : Int × Int × Int) (hx : okP x) (hy : okP y) (h : kP x = kP y) : x = y := by
  have e := keyed37.inj (keyP x hx) (h ▸ keyP y hy)
  simp at e
  exact Prod.ext e.1 (Prod.ext e.2.1 e.2.2)

/-! ### the memory of the clocks -/
/-- the map of the tasks' numbers -/
def IxM (w : World) (b n : Nat) (ts : List Int) : Prop := ∃ f, MapV 3 kI okI w b n f ts.length ∧ ∀ t, okI t → f t = if t ∈ ts then some (.int .i64 ((ts.idxOf t : Nat) : Int)) else none
theorem IxM.rest {w w' : World} {b n : Nat} {ts : List Int} (h : IxM w b n ts) (hb : Below w.heap.size w w') : IxM w' b n ts := by
  obtain ⟨f, h1, h2⟩ := h
  exact ⟨f, h1.rest hb, h2⟩
theorem IxM.kept {w w' : World} {b n : Nat} {ts : List Int} {row : Option Nat} (h : IxM w b n ts) (hg : w.grownBy w' row) (hne : some b ≠ row) : IxM w' b n ts := by
  obtain ⟨f, h1, h2⟩ := h
  exact ⟨f, h1.kept hg hne, h2⟩
theorem IxM.made (w : World) : IxM (w.alloc (.map #[] 0)) w.heap.size 0 [] := ⟨_, MapV.made _ _ _ w, fun t _ => by simp⟩
theorem IxM.mono {w : World} {b n n' : Nat} {ts : List Int} (h : IxM w b n ts) (hn : n ≤ n') : IxM w b n' ts := by
  obtain ⟨f, h1, h2⟩ := h
  exact ⟨f, h1.mono hn, h2⟩
theorem IxM.lookOk {w : World} {b n : Nat} {ts : List Int} (h : IxM w b n ts) (t : Int) (ht : okI t) : ∃ v, (Instr.lookup 68 (.map (some b)) (.int .i64 t) true).run Try.prog w = .ok (.tuple #[v, .bool (decide (t ∈ ts))]) w := by
  obtain ⟨f, h1, h2⟩ := h
  refine ⟨(f t).getD (.int .i64 0), ?_⟩
  rw [h1.lookOk keyedI Try.underlying68 zero3 t ht (keyI t ht)]
  have : (f t).isSome = decide (t ∈ ts) := by
    rw [h2 t ht]
    by_cases e : t ∈ ts <;> simp [e]
  rw [this]
theorem IxM.lookOkN {w : World} {b n : Nat} {ts : List Int} (h : IxM w b n ts) (t : Int) (ht : okI t) : ∃ v, ∀ m, (Instr.lookup 68 (.map (some b)) (.int .i64 t) true).run Try.prog (w.drewN m) = .ok (.tuple #[v, .bool (decide (t ∈ ts))]) (w.drewN m) := by
  obtain ⟨f, h1, h2⟩ := h
  refine ⟨(f t).getD (.int .i64 0), fun m => ?_⟩
  rw [(h1.rest (drewN_below (Below.refl _ _) m)).lookOk keyedI Try.underlying68 zero3 t ht (keyI t ht)]
  have : (f t).isSome = decide (t ∈ ts) := by
    rw [h2 t ht]
    by_cases e : t ∈ ts <;> simp [e]
  rw [this]
theorem IxM.look {w : World} {b n : Nat} {ts : List Int} (h : IxM w b n ts) (t : Int) (ht : okI t) (hm : t ∈ ts) : (Instr.lookup 68 (.map (some b)) (.int .i64 t) false).run Try.prog w = .ok (.int .i64 ((ts.idxOf t : Nat) : Int)) w := by
  obtain ⟨f, h1, h2⟩ := h
  rw [h1.look keyedI Try.underlying68 zero3 t ht (keyI t ht), h2 t ht, if_pos hm]
  rfl
theorem IxM.len {w : World} {b n : Nat} {ts : List Int} (h : IxM w b n ts) (ty : TypeId) : (Builtin.len_ #[68] ty #[.map (some b)]).run Try.prog w = .ok (.int .i64 ((ts.length : Nat) : Int)) w := by
  obtain ⟨f, h1, h2⟩ := h
  exact h1.len Try.underlying68 ty
theorem IxM.put {w : World} {b n : Nat} {ts : List Int} (h : IxM w b n ts) (hn : n < 1000000) (t : Int) (ht : okI t) (hm : t ∉ ts) :
    ∃ w', (Instr.mapUpdate 68 (.map (some b)) (.int .i64 t) (.int .i64 ((ts.length : Nat) : Int))).run Try.prog w = .ok () w' ∧ IxM w' b (n + 1) (ts ++ [t]) ∧ w.grownBy w' (some b) := by
  obtain ⟨f, h1, h2⟩ := h
  obtain ⟨w', r1, r2, r3⟩ := h1.put kI_inj keyedI Try.underlying68 (by unfold maxLen; omega) t ht (keyI t ht) (.int .i64 ((ts.length : Nat) : Int))
  rw [h2 t ht, if_neg hm] at r2
  refine ⟨w', r1, ⟨_, by simpa using r2, fun u hu => ?_⟩, r3⟩
  by_cases e : u = t
  · subst e
    rw [if_pos rfl, if_pos (by simp), List.idxOf_append, if_neg hm]
    simp
  · rw [if_neg e, h2 u hu]
    by_cases hu2 : u ∈ ts
    · rw [if_pos hu2, if_pos (by simp [hu2]), List.idxOf_append, if_pos hu2]
    · rw [if_neg hu2, if_neg (by simp [hu2, e])]

/-- a value that is a clock -/
def RowV (w : World) (base K : Nat) (v : Value) (row : List Int) : Prop := ∃ g cp, v = .slice (some ⟨g, 0, none⟩) K cp ∧ row.length = K ∧ Own encI 1 3 w base v row
theorem RowV.rest {w w' : World} {base K : Nat} {v : Value} {row : List Int} (h : RowV w base K v row) (hb : Below w.heap.size w w') : RowV w' base K v row := by
  obtain ⟨g, cp, h1, h2, h3⟩ := h
  exact ⟨g, cp, h1, h2, h3.rest hb⟩
/-- the block X is no block of numbers -/
def NoRow (w : World) (X : Nat) : Prop := ∀ cs, w.heap[X]? ≠ some (.cells cs 3 (0, 0))
theorem RowV.kept {w w' : World} {base K : Nat} {v : Value} {row : List Int} {X : Nat} (h : RowV w base K v row) (hg : w.grownBy w' (some X)) (hX : NoRow w X) : RowV w' base K v row := by
  obtain ⟨g, cp, h1, h2, h3⟩ := h
  refine ⟨g, cp, h1, h2, h3.grown hg (Or.inr ?_)⟩
  subst h1
  intro e
  obtain rfl : g = X := by simpa [Value.ownBlock] using e
  obtain ⟨_, _, cur, hc⟩ := h3.blk g rfl
  exact hX cur hc
/-- a map of clocks -/
def TabM {κ : Type} (K0 : TypeId) (kl : κ → Lit) (ok : κ → Prop) (w : World) (base K b n : Nat) (F : κ → Option (List Int)) : Prop :=
  ∃ f cnt, MapV K0 kl ok w b n f cnt ∧ ∀ t, ok t → match F t with | none => f t = none | some row => ∃ v, f t = some v ∧ RowV w base K v row
theorem TabM.rest {κ : Type} {K0 : TypeId} {kl : κ → Lit} {ok : κ → Prop} {w w' : World} {base K b n : Nat} {F : κ → Option (List Int)} (h : TabM K0 kl ok w base K b n F) (hb : Below w.heap.size w w') : TabM K0 kl ok w' base K b n F := by
  obtain ⟨f, cnt, h1, h2⟩ := h
  refine ⟨f, cnt, h1.rest hb, fun t ht => ?_⟩
  have := h2 t ht
  cases hF : F t with
  | none => rw [hF] at this; exact this
  | some row => rw [hF] at this; obtain ⟨v, e1, e2⟩ := this; exact ⟨v, e1, e2.rest hb⟩
theorem TabM.kept {κ : Type} {K0 : TypeId} {kl : κ → Lit} {ok : κ → Prop} {w w' : World} {base K b n : Nat} {F : κ → Option (List Int)} {X : Nat} (h : TabM K0 kl ok w base K b n F) (hg : w.grownBy w' (some X)) (hX : NoRow w X) (hne : b ≠ X) : TabM K0 kl ok w' base K b n F := by
  obtain ⟨f, cnt, h1, h2⟩ := h
  refine ⟨f, cnt, h1.kept hg (fun e => hne (Option.some.inj e)), fun t ht => ?_⟩
  have := h2 t ht
  cases hF : F t with
  | none => rw [hF] at this; exact this
  | some row => rw [hF] at this; obtain ⟨v, e1, e2⟩ := this; exact ⟨v, e1, e2.kept hg hX⟩
theorem TabM.obj {κ : Type} {K0 : TypeId} {kl : κ → Lit} {ok : κ → Prop} {w : World} {base K b n : Nat} {F : κ → Option (List Int)} (h : TabM K0 kl ok w base K b n F) : NoRow w b := by
  obtain ⟨f, cnt, h1, h2⟩ := h
  obtain ⟨es, cl, h3⟩ := h1.obj
  intro cs e
  rw [h3] at e
  cases e
theorem TabM.lt {κ : Type} {K0 : TypeId} {kl : κ → Lit} {ok : κ → Prop} {w : World} {base K b n : Nat} {F : κ → Option (List Int)} (h : TabM K0 kl ok w base K b n F) : b < w.heap.size := by
  obtain ⟨f, cnt, h1, h2⟩ := h
  exact h1.lt
theorem TabM.mono {κ : Type} {K0 : TypeId} {kl : κ → Lit} {ok : κ → Prop} {w : World} {base K b n n' : Nat} {F : κ → Option (List Int)} (h : TabM K0 kl ok w base K b n F) (hn : n ≤ n') : TabM K0 kl ok w base K b n' F := by
  obtain ⟨f, cnt, h1, h2⟩ := h
  exact ⟨f, cnt, h1.mono hn, h2⟩
theorem zero33 (w : World) : (zeroValue 33).run Try.prog w = .ok (.slice none 0 0) w := by kernel_rfl
/-- what a look gives: a row that is read -/
theorem TabM.look {κ : Type} {K0 : TypeId} {kl : κ → Lit} {ok : κ → Prop} {w : World} {base K b n : Nat} {F : κ → Option (List Int)} (h : TabM K0 kl ok w base K b n F) {T : TypeId} (KK : Maps.Keyed Try.prog K0) (hT : Try.prog.underlying T = some (.map K0 33)) (t : κ) (ht : ok t) {key : Value} (hkey : keyOf Try.prog K0 key = some (kl t)) :
    ∃ M c, (Instr.lookup T (.map (some b)) key false).run Try.prog w = .ok (.slice M ((F t).getD []).length c) w ∧ Rd encI 1 w M ((F t).getD []) ∧ ((F t).getD []).length ≤ K ∧ ∀ a, M = some a → a.block < w.heap.size := by
  obtain ⟨f, cnt, h1, h2⟩ := h
  have hl := h1.look KK hT zero33 t ht hkey
  have := h2 t ht
  cases hF : F t with
  | none =>
    rw [hF] at this
    rw [this] at hl
    exact ⟨Option.none, 0, hl, Rd.nil encI 1 w Option.none, Nat.zero_le _, fun a ha => by cases ha⟩
  | some row =>
    rw [hF] at this
    obtain ⟨v, e1, g, cp, rfl, hlen, hown⟩ := this
    rw [e1] at hl
    obtain ⟨A, c, e2, hr⟩ := hown.rd lenI
    obtain ⟨rfl, e3, rfl⟩ := Value.slice.inj e2
    have hb := (hown.blk g rfl).2.1
    refine ⟨some ⟨g, 0, Option.none⟩, cp, ?_, hr, Nat.le_of_eq hlen, fun a ha => by cases ha; exact hb⟩
    rw [hl]
    show Result.ok (Value.slice (some ⟨g, 0, Option.none⟩) K cp) w = Result.ok (Value.slice (some ⟨g, 0, Option.none⟩) row.length cp) w
    rw [hlen]
/-- .. in a later world, in which nothing of before has changed -/
theorem TabM.lookAt {κ : Type} {K0 : TypeId} {kl : κ → Lit} {ok : κ → Prop} {w w' : World} {base K b n : Nat} {F : κ → Option (List Int)} (h : TabM K0 kl ok w base K b n F) (hb : Below w.heap.size w w') {T : TypeId} (KK : Maps.Keyed Try.prog K0) (hT : Try.prog.underlying T = some (.map K0 33)) (t : κ) (ht : ok t) {key : Value} (hkey : keyOf Try.prog K0 key = some (kl t)) :
    ∃ M c, (Instr.lookup T (.map (some b)) key false).run Try.prog w' = .ok (.slice M ((F t).getD []).length c) w' ∧ Rd encI 1 w' M ((F t).getD []) ∧ ((F t).getD []).length ≤ K ∧ ∀ a, M = some a → a.block < w.heap.size := by
  obtain ⟨f, cnt, h1, h2⟩ := h
  have hl := (h1.rest hb).look KK hT zero33 t ht hkey
  have := h2 t ht
  cases hF : F t with
  | none =>
    rw [hF] at this
    rw [this] at hl
    exact ⟨Option.none, 0, hl, Rd.nil encI 1 w' Option.none, Nat.zero_le _, fun a ha => by cases ha⟩
  | some row =>
    rw [hF] at this
    obtain ⟨v, e1, g, cp, rfl, hlen, hown⟩ := this
    rw [e1] at hl
    obtain ⟨A, c, e2, hr⟩ := (hown.rest hb).rd lenI
    obtain ⟨rfl, e3, rfl⟩ := Value.slice.inj e2
    have hb := (hown.blk g rfl).2.1
    refine ⟨some ⟨g, 0, Option.none⟩, cp, ?_, hr, Nat.le_of_eq hlen, fun a ha => by cases ha; exact hb⟩
    rw [hl]
    show Result.ok (Value.slice (some ⟨g, 0, Option.none⟩) K cp) w' = Result.ok (Value.slice (some ⟨g, 0, Option.none⟩) row.length cp) w'
    rw [hlen]
theorem TabM.put {κ : Type} [DecidableEq κ] {K0 : TypeId} {kl : κ → Lit} {ok : κ → Prop} (inj : ∀ x y, ok x → ok y → kl x = kl y → x = y) {w : World} {base K b n : Nat} {F : κ → Option (List Int)} (h : TabM K0 kl ok w base K b n F) {T : TypeId} (KK : Maps.Keyed Try.prog K0) (hT : Try.prog.underlying T = some (.map K0 33)) (hn : n < 1000000) (t : κ) (ht : ok t) {key : Value} (hkey : keyOf Try.prog K0 key = some (kl t)) (v : Value) (row : List Int) (hv : RowV w base K v row) :
    ∃ w', (Instr.mapUpdate T (.map (some b)) key v).run Try.prog w = .ok () w' ∧ TabM K0 kl ok w' base K b (n + 1) (fun u => if u = t then some row else F u) ∧ w.grownBy w' (some b) := by
  have hX := h.obj
  obtain ⟨f, cnt, h1, h2⟩ := h
  obtain ⟨w', r1, r2, r3⟩ := h1.put inj KK hT (by unfold maxLen; omega) t ht hkey v
  refine ⟨w', r1, ⟨_, _, r2, fun u hu => ?_⟩, r3⟩
  by_cases e : u = t
  · simp only [if_pos e]
    exact ⟨v, rfl, hv.kept r3 hX⟩
  · simp only [if_neg e]
    have := h2 u hu
    cases hF : F u with
    | none => rw [hF] at this; exact this
    | some row => rw [hF] at this; obtain ⟨v, e1, e2⟩ := this; exact ⟨v, e1, e2.kept r3 hX⟩
theorem TabM.congr {κ : Type} {K0 : TypeId} {kl : κ → Lit} {ok : κ → Prop} {w : World} {base K b n : Nat} {F G : κ → Option (List Int)} (h : TabM K0 kl ok w base K b n F) (e : ∀ t, F t = G t) : TabM K0 kl ok w base K b n G := by
  have : F = G := funext e
  exact this ▸ h
theorem TabM.made {κ : Type} (K0 : TypeId) (kl : κ → Lit) (ok : κ → Prop) (w : World) (base K : Nat) : TabM K0 kl ok (w.alloc (.map #[] 0)) base K w.heap.size 0 (fun _ => none) :=
  ⟨_, _, MapV.made K0 kl ok w, fun t _ => rfl⟩
/-- a slice of clocks -/
abbrev encO (v : Value) : List Value := [v]
theorem lenO (x : Value) : (encO x).length = 1 := rfl
def AllV (w : World) (base K : Nat) (AA : Value) (As : List (List Int)) : Prop := ∃ vs : List Value, Own encO 1 33 w base AA vs ∧ vs.length = As.length ∧ ∀ i (h : i < vs.length) (h' : i < As.length), RowV w base K vs[i] As[i]
theorem AllV.rest {w w' : World} {base K : Nat} {AA : Value} {As : List (List Int)} (h : AllV w base K AA As) (hb : Below w.heap.size w w') : AllV w' base K AA As := by
  obtain ⟨vs, h1, h2, h3⟩ := h
  exact ⟨vs, h1.rest hb, h2, fun i h h' => (h3 i h h').rest hb⟩
theorem AllV.kept {w w' : World} {base K : Nat} {AA : Value} {As : List (List Int)} {X : Nat} (h : AllV w base K AA As) (hg : w.grownBy w' (some X)) (hX : NoRow w X) (hA : AA.ownBlock ≠ some X) : AllV w' base K AA As := by
  obtain ⟨vs, h1, h2, h3⟩ := h
  refine ⟨vs, h1.grown hg ?_, h2, fun i h h' => (h3 i h h').kept hg hX⟩
  cases hh : AA.ownBlock with
  | none => exact Or.inl rfl
  | some k => rw [hh] at hA; exact Or.inr hA
end Go.Proofs.Ythebembnlmddoaa
