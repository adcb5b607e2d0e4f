import Derived.Test.YtggidakiflnhhaaE
namespace Go.Proofs.Ytggidakiflnhhaa
open Go.RowKit
set_option maxHeartbeats 1000000
set_option maxRecDepth 100000
set_option linter.unusedSimpArgs false
set_option linter.unusedVariables false

/-- a line in a cache: which one, its words, which ones are valid, which ones are dirty -/
structure En where
  l : Nat
  d : Nat → Int
  v : Nat → Bool
  t : Nat → Bool
abbrev encN (e : En) : List Value := [.int .i64 (e.l : Int), .int .i64 (e.d 0), .int .i64 (e.d 1), .int .i64 (e.d 2), .int .i64 (e.d 3), .bool (e.v 0), .bool (e.v 1), .bool (e.v 2), .bool (e.v 3), .bool (e.t 0), .bool (e.t 1), .bool (e.t 2), .bool (e.t 3)]
abbrev En.cells (e : En) : Array Value := #[.int .i64 (e.l : Int), .int .i64 (e.d 0), .int .i64 (e.d 1), .int .i64 (e.d 2), .int .i64 (e.d 3), .bool (e.v 0), .bool (e.v 1), .bool (e.v 2), .bool (e.v 3), .bool (e.t 0), .bool (e.t 1), .bool (e.t 2), .bool (e.t 3)]
abbrev En.val (e : En) : Value := .agg e.cells
/-- the memory, the caches of the locales, the counts, and the values that were read -/
structure AS where
  m : List Int
  cs : List (List En)
  f : Nat
  wr : Nat
  h : Nat
  vs : List Int
abbrev topC (c : Cf) (bm bc L : Nat) (A : AS) (vv : Value) : Array Value :=
  #[.int .i64 c.L, .int .i64 c.W, .int .i64 c.N, .int .i64 c.H, .int .i64 (A.f : Int), .int .i64 (A.wr : Int), .int .i64 (A.h : Int), .slice (some ⟨bm, 0, none⟩) A.m.length A.m.length, .slice (some ⟨bc, 0, none⟩) L L, vv]
abbrev memC (A : AS) : Array Value := (A.m.map (Value.int .i64)).toArray
/-- the system in memory: its struct bs, the memory bm, the table of the caches bc; the row 'hole' may be any -/
structure Sys (c : Cf) (bs bm bc base : Nat) (hole : Option Nat) (sv : List Value) (vv : Value) (ps : List (List Nat)) (A : AS) (w : World) : Prop where
  top : w.heap[bs]? = some (.cells (topC c bm bc sv.length A vv) 71 (0, 0))
  mem : w.heap[bm]? = some (.cells (memC A) 3 (0, 0))
  tab : w.heap[bc]? = some (.cells sv.toArray 99 (0, 0))
  ls : sv.length = ps.length
  lc : A.cs.length = ps.length
  row : ∀ (k : Nat) (v : Value) (l : List Nat), sv[k]? = some v → ps[k]? = some l → some k ≠ hole → Own encQ 1 100 w base v l
  apt : ∀ (j k : Nat) (u v : Value), sv[j]? = some u → sv[k]? = some v → j ≠ k → some j ≠ hole → some k ≠ hole → Apt u v
  le : ∀ (k : Nat) (l : List Nat) (es : List En), ps[k]? = some l → A.cs[k]? = some es → es.length = l.length
  ent : ∀ (k : Nat) (l : List Nat) (es : List En) (i p : Nat) (e : En), ps[k]? = some l → A.cs[k]? = some es → l[i]? = some p → es[i]? = some e → w.heap[p]? = some (.cells e.cells 115 (0, 0))
  val : Own encI 1 3 w base vv A.vs
  vap : vv.ownBlock ≠ some bm
  inj : ∀ (k : Nat) (l : List Nat) (i : Nat) (k' : Nat) (l' : List Nat) (i' p : Nat), ps[k]? = some l → l[i]? = some p → ps[k']? = some l' → l'[i']? = some p → k = k' ∧ i = i'
  bp : ∀ (k : Nat) (l : List Nat) (p : Nat), ps[k]? = some l → p ∈ l → base ≤ p
  bs_ : base ≤ bs
  bm_ : base ≤ bm
  bc_ : base ≤ bc
theorem blk_lt {w : World} {b : Nat} {o : Obj} (h : w.heap[b]? = some o) : b < w.heap.size := (Array.getElem?_eq_some_iff.1 h).1
section
variable {c : Cf} {bs bm bc base : Nat} {hole : Option Nat} {sv : List Value} {vv : Value} {ps : List (List Nat)} {A : AS} {w w' : World}
theorem Sys.ent' (h : Sys c bs bm bc base hole sv vv ps A w) {k i : Nat} {l : List Nat} {p : Nat} (hk : ps[k]? = some l) (hi : l[i]? = some p) : ∃ es e, A.cs[k]? = some es ∧ es[i]? = some e ∧ w.heap[p]? = some (.cells e.cells 115 (0, 0)) := by
  have h1 : k < A.cs.length := by rw [h.lc]; exact (List.getElem?_eq_some_iff.1 hk).1
  have h2 := List.getElem?_eq_getElem h1
  have h3 := h.le k l _ hk h2
  have h4 : i < A.cs[k].length := by rw [h3]; exact (List.getElem?_eq_some_iff.1 hi).1
  have h5 := List.getElem?_eq_getElem h4
  exact ⟨_, _, h2, h5, h.ent k l _ i p _ hk h2 hi h5⟩
/-- a block that is none of the system's turns -/
theorem Sys.kept (h : Sys c bs bm bc base hole sv vv ps A w) {X : Option Nat} (hg : w.grownBy w' X) (h1 : X ≠ some bs) (h2 : X ≠ some bm) (h3 : X ≠ some bc)
    (h4 : ∀ (k : Nat) (v : Value), sv[k]? = some v → some k ≠ hole → v.ownBlock = none ∨ v.ownBlock ≠ X) (h5 : ∀ (k : Nat) (l : List Nat) (p : Nat), ps[k]? = some l → p ∈ l → X ≠ some p) (h6 : vv.ownBlock = none ∨ vv.ownBlock ≠ X) : Sys c bs bm bc base hole sv vv ps A w' := by
  refine ⟨?_, ?_, ?_, h.ls, h.lc, ?_, h.apt, h.le, ?_, ?_, h.vap, h.inj, h.bp, h.bs_, h.bm_, h.bc_⟩
  · exact (hg.block _ (blk_lt h.top) (fun e => h1 e.symm)).trans h.top
  · exact (hg.block _ (blk_lt h.mem) (fun e => h2 e.symm)).trans h.mem
  · exact (hg.block _ (blk_lt h.tab) (fun e => h3 e.symm)).trans h.tab
  · intro k v l e1 e2 e3
    exact (h.row k v l e1 e2 e3).grown hg (h4 k v e1 e3)
  · intro k l es i p e e1 e2 e3 e4
    have h7 := h.ent k l es i p e e1 e2 e3 e4
    exact (hg.block _ (blk_lt h7) (fun e => h5 k l p e1 (List.mem_of_getElem? e3) e.symm)).trans h7
  · exact h.val.grown hg h6
theorem Sys.rest (h : Sys c bs bm bc base hole sv vv ps A w) (hb : Below w.heap.size w w') : Sys c bs bm bc base hole sv vv ps A w' :=
  h.kept (below_grownBy hb none) (by simp) (by simp) (by simp) (fun k v _ _ => by cases v.ownBlock <;> simp) (fun _ _ _ _ _ => by simp) (by cases vv.ownBlock <;> simp)
/-- a block of cells of type t turns -/
theorem Sys.keptT (h : Sys c bs bm bc base hole sv vv ps A w) {x : Nat} (hg : w.grownBy w' (some x)) {t : TypeId} {cs : Array Value} (hx : w.heap[x]? = some (.cells cs t (0, 0)))
    (a : t = 71 → x ≠ bs) (b : t = 3 → x ≠ bm ∧ vv.ownBlock ≠ some x) (cc : t = 99 → x ≠ bc) (d : t = 100 → ∀ (k : Nat) (v : Value), sv[k]? = some v → some k ≠ hole → v.ownBlock ≠ some x) (e : t = 115 → ∀ (k : Nat) (l : List Nat), ps[k]? = some l → x ∉ l) : Sys c bs bm bc base hole sv vv ps A w' := by
  have key : ∀ {b : Nat} {cs' : Array Value} {t' : TypeId}, w.heap[b]? = some (.cells cs' t' (0, 0)) → b = x → t = t' := fun {b cs' t'} hb e => by
    subst e
    rw [hx] at hb
    simp at hb
    exact hb.2
  refine h.kept hg (fun e => ?_) (fun e => ?_) (fun e => ?_) (fun k v e1 e2 => Or.inr (fun e3 => ?_)) (fun k l p e1 e2 e3 => ?_) (Or.inr (fun e1 => ?_))
  · obtain rfl := Option.some.inj e; exact a (key h.top rfl) rfl
  · obtain rfl := Option.some.inj e; exact (b (key h.mem rfl)).1 rfl
  · obtain rfl := Option.some.inj e; exact cc (key h.tab rfl) rfl
  · obtain ⟨l, hl⟩ : ∃ l, ps[k]? = some l := ⟨_, List.getElem?_eq_getElem (by rw [← h.ls]; exact (List.getElem?_eq_some_iff.1 e1).1)⟩
    obtain ⟨_, _, cur, hc⟩ := (h.row k v l e1 hl e2).blk x e3
    exact d (key hc rfl) k v e1 e2 e3
  · obtain rfl := Option.some.inj e3
    obtain ⟨i, hi, rfl⟩ := List.mem_iff_getElem.1 e2
    obtain ⟨es, e9, _, _, h9⟩ := h.ent' e1 (List.getElem?_eq_getElem hi)
    exact e (key h9 rfl) k l e1 e2
  · obtain ⟨_, _, cur, hc⟩ := h.val.blk x e1
    exact (b (key hc rfl)).2 e1
/-- the row of the hole turns, or a new block -/
theorem Sys.keptRow {k : Nat} (h : Sys c bs bm bc base (some k) sv vv ps A w) {v : Value} {l : List Nat} (ho : Own encQ 1 100 w base v l) (ha : ∀ (j : Nat) (u : Value), sv[j]? = some u → j ≠ k → Apt v u) (hg : w.grownBy w' v.ownBlock) : Sys c bs bm bc base (some k) sv vv ps A w' := by
  cases hv : v.ownBlock with
  | none => rw [hv] at hg; exact h.kept hg (by simp) (by simp) (by simp) (fun k v _ _ => by cases v.ownBlock <;> simp) (fun _ _ _ _ _ => by simp) (by cases vv.ownBlock <;> simp)
  | some x =>
    rw [hv] at hg
    obtain ⟨_, _, cur, hc⟩ := ho.blk x hv
    refine h.keptT hg hc (fun e => absurd e (by decide)) (fun e => absurd e (by decide)) (fun e => absurd e (by decide)) (fun _ j u e1 e2 e3 => ?_) (fun e => absurd e (by decide))
    exact ha j u e1 (fun e => e2 (by rw [e])) x hv e3
/-- the struct of the system turns: its counts -/
theorem Sys.count (h : Sys c bs bm bc base hole sv vv ps A w) (A' : AS) (e1 : A'.m = A.m) (e2 : A'.cs = A.cs) (e3 : A'.vs = A.vs) (hg : w.grownBy w' (some bs)) (ht : w'.heap[bs]? = some (.cells (topC c bm bc sv.length A' vv) 71 (0, 0))) : Sys c bs bm bc base hole sv vv ps A' w' := by
  have key : ∀ {b : Nat} {cs' : Array Value} {t' : TypeId}, w.heap[b]? = some (.cells cs' t' (0, 0)) → t' ≠ 71 → w'.heap[b]? = some (.cells cs' t' (0, 0)) := fun {b cs' t'} hb e => by
    refine (hg.block _ (blk_lt hb) (fun e' => e ?_)).trans hb
    obtain rfl := Option.some.inj e'
    rw [h.top] at hb
    simp at hb
    exact hb.2.symm
  have keyO : ∀ {α : Type} {enc : α → List Value} {t : TypeId} {v : Value} {xs : List α}, Own enc 1 t w base v xs → t ≠ 71 → Own enc 1 t w' base v xs := fun {α enc t v xs} ho e => by
    refine ho.grown hg (Or.inr (fun e' => e ?_))
    obtain ⟨_, _, cur, hc⟩ := ho.blk bs e'
    rw [h.top] at hc
    simp at hc
    exact hc.2.symm
  refine ⟨ht, ?_, key h.tab (by decide), h.ls, by rw [e2]; exact h.lc, fun k v l a b d => keyO (h.row k v l a b d) (by decide), h.apt, by rw [e2]; exact h.le, ?_, by rw [e3]; exact keyO h.val (by decide), h.vap, h.inj, h.bp, h.bs_, h.bm_, h.bc_⟩
  · have := key h.mem (by decide)
    unfold memC; rw [e1]; exact this
  · rw [e2]
    exact fun k l es i p e a b d f => key (h.ent k l es i p e a b d f) (by decide)
/-- a word of the memory turns -/
theorem Sys.setMem (h : Sys c bs bm bc base hole sv vv ps A w) (k : Nat) (hk : k < A.m.length) (x : Int) : Sys c bs bm bc base hole sv vv ps { A with m := A.m.set k x } (w.setCell ⟨bm, k, none⟩ (.int .i64 x)) ∧ w.grownBy (w.setCell ⟨bm, k, none⟩ (.int .i64 x)) (some bm) := by
  have hg := grownBy_set w bm k (.int .i64 x)
  refine ⟨?_, hg⟩
  have key : ∀ {b : Nat} {cs' : Array Value} {t' : TypeId}, w.heap[b]? = some (.cells cs' t' (0, 0)) → t' ≠ 3 → (w.setCell ⟨bm, k, none⟩ (.int .i64 x)).heap[b]? = some (.cells cs' t' (0, 0)) := fun {b cs' t'} hb e => by
    refine (hg.block _ (blk_lt hb) (fun e' => e ?_)).trans hb
    obtain rfl := Option.some.inj e'
    rw [h.mem] at hb
    simp at hb
    exact hb.2.symm
  have keyO : ∀ {v : Value} {xs : List Nat}, Own encQ 1 100 w base v xs → Own encQ 1 100 (w.setCell ⟨bm, k, none⟩ (.int .i64 x)) base v xs := fun {v xs} ho => by
    refine ho.grown hg (Or.inr (fun e' => ?_))
    obtain ⟨_, _, cur, hc⟩ := ho.blk bm e'
    rw [h.mem] at hc
    simp at hc
  refine ⟨?_, ?_, key h.tab (by decide), h.ls, h.lc, fun k v l a b d => keyO (h.row k v l a b d), h.apt, h.le, fun k l es i p e a b d f => key (h.ent k l es i p e a b d f) (by decide), h.val.grown hg (Or.inr h.vap), h.vap, h.inj, h.bp, h.bs_, h.bm_, h.bc_⟩
  · have := key h.top (by decide)
    simpa [topC] using this
  · rw [heap_setCell_same w bm k _ 3 _ h.mem]
    simp [memC, List.map_set]
/-- an entry turns -/
theorem Sys.setEnt (h : Sys c bs bm bc base hole sv vv ps A w) {k i : Nat} {l : List Nat} {es : List En} {p : Nat} (hk : ps[k]? = some l) (hi : l[i]? = some p) (hc : A.cs[k]? = some es) (e' : En) (hg : w.grownBy w' (some p)) (hp : w'.heap[p]? = some (.cells e'.cells 115 (0, 0))) : Sys c bs bm bc base hole sv vv ps { A with cs := A.cs.set k (es.set i e') } w' := by
  obtain ⟨_, e0, _, _, h9⟩ := h.ent' hk hi
  have hkl : k < A.cs.length := (List.getElem?_eq_some_iff.1 hc).1
  have key : ∀ {b : Nat} {cs' : Array Value} {t' : TypeId}, w.heap[b]? = some (.cells cs' t' (0, 0)) → t' ≠ 115 → w'.heap[b]? = some (.cells cs' t' (0, 0)) := fun {b cs' t'} hb e => by
    refine (hg.block _ (blk_lt hb) (fun e' => e ?_)).trans hb
    obtain rfl := Option.some.inj e'
    rw [h9] at hb
    simp at hb
    exact hb.2.symm
  have keyO : ∀ {α : Type} {enc : α → List Value} {t : TypeId} {v : Value} {xs : List α}, Own enc 1 t w base v xs → t ≠ 115 → Own enc 1 t w' base v xs := fun {α enc t v xs} ho e => by
    refine ho.grown hg (Or.inr (fun e' => e ?_))
    obtain ⟨_, _, cur, hc⟩ := ho.blk p e'
    rw [h9] at hc
    simp at hc
    exact hc.2.symm
  refine ⟨key h.top (by decide), key h.mem (by decide), key h.tab (by decide), h.ls, by simpa using h.lc, fun k v l a b d => keyO (h.row k v l a b d) (by decide), h.apt, ?_, ?_, keyO h.val (by decide), h.vap, h.inj, h.bp, h.bs_, h.bm_, h.bc_⟩
  · intro j l' es' a b
    simp only [List.getElem?_set] at b
    by_cases ej : k = j
    · subst ej
      rw [if_pos rfl, if_pos hkl] at b
      obtain rfl := Option.some.inj b
      rw [List.length_set]
      exact h.le _ _ _ a hc
    · rw [if_neg ej] at b
      exact h.le _ _ _ a b
  · intro j l' es' i' p' e a b d f
    simp only [List.getElem?_set] at b
    by_cases ej : k = j
    · subst ej
      rw [if_pos rfl, if_pos hkl] at b
      obtain rfl := Option.some.inj b
      rw [hk] at a
      obtain rfl := Option.some.inj a
      rw [List.getElem?_set] at f
      by_cases ei : i = i'
      · subst ei
        rw [hi] at d
        obtain rfl := Option.some.inj d
        have : i < es.length := by
          rw [h.le _ _ _ hk hc]; exact (List.getElem?_eq_some_iff.1 hi).1
        rw [if_pos rfl, if_pos this] at f
        obtain rfl := Option.some.inj f
        exact hp
      · rw [if_neg ei] at f
        have h7 := h.ent _ _ _ _ _ _ hk hc d f
        refine (hg.block _ (blk_lt h7) (fun e' => ei ?_)).trans h7
        obtain rfl := Option.some.inj e'
        exact (h.inj _ _ _ _ _ _ _ hk hi hk d).2
    · rw [if_neg ej] at b
      have h7 := h.ent _ _ _ _ _ _ a b d f
      refine (hg.block _ (blk_lt h7) (fun e' => ej ?_)).trans h7
      obtain rfl := Option.some.inj e'
      exact (h.inj _ _ _ _ _ _ _ hk hi a d).1
/-- a hole in the place of a row -/
theorem Sys.open (h : Sys c bs bm bc base none sv vv ps A w) (k : Nat) : Sys c bs bm bc base (some k) sv vv ps A w :=
  { h with row := fun j v l a b _ => h.row j v l a b (by simp), apt := fun j k u v a b d _ _ => h.apt j k u v a b d (by simp) (by simp) }
/-- a row is put in -/
theorem Sys.close {k : Nat} (h : Sys c bs bm bc base (some k) sv vv ps A w) (hk : k < ps.length) {v : Value} {l : List Nat} {es : List En} (ho : Own encQ 1 100 w base v l) (ha : ∀ (j : Nat) (u : Value), sv[j]? = some u → j ≠ k → Apt v u) (hle : es.length = l.length)
    (hent : ∀ (i p : Nat) (e : En), l[i]? = some p → es[i]? = some e → w.heap[p]? = some (.cells e.cells 115 (0, 0))) (hnd : l.Nodup) (hap : ∀ (j : Nat) (l' : List Nat) (p : Nat), j ≠ k → ps[j]? = some l' → p ∈ l → p ∉ l') (hbp : ∀ p ∈ l, base ≤ p) :
    Sys c bs bm bc base none (sv.set k v) vv (ps.set k l) { A with cs := A.cs.set k es } (w.setCell ⟨bc, k, none⟩ v) ∧ w.grownBy (w.setCell ⟨bc, k, none⟩ v) (some bc) := by
  have hg := grownBy_set w bc k v
  refine ⟨?_, hg⟩
  have key : ∀ {b : Nat} {cs' : Array Value} {t' : TypeId}, w.heap[b]? = some (.cells cs' t' (0, 0)) → t' ≠ 99 → (w.setCell ⟨bc, k, none⟩ v).heap[b]? = some (.cells cs' t' (0, 0)) := fun {b cs' t'} hb e => by
    refine (hg.block _ (blk_lt hb) (fun e' => e ?_)).trans hb
    obtain rfl := Option.some.inj e'
    rw [h.tab] at hb
    simp at hb
    exact hb.2.symm
  have keyO : ∀ {α : Type} {enc : α → List Value} {t : TypeId} {v' : Value} {xs : List α}, Own enc 1 t w base v' xs → t ≠ 99 → Own enc 1 t (w.setCell ⟨bc, k, none⟩ v) base v' xs := fun {α enc t v' xs} ho e => by
    refine ho.grown hg (Or.inr (fun e' => e ?_))
    obtain ⟨_, _, cur, hc⟩ := ho.blk bc e'
    rw [h.tab] at hc
    simp at hc
    exact hc.2.symm
  have hks : k < sv.length := by rw [h.ls]; exact hk
  have hkc : k < A.cs.length := by rw [h.lc]; exact hk
  refine ⟨?_, key h.mem (by decide), ?_, by simpa using h.ls, by simpa using h.lc, ?_, ?_, ?_, ?_, keyO h.val (by decide), h.vap, ?_, ?_, h.bs_, h.bm_, h.bc_⟩
  · have := key h.top (by decide)
    rw [List.length_set]
    exact this
  · rw [heap_setCell_same w bc k _ 99 _ h.tab]
    simp
  · intro j u l' a b _
    rw [List.getElem?_set] at a b
    by_cases e : k = j
    · subst e
      rw [if_pos rfl, if_pos hks] at a
      rw [if_pos rfl, if_pos hk] at b
      obtain rfl := Option.some.inj a
      obtain rfl := Option.some.inj b
      exact keyO ho (by decide)
    · rw [if_neg e] at a b
      exact keyO (h.row j u l' a b (fun e' => e (Option.some.inj e').symm)) (by decide)
  · intro i j u u' a b d _ _
    rw [List.getElem?_set] at a b
    by_cases e : k = i
    · subst e
      rw [if_pos rfl, if_pos hks] at a
      obtain rfl := Option.some.inj a
      rw [if_neg d] at b
      exact ha j u' b (fun e => d e.symm)
    · rw [if_neg e] at a
      by_cases e2 : k = j
      · subst e2
        rw [if_pos rfl, if_pos hks] at b
        obtain rfl := Option.some.inj b
        exact (ha i u a d).symm
      · rw [if_neg e2] at b
        exact h.apt i j u u' a b d (fun e' => e (Option.some.inj e').symm) (fun e' => e2 (Option.some.inj e').symm)
  · intro j l' es' a b
    simp only [List.getElem?_set] at a b
    by_cases e : k = j
    · subst e
      rw [if_pos rfl, if_pos hk] at a
      rw [if_pos rfl, if_pos hkc] at b
      obtain rfl := Option.some.inj a
      obtain rfl := Option.some.inj b
      exact hle
    · rw [if_neg e] at a b
      exact h.le j l' es' a b
  · intro j l' es' i p e a b d f
    simp only [List.getElem?_set] at a b
    by_cases e2 : k = j
    · subst e2
      rw [if_pos rfl, if_pos hk] at a
      rw [if_pos rfl, if_pos hkc] at b
      obtain rfl := Option.some.inj a
      obtain rfl := Option.some.inj b
      exact key (hent i p e d f) (by decide)
    · rw [if_neg e2] at a b
      exact key (h.ent j l' es' i p e a b d f) (by decide)
  · intro i l1 x j l2 y p a b d f
    rw [List.getElem?_set] at a d
    by_cases e : k = i
    · subst e
      rw [if_pos rfl, if_pos hk] at a
      obtain rfl := Option.some.inj a
      by_cases e2 : k = j
      · subst e2
        rw [if_pos rfl, if_pos hk] at d
        obtain rfl := Option.some.inj d
        have h1 := List.getElem?_eq_some_iff.1 b
        have h2 := List.getElem?_eq_some_iff.1 f
        exact ⟨rfl, (List.getElem_inj hnd).1 (h1.2.trans h2.2.symm)⟩
      · rw [if_neg e2] at d
        exact absurd (List.mem_of_getElem? f) (hap j l2 p (fun e => e2 e.symm) d (List.mem_of_getElem? b))
    · rw [if_neg e] at a
      by_cases e2 : k = j
      · subst e2
        rw [if_pos rfl, if_pos hk] at d
        obtain rfl := Option.some.inj d
        exact absurd (List.mem_of_getElem? b) (hap i l1 p (fun e' => e e'.symm) a (List.mem_of_getElem? f))
      · rw [if_neg e2] at d
        exact h.inj _ _ _ _ _ _ _ a b d f
  · intro j l' p a b
    rw [List.getElem?_set] at a
    by_cases e : k = j
    · subst e
      rw [if_pos rfl, if_pos hk] at a
      obtain rfl := Option.some.inj a
      exact hbp p b
    · rw [if_neg e] at a
      exact h.bp j l' p a b
/-- behind the append of a value and the store of the longer slice -/
theorem Sys.tell (h : Sys c bs bm bc base none sv vv ps A w) {g cap n : Nat} {xs : List Int} (ho : Own encI 1 3 w' base (.slice (some ⟨g, 0, none⟩) n cap) (A.vs ++ xs)) (hg : w.grownBy w' vv.ownBlock) (hl : vv.ownBlock = some g ∨ w.heap.size ≤ g) :
    Sys c bs bm bc base none sv (.slice (some ⟨g, 0, none⟩) n cap) ps { A with vs := A.vs ++ xs } (w'.setCell ⟨bs, 9, none⟩ (.slice (some ⟨g, 0, none⟩) n cap)) ∧ w'.grownBy (w'.setCell ⟨bs, 9, none⟩ (.slice (some ⟨g, 0, none⟩) n cap)) (some bs) := by
  have hs := grownBy_set w' bs 9 (.slice (some ⟨g, 0, none⟩) n cap)
  refine ⟨?_, hs⟩
  have key1 : ∀ {b : Nat} {cs' : Array Value} {t' : TypeId}, w.heap[b]? = some (.cells cs' t' (0, 0)) → (t' ≠ 3 ∨ b = bm) → w'.heap[b]? = some (.cells cs' t' (0, 0)) := fun {b cs' t'} hb e => by
    refine (hg.block _ (blk_lt hb) (fun e' => ?_)).trans hb
    rcases e with e | rfl
    · obtain ⟨_, _, cur, hc⟩ := h.val.blk b e'.symm
      rw [hb] at hc
      simp at hc
      exact e hc.2
    · exact h.vap e'.symm
  have top1 := key1 h.top (Or.inl (by decide))
  have key : ∀ {b : Nat} {cs' : Array Value} {t' : TypeId}, w.heap[b]? = some (.cells cs' t' (0, 0)) → (t' ≠ 3 ∨ b = bm) → t' ≠ 71 → (w'.setCell ⟨bs, 9, none⟩ (.slice (some ⟨g, 0, none⟩) n cap)).heap[b]? = some (.cells cs' t' (0, 0)) := fun {b cs' t'} hb e e2 => by
    have h1 := key1 hb e
    refine (hs.block _ (blk_lt h1) (fun e' => e2 ?_)).trans h1
    obtain rfl := Option.some.inj e'
    rw [top1] at h1
    simp at h1
    exact h1.2.symm
  have keyO : ∀ {v' : Value} {xs : List Nat}, Own encQ 1 100 w base v' xs → Own encQ 1 100 (w'.setCell ⟨bs, 9, none⟩ (.slice (some ⟨g, 0, none⟩) n cap)) base v' xs := fun {v' xs} ho' => by
    have h1 : Own encQ 1 100 w' base v' xs := by
      refine ho'.grown hg ?_
      cases hv : v'.ownBlock with
      | none => exact Or.inl rfl
      | some x =>
        refine Or.inr (fun e' => ?_)
        obtain ⟨_, _, cur, hc⟩ := ho'.blk x hv
        obtain ⟨_, _, cur2, hc2⟩ := h.val.blk x e'.symm
        rw [hc] at hc2
        simp at hc2
    refine h1.grown hs (Or.inr (fun e' => ?_))
    obtain ⟨_, _, cur, hc⟩ := h1.blk bs e'
    rw [top1] at hc
    simp at hc
  refine ⟨?_, key h.mem (Or.inr rfl) (by decide), key h.tab (Or.inl (by decide)) (by decide), h.ls, h.lc, fun k v l a b d => keyO (h.row k v l a b d), h.apt, h.le, fun k l es i p e a b d f => key (h.ent k l es i p e a b d f) (Or.inl (by decide)) (by decide), ?_, ?_, h.inj, h.bp, h.bs_, h.bm_, h.bc_⟩
  · rw [heap_setCell_same w' bs 9 _ 71 _ top1]
    rfl
  · refine ho.grown hs (Or.inr (fun e' => ?_))
    obtain ⟨_, _, cur, hc⟩ := ho.blk bs e'
    rw [top1] at hc
    simp at hc
  · intro e
    have e : g = bm := by simpa [Value.ownBlock] using e
    subst e
    rcases hl with hl | hl
    · exact h.vap hl
    · have := blk_lt h.mem
      omega
end
end Go.Proofs.Ytggidakiflnhhaa
