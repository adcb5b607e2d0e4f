import Derived.RangeFuncNested
import Derived.RangeFuncKeeps
import Derived.RangeFuncCalls
import Derived.Test.YthpcipfloofbcaaK
namespace Go.Proofs.Ythpcipfloofbcaa
open Go.RowKit
set_option linter.unusedSimpArgs false
set_option linter.unusedVariables false

/-- every block of cells lies as it lay, but those of 'it'; whatever lies below n0 too -/
structure Kx (n0 : Nat) (it : Nat → Prop) (W W' : World) : Prop where
  os : W'.os = W.os
  tape : W'.tape = W.tape
  output : W'.output = W.output
  size : W.heap.size ≤ W'.heap.size
  low : ∀ i, i < n0 → W'.heap[i]? = W.heap[i]?
  same : ∀ i o, W.heap[i]? = some o → o.isCells = true → ¬ it i → W'.heap[i]? = some o
theorem Kx.refl (n0 : Nat) (it : Nat → Prop) (W : World) : Kx n0 it W W := ⟨rfl, rfl, rfl, Nat.le_refl _, fun _ _ => rfl, fun _ _ h _ _ => h⟩
theorem Kx.trans {n0 : Nat} {it : Nat → Prop} {A B C : World} (h : Kx n0 it A B) (k : Kx n0 it B C) : Kx n0 it A C :=
  ⟨k.os.trans h.os, k.tape.trans h.tape, k.output.trans h.output, Nat.le_trans h.size k.size, fun i hi => (k.low i hi).trans (h.low i hi), fun i o hi ho hn => k.same i o (h.same i o hi ho hn) ho hn⟩
theorem Kx.weaken {n0 : Nat} {it it' : Nat → Prop} {A B : World} (h : Kx n0 it A B) (hi : ∀ i, it i → it' i) : Kx n0 it' A B := ⟨h.os, h.tape, h.output, h.size, h.low, fun i o a b c => h.same i o a b (fun d => c (hi i d))⟩
theorem Kx.putObj {n0 : Nat} (W : World) {l : Nat} {o o' : Obj} (h : W.heap[l]? = some o) (ho : o.isCells = false) (hl : n0 ≤ l) : Kx n0 (fun _ => False) W (W.putObj l o') := by
  have hlt := (Array.getElem?_eq_some_iff.1 h).1
  refine ⟨rfl, rfl, rfl, by simp [World.putObj], fun i hi => World.putObj_heap_other (by omega), fun i q hi hq _ => (World.putObj_heap_other ?_).trans hi⟩
  rintro rfl
  rw [h] at hi
  cases hi
  rw [ho] at hq
  exact Bool.noConfusion hq
theorem Kx.alloc {n0 : Nat} {it : Nat → Prop} (W : World) (o : Obj) (hn : n0 ≤ W.heap.size) : Kx n0 it W (W.alloc o) :=
  ⟨rfl, rfl, rfl, by simp, fun i hi => Below.heap_alloc _ _ _ (by omega), fun i q hi _ _ => (Below.heap_alloc _ _ _ (Array.getElem?_eq_some_iff.1 hi).1).trans hi⟩
theorem Kx.setCell {n0 : Nat} {it : Nat → Prop} (W : World) (p : Addr) (v : Value) (hn : n0 ≤ p.block) (hp : it p.block) : Kx n0 it W (W.setCell p v) :=
  ⟨rfl, rfl, rfl, by simp [World.setCell], fun i hi => Below.heap_setCell _ _ _ _ (by omega), fun i q hi _ hq => (Below.heap_setCell _ _ _ _ (fun e => hq (by rw [e]; exact hp))).trans hi⟩
theorem Kx.drew {n0 : Nat} {it : Nat → Prop} (W : World) : Kx n0 it W W.drew := ⟨rfl, rfl, rfl, Nat.le_refl _, fun _ _ => rfl, fun _ _ h _ _ => h⟩
theorem Kx.of {n0 : Nat} {it : Nat → Prop} {W W' : World} (h : Below W.heap.size W W') (hn : n0 ≤ W.heap.size) : Kx n0 it W W' :=
  ⟨h.os, h.tape, h.output, h.size, fun i hi => h.block i (by omega), fun i q hi _ _ => (h.block i (Array.getElem?_eq_some_iff.1 hi).1).trans hi⟩

variable {F : Fence} {n : Nat} {P : Program}

def roundPostX {α : Type} (n0 : Nat) (bd : Nat → Prop) (I : List α → World → Prop) (xs : List α) (W : World) : Exit → Act → World → Prop
  | .normal, _, W' => KeepsOthers W W' ∧ Kx n0 bd W W' ∧ I xs W'
  | _, _, _ => False

theorem range_own {α : Type} {g : Operand} {ps : Array Tmp} {assign body : Code} {Q : Exit → Act → World → Prop} {a : Act} {w : World}
    (hro : F.round = none) (h1 : 1 ≤ n) {gf : Nat} {lb : Array Value} (hg : a.eval g = .func (.func gf) #[] lb) (hFg : F.fn gf) (eg : ∀ args w, (callFunc gf args).run P w = .ok (.enter gf args) w)
    {encs : α → Array Value} (hps : ∀ x, (encs x).size = ps.size) (n0 : Nat) (hn0 : n0 ≤ w.heap.size) (bd : Nat → Prop)
    (I : List α → World → Prop) (Pre : List α → α → World → Prop) (S : List α → Prop) (hI : ∀ s W W', Kx n0 (fun _ => False) W W' → I s W → I s W') (hP : ∀ s x W W', Kx n0 (fun _ => False) W W' → Pre s x W → Pre s x W') (h0 : I [] w)
    (Ax : List α → α → Act → World → Prop) (hAx : ∀ s x a' W W', Kx n0 (fun _ => False) W W' → Ax s x a' W → Ax s x a' W')
    (hseq : ∀ (l : Nat) (B : World → Prop) (W : World), Kx n0 (fun _ => False) w W → I [] W → B W → (∀ A C, KeepsOthers A C → B A → B C) →
      (∀ pre x W1, I pre W1 → B W1 → Pre pre x W1 → YieldAt F (n - 1 - 1) P l (encs x) W1 fun e W' => e = .returned (.bool true) ∧ I (pre ++ [x]) W' ∧ B W' ∧ Kx n0 bd W1 W') →
      CallsIn F (n - 1) P gf (#[.func (.yield l) #[] #[]] ++ lb) W fun e W' => (∃ v, e = .returned v) ∧ ∃ xs, S xs ∧ I xs W' ∧ B W')
    (hassign : ∀ (l : Nat) (pre : List α) (x : α) (W : World) (K : Act → World → Prop), I pre W → Pre pre x W → (∀ a' W', KeepsOthers W W' → Kx n0 bd W W' → Ax pre x a' W' → K a' W') →
      assign.wpIn (F.inRound l) (n - 1 - 1) P (Exit.then K (fun _ _ _ => False)) { tmps := (ps.zip (encs x)).foldl (fun t (p, v) => t.setIfInBounds p v) a.tmps, defers := [] } W)
    (hbody : ∀ (l : Nat) (pre : List α) (x : α) (a' : Act) (W : World), Ax pre x a' W → body.wpIn (F.inRound l) (n - 1 - 1) P (roundPostX n0 bd I (pre ++ [x]) W) a' W)
    (hdone : ∀ (D : Nat) (xs : List α) (W : World), n0 ≤ D → S xs → I xs W → W.heap[D]? = some (.deferred (some [])) → Q .normal { a with defers := { target := .collected D, args := #[] } :: a.defers } W) :
    (Code.rangeFunc g ps assign body).wpIn F n P Q a w := by
  refine wpIn_rangeFunc ?_
  intro fn hfn
  rw [hro]
  obtain ⟨rec, hrec⟩ : ∃ rec : LoopState → Option Code → Loop, rec = fun st pe => { state := st, pending := pe, fn, tmps := a.tmps, params := ps, assign, body, defers := w.heap.size } := ⟨_, rfl⟩
  obtain ⟨W1, hW1⟩ : ∃ W1, (w.alloc (.deferred (some []))).alloc (.loop (rec .ready none)) = W1 := ⟨_, rfl⟩
  have hL1 : W1.heap[w.heap.size + 1]? = some (.loop (rec .ready none)) := by
    rw [← hW1]; have := World.alloc_heap_new (w.alloc (.deferred (some []))) (.loop (rec .ready none)); rwa [World.size_alloc] at this
  have hK1 : W1.heap[w.heap.size]? = some (.deferred (some [])) := by
    rw [← hW1]; exact (Below.heap_alloc _ _ _ (by simp)).trans (World.alloc_heap_new w _)
  have hk1 : Kx n0 (fun _ => False) w W1 := by
    rw [← hW1]; exact (Kx.alloc w _ hn0).trans (Kx.alloc _ _ (by simp; omega))
  refine ⟨w.heap.size + 1, [{ target := .collected w.heap.size, args := #[] }], W1, { target := .fn (.func gf) lb, args := #[.func (.yield (w.heap.size + 1)) #[] #[]] }, W1, gf,
    #[.func (.yield (w.heap.size + 1)) #[] #[]] ++ lb, W1, ?_, ?_, ?_, ?_, fun _ => h1, ?_⟩
  · rw [← hW1, hrec]; exact run_enterLoop_outer _ _ _ _ _
  · simp only [resolve, hg]
    simp [go_sem]
  · intro f' hf'; simp [Target.leads] at hf'; subst hf'; exact hFg
  · simp [invoke, go_sem, eg]
  · refine (hseq (w.heap.size + 1) (fun W => W.heap[w.heap.size + 1]? = some (.loop (rec .ready none)) ∧ W.heap[w.heap.size]? = some (.deferred (some []))) W1 hk1 (hI _ _ _ hk1 h0) ⟨hL1, hK1⟩
      (fun A C hk hb => ⟨hk.same _ _ hb.1 rfl, hk.same _ _ hb.2 rfl⟩) ?_).mono ?_
    · rintro pre x W hi ⟨hl, hk⟩ hpre
      have hlt : w.heap.size + 1 < W.heap.size := (Array.getElem?_eq_some_iff.1 hl).1
      have hy := run_yield (P := P) (args := encs x) hl (by rw [hrec]; exact hps x)
      rw [hrec] at hy
      refine ⟨fn, _, assign, body, hy, roundIn_of_wpIn hfn (hassign _ pre x W _ hi hpre (fun a' W2 hk2 hx2 hax => ?_))⟩
      have hl2 := hk2.same _ _ hl rfl
      have hd2 := hk2.same _ _ hk rfl
      have hlt2 : w.heap.size + 1 < W2.heap.size := (Array.getElem?_eq_some_iff.1 hl2).1
      refine ⟨_, run_beginRound hl2 (by rw [hrec]), ?_⟩
      have hl3 : (W2.putObj (w.heap.size + 1) (.loop { rec .ready none with state := .busy })).heap[w.heap.size + 1]? = some (.loop { rec .ready none with state := .busy }) := World.putObj_heap_same hlt2
      have hd3 : (W2.putObj (w.heap.size + 1) (.loop { rec .ready none with state := .busy })).heap[w.heap.size]? = some (.deferred (some [])) := (World.putObj_heap_other (by omega)).trans hd2
      have hx3 : Kx n0 (fun _ => False) W2 (W2.putObj (w.heap.size + 1) (.loop { rec .ready none with state := .busy })) := Kx.putObj W2 hl2 rfl (by omega)
      refine wpIn_mono (hbody _ pre x a' _ (hAx _ _ _ _ _ hx3 hax)) ?_
      rintro e a3 W4 hp
      cases e with
      | normal =>
        obtain ⟨hk4, hx4, hi4⟩ := hp
        have hl4 := hk4.same _ _ hl3 rfl
        have hd4 := hk4.same _ _ hd3 rfl
        have hlt4 := (Array.getElem?_eq_some_iff.1 hl4).1
        have he := run_endRound (P := P) none hl4
        have hx5 : Kx n0 (fun _ => False) W4 (W4.putObj (w.heap.size + 1) (.loop (rec .ready none))) := Kx.putObj W4 hl4 rfl (by omega)
        rw [hrec] at he
        refine ⟨.bool true, W4.putObj (w.heap.size + 1) (.loop (rec .ready none)), ?_, rfl, hI _ _ _ hx5 hi4, ⟨World.putObj_heap_same hlt4, (World.putObj_heap_other (by omega)).trans hd4⟩, ?_⟩
        · rw [hrec]; exact he
        · exact (hx2.trans (hx3.weaken (fun _ h => h.elim))).trans (hx4.trans (hx5.weaken (fun _ h => h.elim)))
      | _ => exact hp.elim
    · rintro e W2 ⟨⟨v, rfl⟩, xs, hS, hi, hl, hk⟩
      refine ⟨none, _, by have := run_endLoop (P := P) hl (by rw [hrec]; simp); rw [hrec] at this; exact this, hdone _ xs _ hn0 hS (hI _ _ _ (Kx.putObj W2 hl rfl (by omega)) hi) ((World.putObj_heap_other (by omega)).trans hk)⟩
end Go.Proofs.Ythpcipfloofbcaa
