import Derived.Test.YthpcipfloofbcaaK
import Derived.Deep.RegionWith
import Derived.Deep.RegionHeld3
import Derived.Deep.DeepCutAuto
import Derived.Deep.Onto
namespace Go.Proofs.Ythpcipfloofbcaa
open Go.RowKit
set_option maxHeartbeats 1000000
set_option maxRecDepth 100000
set_option linter.unusedSimpArgs false
set_option linter.unusedVariables false
attribute [local irreducible] wpStill

abbrev Mov.v (m : Mov) : Value := .agg #[.int .i64 m.k, .int .i64 m.a, .int .i64 m.b]
def moveF (s : St) (m : Mov) : Except Int St := if m.k = 1 then sendF s m else if m.k = 2 then idleF s m else if m.k = 3 then arriveF s m else askF s
def stepF (s : St) (m : Mov) : St × Int := if checkF s = 0 then (if 1 ≤ m.k ∧ m.k ≤ 4 then (match moveF s m with | .ok s' => (s', 0) | .error k => (St.zero, k)) else (St.zero, 1)) else (St.zero, checkF s)
/-- the four boxes of Step -/
structure Four (W : World) (n : Nat) (s : St) (A : Option Addr) (c : Nat) (B : Option Addr) (d : Nat) (m : Mov) (C : Array Value) (k : Int) : Prop where
  b0 : W.heap[n]? = some (.cells (cellsS s (.slice A s.ms.length c) (.slice B s.fl.length d)) 27 (0, 0))
  b1 : W.heap[n + 1]? = some (.cells #[.int .i64 m.k, .int .i64 m.a, .int .i64 m.b] 34 (0, 0))
  b2 : W.heap[n + 1 + 1]? = some (.cells C 27 (0, 0))
  b3 : W.heap[n + 1 + 1 + 1]? = some (.cells #[.int .i64 k] 28 (0, 0))
theorem Four.new (w : World) (s : St) (A : Option Addr) (c : Nat) (B : Option Addr) (d : Nat) (m : Mov) :
    Four ((((w.alloc (.cells (cellsS s (.slice A s.ms.length c) (.slice B s.fl.length d)) 27)).alloc (.cells #[.int .i64 m.k, .int .i64 m.a, .int .i64 m.b] 34)).alloc (.cells zeroS 27)).alloc (.cells #[.int .i64 0] 28)) w.heap.size s A c B d m zeroS 0 := by
  constructor
  · rw [Below.heap_alloc _ _ _ (by simp; omega), Below.heap_alloc _ _ _ (by simp; omega), Below.heap_alloc _ _ _ (by simp)]
    exact heap_alloc_new w _
  · rw [Below.heap_alloc _ _ _ (by simp), Below.heap_alloc _ _ _ (by simp)]
    have := heap_alloc_new (w.alloc (.cells (cellsS s (.slice A s.ms.length c) (.slice B s.fl.length d)) 27)) (.cells #[.int .i64 m.k, .int .i64 m.a, .int .i64 m.b] 34)
    simpa using this
  · rw [Below.heap_alloc _ _ _ (by simp)]
    have := heap_alloc_new ((w.alloc (.cells (cellsS s (.slice A s.ms.length c) (.slice B s.fl.length d)) 27)).alloc (.cells #[.int .i64 m.k, .int .i64 m.a, .int .i64 m.b] 34)) (.cells zeroS 27)
    simpa using this
  · have := heap_alloc_new (((w.alloc (.cells (cellsS s (.slice A s.ms.length c) (.slice B s.fl.length d)) 27)).alloc (.cells #[.int .i64 m.k, .int .i64 m.a, .int .i64 m.b] 34)).alloc (.cells zeroS 27)) (.cells #[.int .i64 0] 28)
    simpa using this
theorem Four.below {W W' : World} {n : Nat} {s : St} {A : Option Addr} {c : Nat} {B : Option Addr} {d : Nat} {m : Mov} {C : Array Value} {k : Int} (h : Four W n s A c B d m C k) (hb : Below W.heap.size W W') : Four W' n s A c B d m C k :=
  have q : ∀ i o, W.heap[i]? = some o → W'.heap[i]? = some o := fun i o hi => (hb.block i (Array.getElem?_eq_some_iff.1 hi).1).trans hi
  ⟨q _ _ h.b0, q _ _ h.b1, q _ _ h.b2, q _ _ h.b3⟩

theorem step_results (tmps : Array Value) (X : World) (bo be : Nat) (r : St) (Mv Fv : Value) (k : Int) (h4 : tmps[4]?.getD undef = .pointer (some ⟨bo, 0, none⟩)) (h5 : tmps[5]?.getD undef = .pointer (some ⟨be, 0, none⟩))
    (hb : X.heap[bo]? = some (.cells (cellsS r Mv Fv) 27 (0, 0))) (he : X.heap[be]? = some (.cells #[.int .i64 k] 28 (0, 0))) :
    (results Try.f10 tmps).run Try.prog X = .ok (.tuple #[.agg (cellsS r Mv Fv), .int .i64 k]) X := by
  have hz := fun j => cell_of_row _ bo j _ _ _ hb
  have z0 := hz 0
  have z1 := hz 1
  have z2 := hz 2
  have z3 := hz 3
  have z4 := hz 4
  have z5 := hz 5
  have z6 := hz 6
  have z7 := hz 7
  have z8 := hz 8
  simp [cellsS] at z0 z1 z2 z3 z4 z5 z6 z7 z8
  have hy := cell_of_row _ be 0 _ _ _ he
  simp at hy
  simp [results, Try.results10, go_sem, h4, h5, z0, z1, z2, z3, z4, z5, z6, z7, z8, hy]


theorem fail_end {w w1 : World} {n : Nat} {s : St} {A : Option Addr} {c : Nat} {B : Option Addr} {d : Nat} {m : Mov} (h : Four w1 n s A c B d m zeroS 0) (hn : n = w.heap.size) (hb : Below w.heap.size w w1) (k : Int) (tmps : Array Value)
    (h4 : tmps[4]?.getD undef = .pointer (some ⟨n + 1 + 1, 0, none⟩)) (h5 : tmps[5]?.getD undef = .pointer (some ⟨n + 1 + 1 + 1, 0, none⟩)) :
    ∃ v, (results Try.f10 tmps).run Try.prog ((((((((((w1.setCell ⟨n + 1 + 1, 0, none⟩ (.slice none 0 0)).setCell ⟨n + 1 + 1, 1, none⟩ (.slice none 0 0)).setCell ⟨n + 1 + 1, 2, none⟩ (.int .i64 0)).setCell ⟨n + 1 + 1, 3, none⟩ (.int .i64 0)).setCell ⟨n + 1 + 1, 4, none⟩ (.int .i64 0)).setCell ⟨n + 1 + 1, 5, none⟩ (.int .i64 0)).setCell ⟨n + 1 + 1, 6, none⟩ (.int .i64 0)).setCell ⟨n + 1 + 1, 7, none⟩ (.int .i64 0)).setCell ⟨n + 1 + 1, 8, none⟩ (.bool false)).setCell ⟨n + 1 + 1 + 1, 0, none⟩ (.int .i64 k)) = .ok v ((((((((((w1.setCell ⟨n + 1 + 1, 0, none⟩ (.slice none 0 0)).setCell ⟨n + 1 + 1, 1, none⟩ (.slice none 0 0)).setCell ⟨n + 1 + 1, 2, none⟩ (.int .i64 0)).setCell ⟨n + 1 + 1, 3, none⟩ (.int .i64 0)).setCell ⟨n + 1 + 1, 4, none⟩ (.int .i64 0)).setCell ⟨n + 1 + 1, 5, none⟩ (.int .i64 0)).setCell ⟨n + 1 + 1, 6, none⟩ (.int .i64 0)).setCell ⟨n + 1 + 1, 7, none⟩ (.int .i64 0)).setCell ⟨n + 1 + 1, 8, none⟩ (.bool false)).setCell ⟨n + 1 + 1 + 1, 0, none⟩ (.int .i64 k)) ∧ SPost w (St.zero, k) (.returned v) ((((((((((w1.setCell ⟨n + 1 + 1, 0, none⟩ (.slice none 0 0)).setCell ⟨n + 1 + 1, 1, none⟩ (.slice none 0 0)).setCell ⟨n + 1 + 1, 2, none⟩ (.int .i64 0)).setCell ⟨n + 1 + 1, 3, none⟩ (.int .i64 0)).setCell ⟨n + 1 + 1, 4, none⟩ (.int .i64 0)).setCell ⟨n + 1 + 1, 5, none⟩ (.int .i64 0)).setCell ⟨n + 1 + 1, 6, none⟩ (.int .i64 0)).setCell ⟨n + 1 + 1, 7, none⟩ (.int .i64 0)).setCell ⟨n + 1 + 1, 8, none⟩ (.bool false)).setCell ⟨n + 1 + 1 + 1, 0, none⟩ (.int .i64 k)) := by
  obtain ⟨X, hX⟩ : ∃ X, (((((((((w1.setCell ⟨n + 1 + 1, 0, none⟩ (.slice none 0 0)).setCell ⟨n + 1 + 1, 1, none⟩ (.slice none 0 0)).setCell ⟨n + 1 + 1, 2, none⟩ (.int .i64 0)).setCell ⟨n + 1 + 1, 3, none⟩ (.int .i64 0)).setCell ⟨n + 1 + 1, 4, none⟩ (.int .i64 0)).setCell ⟨n + 1 + 1, 5, none⟩ (.int .i64 0)).setCell ⟨n + 1 + 1, 6, none⟩ (.int .i64 0)).setCell ⟨n + 1 + 1, 7, none⟩ (.int .i64 0)).setCell ⟨n + 1 + 1, 8, none⟩ (.bool false)) = X := ⟨_, rfl⟩
  have x1 := wiped (s := St.zero) (Mv := .slice none 0 0) (Fv := .slice none 0 0) (w := w1) h.b2
  have x2 := wiped_other (w := w1) (bo := n + 1 + 1)
  have x4 : Below w.heap.size w1 (((((((((w1.setCell ⟨n + 1 + 1, 0, none⟩ (.slice none 0 0)).setCell ⟨n + 1 + 1, 1, none⟩ (.slice none 0 0)).setCell ⟨n + 1 + 1, 2, none⟩ (.int .i64 0)).setCell ⟨n + 1 + 1, 3, none⟩ (.int .i64 0)).setCell ⟨n + 1 + 1, 4, none⟩ (.int .i64 0)).setCell ⟨n + 1 + 1, 5, none⟩ (.int .i64 0)).setCell ⟨n + 1 + 1, 6, none⟩ (.int .i64 0)).setCell ⟨n + 1 + 1, 7, none⟩ (.int .i64 0)).setCell ⟨n + 1 + 1, 8, none⟩ (.bool false)) := (((((((((Below.refl _ w1).setCell (p := ⟨n + 1 + 1, 0, none⟩) (by simp; omega) _).setCell (p := ⟨n + 1 + 1, 1, none⟩) (by simp; omega) _).setCell (p := ⟨n + 1 + 1, 2, none⟩) (by simp; omega) _).setCell (p := ⟨n + 1 + 1, 3, none⟩) (by simp; omega) _).setCell (p := ⟨n + 1 + 1, 4, none⟩) (by simp; omega) _).setCell (p := ⟨n + 1 + 1, 5, none⟩) (by simp; omega) _).setCell (p := ⟨n + 1 + 1, 6, none⟩) (by simp; omega) _).setCell (p := ⟨n + 1 + 1, 7, none⟩) (by simp; omega) _).setCell (p := ⟨n + 1 + 1, 8, none⟩) (by simp; omega) _
  rw [hX] at x1 x2 x4 ⊢
  clear hX
  have e1 : (X.setCell ⟨n + 1 + 1 + 1, 0, none⟩ (.int .i64 k)).heap[n + 1 + 1]? = some (.cells (cellsS St.zero (.slice none 0 0) (.slice none 0 0)) 27 (0, 0)) := by
    rw [heap_setCell_other _ ⟨n + 1 + 1 + 1, 0, none⟩ _ _ (by simp)]; exact x1
  have e2 : (X.setCell ⟨n + 1 + 1 + 1, 0, none⟩ (.int .i64 k)).heap[n + 1 + 1 + 1]? = some (.cells #[.int .i64 k] 28 (0, 0)) := by
    rw [heap_setCell_same X _ 0 _ _ _ ((x2 _ (by omega)).trans h.b3)]; rfl
  exact ⟨_, step_results tmps _ _ _ St.zero _ _ k h4 h5 e1 e2, _, _, _, _, rfl, RdS.zero _, hb.trans (x4.setCell (by simp; omega) _), Fresh.none _, Fresh.none _⟩


theorem Own.rest {α : Type} {enc : α → List Value} {sz : Nat} {e : TypeId} {w w' : World} {base : Nat} {v : Value} {xs : List α} (h : Own enc sz e w base v xs) (hb : Below w.heap.size w w') : Own enc sz e w' base v xs :=
  h.grown (row := none) ⟨hb.os, hb.tape, hb.output, hb.size, fun k hk _ => hb.block k hk⟩ (by cases v.ownBlock <;> simp)

/-- a state's two slices have been cloned and laid into its box -/
theorem cloned {X w2 w3 : World} {bo : Nat} {s : St} {v1 v2 Mv Fv : Value} {base : Nat} (hbase : base ≤ X.heap.size) (h1 : Own encM 3 63 w2 X.heap.size v1 s.ms) (hb1 : Below X.heap.size X w2) (h2 : Own encI 1 3 w3 w2.heap.size v2 s.fl) (hb2 : Below w2.heap.size w2 w3)
    (hX : X.heap[bo]? = some (.cells (cellsS s Mv Fv) 27 (0, 0))) (hne : 0 < s.ms.length) :
    ∃ g c, v1 = .slice (some ⟨g, 0, none⟩) s.ms.length c ∧ MS ((w3.setCell ⟨bo, 0, none⟩ v1).setCell ⟨bo, 1, none⟩ v2) base bo s g c v2 ∧ Kp base bo X ((w3.setCell ⟨bo, 0, none⟩ v1).setCell ⟨bo, 1, none⟩ v2) := by
  obtain ⟨g, c, rfl, hg1, hg2⟩ := World.ownsRow.form h1 hne
  have hbo := (Array.getElem?_eq_some_iff.1 hX).1
  have hb3 : Below X.heap.size X w3 := hb1.trans (hb2.mono hb1.size)
  have hx3 : w3.heap[bo]? = some (.cells (cellsS s Mv Fv) 27 (0, 0)) := (hb3.block bo hbo).trans hX
  have e1 := heap_setCell_same w3 bo 0 _ _ (.slice (some ⟨g, 0, none⟩) s.ms.length c) hx3
  have e2 := heap_setCell_same _ bo 1 _ _ v2 e1
  have o1 : Own encM 3 63 w3 X.heap.size (.slice (some ⟨g, 0, none⟩) s.ms.length c) s.ms := Own.rest h1 hb2
  have r1 : w3.grownBy (w3.setCell ⟨bo, 0, none⟩ (.slice (some ⟨g, 0, none⟩) s.ms.length c)) (some bo) := ⟨rfl, rfl, rfl, by simp, fun k _ hk => heap_setCell_other w3 ⟨bo, 0, none⟩ k _ (fun e => hk (by simp [e]))⟩
  have r2 : (w3.setCell ⟨bo, 0, none⟩ (.slice (some ⟨g, 0, none⟩) s.ms.length c)).grownBy ((w3.setCell ⟨bo, 0, none⟩ (.slice (some ⟨g, 0, none⟩) s.ms.length c)).setCell ⟨bo, 1, none⟩ v2) (some bo) := ⟨rfl, rfl, rfl, by simp, fun k _ hk => heap_setCell_other _ ⟨bo, 1, none⟩ k _ (fun e => hk (by simp [e]))⟩
  have n1 : g ≠ bo := by omega
  have n2 : v2.ownBlock ≠ some bo := fun e => by have := (h2.blk bo e).1; have := hb1.size; omega
  have hs3 := hb3.size
  refine ⟨g, c, rfl, ⟨?_, .inr rfl, by simp [World.setCell]; omega, ?_, ?_⟩, ?_⟩
  · rw [e2]; simp [cellsS]
  · exact (World.ownsRow.mono ((o1.grown r1 (.inr (by simp [Value.ownBlock]; exact n1))).grown r2 (.inr (by simp [Value.ownBlock]; exact n1))) hbase)
  · exact (World.ownsRow.mono ((h2.grown r1 (.inr n2)).grown r2 (.inr n2)) (by have := hb1.size; omega))
  · exact ((Kp.of (hb3.mono hbase)).setCell (p := ⟨bo, 0, none⟩) (.inr rfl) _).setCell (p := ⟨bo, 1, none⟩) (.inr rfl) _


theorem MS.out {w4 Y : World} {base bo be : Nat} {s' : St} {g c : Nat} {Fv : Value} (h : MS w4 base bo s' g c Fv) (hbo : bo < base) (hbe : be < base) (hY : ∀ i, i ≠ bo → i ≠ be → Y.heap[i]? = w4.heap[i]?) :
    ∃ B d, Fv = .slice B s'.fl.length d ∧ RdS Y (some ⟨g, 0, none⟩) B s' ∧ base ≤ g ∧ Fresh base B := by
  obtain ⟨A, c', hv, hr⟩ := h.om.rd lenM
  simp only [Value.slice.injEq, true_and] at hv
  obtain ⟨rfl, rfl⟩ := hv
  obtain ⟨B, d, rfl, hr2⟩ := h.of.rd lenI
  have hg := (h.om.blk g rfl).1
  have hfr : Fresh base B := fun a ha => by subst ha; exact (h.of.blk a.block rfl).1
  exact ⟨B, d, rfl, ⟨hr.keep (fun a ha => by cases ha; exact hY g (by omega) (by omega)), hr2.keep (fun a ha => by have := hfr a ha; exact hY _ (by omega) (by omega))⟩, hg, hfr⟩

theorem door_err {w w4 : World} {n : Nat} (tmps : Array Value) (h4 : tmps[4]?.getD undef = .pointer (some ⟨n + 1 + 1, 0, none⟩)) (h5 : tmps[5]?.getD undef = .pointer (some ⟨n + 1 + 1 + 1, 0, none⟩))
    {s' : St} {g c : Nat} {Fv : Value} {base : Nat} (hms : MS w4 base (n + 1 + 1) s' g c Fv) (he : w4.heap[n + 1 + 1 + 1]? = some (.cells #[.int .i64 0] 28 (0, 0))) (hn : n = w.heap.size) (hlo : Below w.heap.size w w4) (k : Int) :
    Leaves Try.prog Try.f10 tmps (SPost w (St.zero, k)) [{ target := .fn (.func 29) #[.pointer (some ⟨n + 1 + 1, 0, none⟩), .pointer (some ⟨n + 1 + 1 + 1, 0, none⟩)], args := #[] }] (.panicking (leftBy k)) w4 := by
  refine leaves_cons (f := 29) (args := #[.pointer (some ⟨n + 1 + 1, 0, none⟩), .pointer (some ⟨n + 1 + 1 + 1, 0, none⟩)]) (by simp [leftBy]) rfl ?_
  refine (catch_left (n + 1 + 1) (n + 1 + 1 + 1) s' g c Fv base k 0 [] w4 hms he).mono ?_
  rintro e u w5 ⟨rfl, rfl, hR⟩
  show Leaves Try.prog Try.f10 tmps (SPost w (St.zero, k)) [] .returning w5
  obtain ⟨r1, r2, r3, r4, r5, r6, r7⟩ := hR
  refine ⟨_, step_results tmps w5 _ _ St.zero _ _ k h4 h5 r1 r2, _, _, _, _, rfl, RdS.zero _, hlo.trans ⟨r5, r6, r7, r3, fun i hi => ?_⟩, Fresh.none _, Fresh.none _⟩
  have := (Array.getElem?_eq_some_iff.1 he).1
  exact r4 i (by omega) (by omega) (by omega)

theorem door_ok {w w4 Y : World} {n : Nat} (tmps : Array Value) (h4 : tmps[4]?.getD undef = .pointer (some ⟨n + 1 + 1, 0, none⟩)) (h5 : tmps[5]?.getD undef = .pointer (some ⟨n + 1 + 1 + 1, 0, none⟩))
    {s' : St} {g c : Nat} {Fv : Value} {base : Nat} (hms : MS w4 base (n + 1 + 1) s' g c Fv) (hb1 : n + 1 + 1 < base) (hb2 : n + 1 + 1 + 1 < base) (hn : n = w.heap.size) (hlo : Below w.heap.size w w4)
    (y1 : Y.heap[n + 1 + 1]? = some (.cells (cellsS s' (.slice (some ⟨g, 0, none⟩) s'.ms.length c) Fv) 27 (0, 0))) (y2 : Y.heap[n + 1 + 1 + 1]? = some (.cells #[.int .i64 0] 28 (0, 0))) (y3 : ∀ i, i ≠ n + 1 + 1 → i ≠ n + 1 + 1 + 1 → Y.heap[i]? = w4.heap[i]?) (y4 : Below w.heap.size w4 Y) :
    Leaves Try.prog Try.f10 tmps (SPost w (s', 0)) [{ target := .fn (.func 29) #[.pointer (some ⟨n + 1 + 1, 0, none⟩), .pointer (some ⟨n + 1 + 1 + 1, 0, none⟩)], args := #[] }] .returning Y := by
  refine leaves_cons (f := 29) (args := #[.pointer (some ⟨n + 1 + 1, 0, none⟩), .pointer (some ⟨n + 1 + 1 + 1, 0, none⟩)]) (by simp) rfl ?_
  refine (catch_idle ⟨n + 1 + 1, 0, none⟩ ⟨n + 1 + 1 + 1, 0, none⟩ Y).mono ?_
  rintro e u w5 ⟨rfl, rfl, rfl⟩
  show Leaves Try.prog Try.f10 tmps (SPost w (s', 0)) [] .returning Y
  obtain ⟨B, d, rfl, hrd, hfg, hfb⟩ := hms.out hb1 hb2 y3
  exact ⟨_, step_results tmps Y _ _ s' _ _ 0 h4 h5 y1 y2, _, _, _, _, rfl, hrd, hlo.trans y4, fun a ha => by cases ha; show w.heap.size ≤ g; omega, fun a ha => by have := hfb a ha; omega⟩

theorem step_calls (s : St) (A : Option Addr) (c : Nat) (B : Option Addr) (d : Nat) (m : Mov) (w : World) (h : RdS w A B s) :
    Calls Try.prog 10 #[s.v A c B d, m.v] w (SPost w (stepF s m)) := by
  have hmf : ∀ (fn : Fn) (first cap : Array Value) (w : World), (Instr.makeFunc fn first cap).run Try.prog w = .ok (.func fn first cap) w := fun _ _ _ _ => rfl
  obtain ⟨W, hW⟩ : ∃ W, (((w.alloc (.cells (cellsS s (.slice A s.ms.length c) (.slice B s.fl.length d)) 27)).alloc (.cells #[.int .i64 m.k, .int .i64 m.a, .int .i64 m.b] 34)).alloc (.cells zeroS 27)).alloc (.cells #[.int .i64 0] 28) = W := ⟨_, rfl⟩
  have hb : Below w.heap.size w W := by
    rw [← hW]
    exact ((((Below.refl _ _).alloc (Nat.le_refl _) _).alloc (by simp) _).alloc (by simp; omega) _).alloc (by simp; omega) _
  have hsz : W.heap.size = w.heap.size + 1 + 1 + 1 + 1 := by rw [← hW]; simp
  have hck := check_calls s A c B d W (h.below hb)
  have hfour := Four.new w s A c B d m
  rw [hW] at hfour
  have HF := Lib.hid hfour
  have HC := Lib.hid hck
  have HW := Lib.hid (And.intro hW (And.intro hb hsz))
  have HR := Lib.hid h
  clear hck hW hb h hfour hsz
  by_cases hk : checkF s = 0
  · by_cases hm : 1 ≤ m.k ∧ m.k ≤ 4
    · have hkb : (checkF s == 0) = true := beq_iff_eq.2 hk
      have hkc : (checkF s != 0) = false := by rw [bne_eq_false_iff_eq]; exact hk
      have hr : stepF s m = (match moveF s m with | .ok s' => (s', 0) | .error k => (St.zero, k)) := by unfold stepF; rw [if_pos hk, if_pos hm]
      have HRES := Lib.hid hr
      have HK := Lib.hid hk
      have HM := Lib.hid hm
      have h1b : decide (m.k < 1) = false := decide_eq_false (by omega)
      have h2b : decide (4 < m.k) = false := decide_eq_false (by omega)
      clear hr hk hm
      go_enter_defers Try.func10, Try.ntmps10
      go_wp2_with fail
      rw [HW.out.1]
      (with_reducible refine (HC.out).mono ?_); rintro e w1 ⟨rfl, hb1⟩
      have hF := HF.out.below hb1
      have hHF := Lib.hid (And.intro hF hb1)
      have hy0 := fun j => cell_of_row _ w.heap.size j _ _ _ hF.b0
      have y0 := hy0 0
      have y1 := hy0 1
      have y2 := hy0 2
      have y3 := hy0 3
      have y4 := hy0 4
      have y5 := hy0 5
      have y6 := hy0 6
      have y7 := hy0 7
      have y8 := hy0 8
      simp at y0 y1 y2 y3 y4 y5 y6 y7 y8
      have k1 := cell_of_row _ (w.heap.size + 1) 1 _ _ _ hF.b1
      have k2 := cell_of_row _ (w.heap.size + 1) 2 _ _ _ hF.b1
      simp at k1 k2
      clear hy0
      have hz := fun j => cell_of_row _ (w.heap.size + 1 + 1) j _ _ _ hF.b2
      have z0 := hz 0
      have z1 := hz 1
      have z2 := hz 2
      have z3 := hz 3
      have z4 := hz 4
      have z5 := hz 5
      have z6 := hz 6
      have z7 := hz 7
      have z8 := hz 8
      simp at z0 z1 z2 z3 z4 z5 z6 z7 z8
      have fz0 := frozen_of_row _ (w.heap.size + 1 + 1) 0 _ _ hF.b2
      have fz1 := frozen_of_row _ (w.heap.size + 1 + 1) 1 _ _ hF.b2
      have fz2 := frozen_of_row _ (w.heap.size + 1 + 1) 2 _ _ hF.b2
      have fz3 := frozen_of_row _ (w.heap.size + 1 + 1) 3 _ _ hF.b2
      have fz4 := frozen_of_row _ (w.heap.size + 1 + 1) 4 _ _ hF.b2
      have fz5 := frozen_of_row _ (w.heap.size + 1 + 1) 5 _ _ hF.b2
      have fz6 := frozen_of_row _ (w.heap.size + 1 + 1) 6 _ _ hF.b2
      have fz7 := frozen_of_row _ (w.heap.size + 1 + 1) 7 _ _ hF.b2
      have fz8 := frozen_of_row _ (w.heap.size + 1 + 1) 8 _ _ hF.b2
      have hy := cell_of_row _ (w.heap.size + 1 + 1 + 1) 0 _ _ _ hF.b3
      simp at hy
      have fy := frozen_of_row _ (w.heap.size + 1 + 1 + 1) 0 _ _ hF.b3
      have k0 := cell_of_row _ (w.heap.size + 1) 0 _ _ _ hF.b1
      simp at k0
      clear hz hF hb1
      have f0 := filled (s0 := St.zero) (M0 := .slice none 0 0) (F0 := .slice none 0 0) (.slice A s.ms.length c) (.slice B s.fl.length d) (.int .i64 s.wn) (.int .i64 s.ws) (.int .i64 s.wr) (.int .i64 s.ls) (.int .i64 s.lr) (.int .i64 s.wv) (.bool s.told) hHF.out.1.b2
      have f1 := filled_other (w := w1) (bo := w.heap.size + 1 + 1) (.slice A s.ms.length c) (.slice B s.fl.length d) (.int .i64 s.wn) (.int .i64 s.ws) (.int .i64 s.wr) (.int .i64 s.ls) (.int .i64 s.lr) (.int .i64 s.wv) (.bool s.told)
      have f2 := filled_below w.heap.size w1 (w.heap.size + 1 + 1) (by omega) (.slice A s.ms.length c) (.slice B s.fl.length d) (.int .i64 s.wn) (.int .i64 s.ws) (.int .i64 s.wr) (.int .i64 s.ls) (.int .i64 s.lr) (.int .i64 s.wv) (.bool s.told)
      obtain ⟨X, hX⟩ : ∃ X, (((((((((w1.setCell ⟨w.heap.size + 1 + 1, 0, none⟩ (.slice A s.ms.length c)).setCell ⟨w.heap.size + 1 + 1, 1, none⟩ (.slice B s.fl.length d)).setCell ⟨w.heap.size + 1 + 1, 2, none⟩ (.int .i64 s.wn)).setCell ⟨w.heap.size + 1 + 1, 3, none⟩ (.int .i64 s.ws)).setCell ⟨w.heap.size + 1 + 1, 4, none⟩ (.int .i64 s.wr)).setCell ⟨w.heap.size + 1 + 1, 5, none⟩ (.int .i64 s.ls)).setCell ⟨w.heap.size + 1 + 1, 6, none⟩ (.int .i64 s.lr)).setCell ⟨w.heap.size + 1 + 1, 7, none⟩ (.int .i64 s.wv)).setCell ⟨w.heap.size + 1 + 1, 8, none⟩ (.bool s.told)) = X := ⟨_, rfl⟩
      rw [hX] at f0 f1 f2
      have HX := Lib.hid (And.intro hX (And.intro f0 (And.intro f1 f2)))
      clear hX f0 f1 f2
      go_upto_region 8 with fail
      rw [HX.out.1]
      clear y0 z0 fz0 y1 z1 fz1 y2 z2 fz2 y3 z3 fz3 y4 z4 fz4 y5 z5 fz5 y6 z6 fz6 y7 z7 fz7 y8 z8 fz8 hy fy k0 k1 k2
      have g0 : X.heap[w.heap.size]? = some (.cells (cellsS s (.slice A s.ms.length c) (.slice B s.fl.length d)) 27 (0, 0)) := (HX.out.2.2.1 _ (by omega)).trans hHF.out.1.b0
      have g1 : X.heap[w.heap.size + 1]? = some (.cells #[.int .i64 m.k, .int .i64 m.a, .int .i64 m.b] 34 (0, 0)) := (HX.out.2.2.1 _ (by omega)).trans hHF.out.1.b1
      have g3 : X.heap[w.heap.size + 1 + 1 + 1]? = some (.cells #[.int .i64 0] 28 (0, 0)) := (HX.out.2.2.1 _ (by omega)).trans hHF.out.1.b3
      have hlo : Below w.heap.size w X := (HW.out.2.1.trans (hHF.out.2.mono HW.out.2.1.size)).trans HX.out.2.2.2.1
      have hxs : w.heap.size + 4 ≤ X.heap.size := by have := hHF.out.2.size; have := HX.out.2.2.2.2; have := HW.out.2.2; omega
      have hfine : Fine s := (fine_iff s).1 (by unfold checkF at HK; have := HK.out; split at this <;> simp_all)
      have hrd : RdS X A B s := HR.out.below hlo
      have c1 := cloneM_calls A s.ms c X.drew hrd.ms.drew (by have := hfine.n1; omega)
      have c2 : ∀ w2, Below X.drew.heap.size X.drew w2 → Calls Try.prog 27 #[.slice B s.fl.length d] w2 (ClonePost encI 1 3 s.fl w2) := fun w2 hw2 => cloneI_calls B s.fl d w2 (hrd.fl.below (show Below X.heap.size X w2 from ⟨hw2.os, hw2.tape, hw2.output, hw2.size, hw2.block⟩)) (by have := hfine.fl; omega)
      have x0 := cell_of_row _ w.heap.size 0 _ _ _ g0
      have x1 := cell_of_row _ w.heap.size 1 _ _ _ g0
      simp at x0 x1
      have hl0 : w.heap.size < X.drew.heap.size := (Array.getElem?_eq_some_iff.1 g0).1
      have hl2 : w.heap.size + 1 + 1 < X.drew.heap.size := (Array.getElem?_eq_some_iff.1 HX.out.2.1).1
      have HC1 := Lib.hid c1
      have HC2 := Lib.hid c2
      have HG := Lib.hid (And.intro g0 (And.intro g1 (And.intro g3 (And.intro hlo (And.intro hxs (And.intro hfine (And.intro hl0 hl2)))))))
      clear c1 c2 g0 g1 g3 hlo hxs hfine hrd hl0 hl2
      go_cut [30] from 24 to 31 (fun s30 wc => s30 = .pointer (some ⟨w.heap.size + 1 + 1, 0, none⟩) ∧ ∃ g cc Fv, MS wc (w.heap.size + 4) (w.heap.size + 1 + 1) s g cc Fv ∧ Kp (w.heap.size + 4) (w.heap.size + 1 + 1) X wc)
      case first =>
        refine wp_region_noPanic ?_
        go_region_with (first | (go_at_call 26; (with_reducible refine (HC1.out).mono ?_); rintro e w2 ⟨v1, rfl, ho1, hb1⟩; obtain ⟨ga, gc, rfl, hga, hgb⟩ := World.ownsRow.form ho1 HG.out.2.2.2.2.2.1.n0; clear hga hgb; have y1 : w2.cell? ⟨w.heap.size, 1, none⟩ = some (.slice B s.fl.length d) := (hb1.cell (p := ⟨w.heap.size, 1, none⟩) HG.out.2.2.2.2.2.2.1).trans x1; have HO1 := Lib.hid (And.intro ho1 hb1); clear ho1 hb1) | (go_at_call 27; (with_reducible refine (HC2.out _ HO1.out.2).mono ?_); rintro e w3 ⟨v2, rfl, ho2, hb2⟩; obtain ⟨fa, fc, rfl, hfr⟩ := Own.rd lenI ho2; clear hfr; have hq3 : w3.heap[w.heap.size + 1 + 1]? = some (.cells (cellsS s (.slice A s.ms.length c) (.slice B s.fl.length d)) 27 (0, 0)) := (hb2.block _ (Nat.lt_of_lt_of_le HG.out.2.2.2.2.2.2.2 HO1.out.2.size)).trans ((HO1.out.2.block _ HG.out.2.2.2.2.2.2.2).trans HX.out.2.1); have q0 := cell_of_row _ (w.heap.size + 1 + 1) 0 _ _ _ hq3; have q1 := cell_of_row _ (w.heap.size + 1 + 1) 1 _ _ _ hq3; have qf0 := frozen_of_row _ (w.heap.size + 1 + 1) 0 _ _ hq3; have qf1 := frozen_of_row _ (w.heap.size + 1 + 1) 1 _ _ hq3; simp at q0 q1; have HO2 := Lib.hid (And.intro ho2 hb2); clear ho2 hb2 hq3))
        all_goals refine NoPanic.normal ?_
        all_goals have hcl := cloned (base := w.heap.size + 4) HG.out.2.2.2.2.1 HO1.out.1 (show Below X.heap.size X w2 from ⟨HO1.out.2.os, HO1.out.2.tape, HO1.out.2.output, HO1.out.2.size, HO1.out.2.block⟩) HO2.out.1 HO2.out.2 HX.out.2.1 HG.out.2.2.2.2.2.1.n0
        all_goals (go_wp2_with fail; go_meet; obtain ⟨g, cc, hv, hms, hkp⟩ := hcl; exact ⟨rfl, g, cc, _, hms, hkp⟩)
      case rest =>
        obtain ⟨rfl, g, cc, Fv, hms, hkp⟩ := hcut
        clear x0 x1
        have hn1 : wc.heap[w.heap.size + 1]? = some (.cells #[.int .i64 m.k, .int .i64 m.a, .int .i64 m.b] 34 (0, 0)) := (hkp.block _ (by omega) (by omega)).trans HG.out.2.1
        have hn3 : wc.heap[w.heap.size + 1 + 1 + 1]? = some (.cells #[.int .i64 0] 28 (0, 0)) := (hkp.block _ (by omega) (by omega)).trans HG.out.2.2.1
        have hk0 := cell_of_row _ (w.heap.size + 1) 0 _ _ _ hn1
        have hk1 := cell_of_row _ (w.heap.size + 1) 1 _ _ _ hn1
        have hk2 := cell_of_row _ (w.heap.size + 1) 2 _ _ _ hn1
        simp at hk0 hk1 hk2
        have hlo : Below w.heap.size w wc := HG.out.2.2.2.1.trans ⟨hkp.os, hkp.tape, hkp.output, hkp.size, fun k hk => hkp.block k (by omega) (by omega)⟩
        have HQ := Lib.hid (And.intro hms (And.intro hn3 hlo))
        clear hn1 hn3 hms hkp hlo
        have hkind := HM.out
        clear h1b h2b hkb hkc
        rcases (by omega : m.k = 1 ∨ m.k = 2 ∨ m.k = 3 ∨ m.k = 4) with e1 | e1 | e1 | e1
        · have hidx : ∀ w, (Instr.index 76 (.agg #[.nilFunc, .func (.func 30) #[] #[], .func (.func 31) #[] #[], .func (.func 32) #[] #[], .func (.func 33) #[] #[]]) (.int .i64 m.k)).run Try.prog w = .ok (.func (.func 30) #[] #[]) w := fun w => by rw [e1]; kernel_rfl
          have hmv : moveF s m = sendF s m := by simp [moveF, e1]
          have hc := send_calls (w.heap.size + 4) (w.heap.size + 1 + 1) s g cc Fv m wc.drew HQ.out.1.drew (fun x hx => (HG.out.2.2.2.2.2.1.mem x hx).1)
          have HC3 := Lib.hid hc
          have HMV := Lib.hid hmv
          have HE := Lib.hid e1
          clear hc hmv e1 hkind
          go_wp2_with fail
          refine wp_region_tail 5 (by kernel_rfl) (by kernel_rfl) ?_
          simp only [List.take_succ_cons, List.take_zero, List.drop_succ_cons, List.drop_zero]
          repeat still_step
          refine wpStill_nil ?_
          go_wp2_with fail
          (with_reducible refine (HC3.out).mono ?_); rintro e w4 ⟨hkp4, hpost⟩
          have hn3 : w4.heap[w.heap.size + 1 + 1 + 1]? = some (.cells #[.int .i64 0] 28 (0, 0)) := (hkp4.block _ (by omega) (by omega)).trans HQ.out.2.1
          have hlo : Below w.heap.size w w4 := HQ.out.2.2.trans ⟨hkp4.os, hkp4.tape, hkp4.output, hkp4.size, fun k hk => hkp4.block k (by omega) (by omega)⟩
          clear hkp4 hk0 hk1 hk2 hidx
          cases hs : sendF s m with
          | error k =>
            rw [hs] at hpost
            obtain ⟨rfl, s', g', c', Fv', hms⟩ := hpost
            have hr : stepF s m = (St.zero, k) := by rw [HRES.out, HMV.out, hs]
            rw [hr]
            change Leaves Try.prog Try.f10 _ (SPost w (St.zero, k)) _ (.panicking (leftBy k)) _
            exact door_err _ rfl rfl hms hn3 rfl hlo k
          | ok s' =>
            rw [hs] at hpost
            obtain ⟨rfl, g', c', Fv', hms⟩ := hpost
            have hr : stepF s m = (s', 0) := by rw [HRES.out, HMV.out, hs]
            have HRR := Lib.hid hr
            obtain ⟨B', d', hF', _⟩ := hms.of.rd lenI
            subst hF'
            have hy0 := fun j => cell_of_row _ (w.heap.size + 1 + 1) j _ _ _ hms.blk
            have y0 := hy0 0
            have y1 := hy0 1
            have y2 := hy0 2
            have y3 := hy0 3
            have y4 := hy0 4
            have y5 := hy0 5
            have y6 := hy0 6
            have y7 := hy0 7
            have y8 := hy0 8
            simp [cellsS] at y0 y1 y2 y3 y4 y5 y6 y7 y8
            have fz0 := frozen_of_row _ (w.heap.size + 1 + 1) 0 _ _ hms.blk
            have fz1 := frozen_of_row _ (w.heap.size + 1 + 1) 1 _ _ hms.blk
            have fz2 := frozen_of_row _ (w.heap.size + 1 + 1) 2 _ _ hms.blk
            have fz3 := frozen_of_row _ (w.heap.size + 1 + 1) 3 _ _ hms.blk
            have fz4 := frozen_of_row _ (w.heap.size + 1 + 1) 4 _ _ hms.blk
            have fz5 := frozen_of_row _ (w.heap.size + 1 + 1) 5 _ _ hms.blk
            have fz6 := frozen_of_row _ (w.heap.size + 1 + 1) 6 _ _ hms.blk
            have fz7 := frozen_of_row _ (w.heap.size + 1 + 1) 7 _ _ hms.blk
            have fz8 := frozen_of_row _ (w.heap.size + 1 + 1) 8 _ _ hms.blk
            have hy := cell_of_row _ (w.heap.size + 1 + 1 + 1) 0 _ _ _ hn3
            simp at hy
            have fy := frozen_of_row _ (w.heap.size + 1 + 1 + 1) 0 _ _ hn3
            have q0 := filled (.slice (some ⟨g', 0, none⟩) s'.ms.length c') (.slice B' s'.fl.length d') (.int .i64 s'.wn) (.int .i64 s'.ws) (.int .i64 s'.wr) (.int .i64 s'.ls) (.int .i64 s'.lr) (.int .i64 s'.wv) (.bool s'.told) hms.blk
            have q1 := filled_other (w := w4) (bo := w.heap.size + 1 + 1) (.slice (some ⟨g', 0, none⟩) s'.ms.length c') (.slice B' s'.fl.length d') (.int .i64 s'.wn) (.int .i64 s'.ws) (.int .i64 s'.wr) (.int .i64 s'.ls) (.int .i64 s'.lr) (.int .i64 s'.wv) (.bool s'.told)
            have q2 := filled_below w.heap.size w4 (w.heap.size + 1 + 1) (by omega) (.slice (some ⟨g', 0, none⟩) s'.ms.length c') (.slice B' s'.fl.length d') (.int .i64 s'.wn) (.int .i64 s'.ws) (.int .i64 s'.wr) (.int .i64 s'.ls) (.int .i64 s'.lr) (.int .i64 s'.wv) (.bool s'.told)
            obtain ⟨Y, hY⟩ : ∃ Y, (((((((((w4.setCell ⟨w.heap.size + 1 + 1, 0, none⟩ (.slice (some ⟨g', 0, none⟩) s'.ms.length c')).setCell ⟨w.heap.size + 1 + 1, 1, none⟩ (.slice B' s'.fl.length d')).setCell ⟨w.heap.size + 1 + 1, 2, none⟩ (.int .i64 s'.wn)).setCell ⟨w.heap.size + 1 + 1, 3, none⟩ (.int .i64 s'.ws)).setCell ⟨w.heap.size + 1 + 1, 4, none⟩ (.int .i64 s'.wr)).setCell ⟨w.heap.size + 1 + 1, 5, none⟩ (.int .i64 s'.ls)).setCell ⟨w.heap.size + 1 + 1, 6, none⟩ (.int .i64 s'.lr)).setCell ⟨w.heap.size + 1 + 1, 7, none⟩ (.int .i64 s'.wv)).setCell ⟨w.heap.size + 1 + 1, 8, none⟩ (.bool s'.told)) = Y := ⟨_, rfl⟩
            rw [hY] at q0 q1 q2
            have HY := Lib.hid (And.intro hY (And.intro q0 (And.intro q1 q2)))
            have HZ := Lib.hid (And.intro hms (And.intro hn3 hlo))
            clear hY q0 q1 q2 hms hn3 hlo hy0
            go_wp2_with fail
            rw [HY.out.1]
            rw [HRR.out]
            change Leaves Try.prog Try.f10 _ (SPost w (s', 0)) _ .returning _
            refine door_ok _ rfl rfl HZ.out.1 (by omega) (by omega) rfl HZ.out.2.2 ?_ ?_ ?_ ?_
            · rw [heap_setCell_other _ ⟨w.heap.size + 1 + 1 + 1, 0, none⟩ _ _ (by simp)]; exact HY.out.2.1
            · rw [heap_setCell_same Y _ 0 _ _ _ ((HY.out.2.2.1 _ (by omega)).trans HZ.out.2.1)]; rfl
            · intro i h1 h2
              rw [heap_setCell_other _ ⟨w.heap.size + 1 + 1 + 1, 0, none⟩ _ _ h2]; exact HY.out.2.2.1 i h1
            · exact HY.out.2.2.2.1.setCell (by simp; omega) _
        · have hidx : ∀ w, (Instr.index 76 (.agg #[.nilFunc, .func (.func 30) #[] #[], .func (.func 31) #[] #[], .func (.func 32) #[] #[], .func (.func 33) #[] #[]]) (.int .i64 m.k)).run Try.prog w = .ok (.func (.func 31) #[] #[]) w := fun w => by rw [e1]; kernel_rfl
          have hmv : moveF s m = idleF s m := by simp [moveF, e1]
          have hc := idle_calls (w.heap.size + 4) (w.heap.size + 1 + 1) s g cc Fv m wc.drew HQ.out.1.drew
          have HC3 := Lib.hid hc
          have HMV := Lib.hid hmv
          have HE := Lib.hid e1
          clear hc hmv e1 hkind
          go_wp2_with fail
          refine wp_region_tail 5 (by kernel_rfl) (by kernel_rfl) ?_
          simp only [List.take_succ_cons, List.take_zero, List.drop_succ_cons, List.drop_zero]
          repeat still_step
          refine wpStill_nil ?_
          go_wp2_with fail
          (with_reducible refine (HC3.out).mono ?_); rintro e w4 ⟨hkp4, hpost⟩
          have hn3 : w4.heap[w.heap.size + 1 + 1 + 1]? = some (.cells #[.int .i64 0] 28 (0, 0)) := (hkp4.block _ (by omega) (by omega)).trans HQ.out.2.1
          have hlo : Below w.heap.size w w4 := HQ.out.2.2.trans ⟨hkp4.os, hkp4.tape, hkp4.output, hkp4.size, fun k hk => hkp4.block k (by omega) (by omega)⟩
          clear hkp4 hk0 hk1 hk2 hidx
          cases hs : idleF s m with
          | error k =>
            rw [hs] at hpost
            obtain ⟨rfl, s', g', c', Fv', hms⟩ := hpost
            have hr : stepF s m = (St.zero, k) := by rw [HRES.out, HMV.out, hs]
            rw [hr]
            change Leaves Try.prog Try.f10 _ (SPost w (St.zero, k)) _ (.panicking (leftBy k)) _
            exact door_err _ rfl rfl hms hn3 rfl hlo k
          | ok s' =>
            rw [hs] at hpost
            obtain ⟨rfl, g', c', Fv', hms⟩ := hpost
            have hr : stepF s m = (s', 0) := by rw [HRES.out, HMV.out, hs]
            have HRR := Lib.hid hr
            obtain ⟨B', d', hF', _⟩ := hms.of.rd lenI
            subst hF'
            have hy0 := fun j => cell_of_row _ (w.heap.size + 1 + 1) j _ _ _ hms.blk
            have y0 := hy0 0
            have y1 := hy0 1
            have y2 := hy0 2
            have y3 := hy0 3
            have y4 := hy0 4
            have y5 := hy0 5
            have y6 := hy0 6
            have y7 := hy0 7
            have y8 := hy0 8
            simp [cellsS] at y0 y1 y2 y3 y4 y5 y6 y7 y8
            have fz0 := frozen_of_row _ (w.heap.size + 1 + 1) 0 _ _ hms.blk
            have fz1 := frozen_of_row _ (w.heap.size + 1 + 1) 1 _ _ hms.blk
            have fz2 := frozen_of_row _ (w.heap.size + 1 + 1) 2 _ _ hms.blk
            have fz3 := frozen_of_row _ (w.heap.size + 1 + 1) 3 _ _ hms.blk
            have fz4 := frozen_of_row _ (w.heap.size + 1 + 1) 4 _ _ hms.blk
            have fz5 := frozen_of_row _ (w.heap.size + 1 + 1) 5 _ _ hms.blk
            have fz6 := frozen_of_row _ (w.heap.size + 1 + 1) 6 _ _ hms.blk
            have fz7 := frozen_of_row _ (w.heap.size + 1 + 1) 7 _ _ hms.blk
            have fz8 := frozen_of_row _ (w.heap.size + 1 + 1) 8 _ _ hms.blk
            have hy := cell_of_row _ (w.heap.size + 1 + 1 + 1) 0 _ _ _ hn3
            simp at hy
            have fy := frozen_of_row _ (w.heap.size + 1 + 1 + 1) 0 _ _ hn3
            have q0 := filled (.slice (some ⟨g', 0, none⟩) s'.ms.length c') (.slice B' s'.fl.length d') (.int .i64 s'.wn) (.int .i64 s'.ws) (.int .i64 s'.wr) (.int .i64 s'.ls) (.int .i64 s'.lr) (.int .i64 s'.wv) (.bool s'.told) hms.blk
            have q1 := filled_other (w := w4) (bo := w.heap.size + 1 + 1) (.slice (some ⟨g', 0, none⟩) s'.ms.length c') (.slice B' s'.fl.length d') (.int .i64 s'.wn) (.int .i64 s'.ws) (.int .i64 s'.wr) (.int .i64 s'.ls) (.int .i64 s'.lr) (.int .i64 s'.wv) (.bool s'.told)
            have q2 := filled_below w.heap.size w4 (w.heap.size + 1 + 1) (by omega) (.slice (some ⟨g', 0, none⟩) s'.ms.length c') (.slice B' s'.fl.length d') (.int .i64 s'.wn) (.int .i64 s'.ws) (.int .i64 s'.wr) (.int .i64 s'.ls) (.int .i64 s'.lr) (.int .i64 s'.wv) (.bool s'.told)
            obtain ⟨Y, hY⟩ : ∃ Y, (((((((((w4.setCell ⟨w.heap.size + 1 + 1, 0, none⟩ (.slice (some ⟨g', 0, none⟩) s'.ms.length c')).setCell ⟨w.heap.size + 1 + 1, 1, none⟩ (.slice B' s'.fl.length d')).setCell ⟨w.heap.size + 1 + 1, 2, none⟩ (.int .i64 s'.wn)).setCell ⟨w.heap.size + 1 + 1, 3, none⟩ (.int .i64 s'.ws)).setCell ⟨w.heap.size + 1 + 1, 4, none⟩ (.int .i64 s'.wr)).setCell ⟨w.heap.size + 1 + 1, 5, none⟩ (.int .i64 s'.ls)).setCell ⟨w.heap.size + 1 + 1, 6, none⟩ (.int .i64 s'.lr)).setCell ⟨w.heap.size + 1 + 1, 7, none⟩ (.int .i64 s'.wv)).setCell ⟨w.heap.size + 1 + 1, 8, none⟩ (.bool s'.told)) = Y := ⟨_, rfl⟩
            rw [hY] at q0 q1 q2
            have HY := Lib.hid (And.intro hY (And.intro q0 (And.intro q1 q2)))
            have HZ := Lib.hid (And.intro hms (And.intro hn3 hlo))
            clear hY q0 q1 q2 hms hn3 hlo hy0
            go_wp2_with fail
            rw [HY.out.1]
            rw [HRR.out]
            change Leaves Try.prog Try.f10 _ (SPost w (s', 0)) _ .returning _
            refine door_ok _ rfl rfl HZ.out.1 (by omega) (by omega) rfl HZ.out.2.2 ?_ ?_ ?_ ?_
            · rw [heap_setCell_other _ ⟨w.heap.size + 1 + 1 + 1, 0, none⟩ _ _ (by simp)]; exact HY.out.2.1
            · rw [heap_setCell_same Y _ 0 _ _ _ ((HY.out.2.2.1 _ (by omega)).trans HZ.out.2.1)]; rfl
            · intro i h1 h2
              rw [heap_setCell_other _ ⟨w.heap.size + 1 + 1 + 1, 0, none⟩ _ _ h2]; exact HY.out.2.2.1 i h1
            · exact HY.out.2.2.2.1.setCell (by simp; omega) _
        · have hidx : ∀ w, (Instr.index 76 (.agg #[.nilFunc, .func (.func 30) #[] #[], .func (.func 31) #[] #[], .func (.func 32) #[] #[], .func (.func 33) #[] #[]]) (.int .i64 m.k)).run Try.prog w = .ok (.func (.func 32) #[] #[]) w := fun w => by rw [e1]; kernel_rfl
          have hmv : moveF s m = arriveF s m := by simp [moveF, e1]
          have hc := arrive_calls (w.heap.size + 4) (w.heap.size + 1 + 1) s g cc Fv m wc.drew HQ.out.1.drew (fun x hx => (HG.out.2.2.2.2.2.1.mem x hx).2.2.1) HG.out.2.2.2.2.2.1.flt (by have := HG.out.2.2.2.2.2.1.fl; omega)
          have HC3 := Lib.hid hc
          have HMV := Lib.hid hmv
          have HE := Lib.hid e1
          clear hc hmv e1 hkind
          go_wp2_with fail
          refine wp_region_tail 5 (by kernel_rfl) (by kernel_rfl) ?_
          simp only [List.take_succ_cons, List.take_zero, List.drop_succ_cons, List.drop_zero]
          repeat still_step
          refine wpStill_nil ?_
          go_wp2_with fail
          (with_reducible refine (HC3.out).mono ?_); rintro e w4 ⟨hkp4, hpost⟩
          have hn3 : w4.heap[w.heap.size + 1 + 1 + 1]? = some (.cells #[.int .i64 0] 28 (0, 0)) := (hkp4.block _ (by omega) (by omega)).trans HQ.out.2.1
          have hlo : Below w.heap.size w w4 := HQ.out.2.2.trans ⟨hkp4.os, hkp4.tape, hkp4.output, hkp4.size, fun k hk => hkp4.block k (by omega) (by omega)⟩
          clear hkp4 hk0 hk1 hk2 hidx
          cases hs : arriveF s m with
          | error k =>
            rw [hs] at hpost
            obtain ⟨rfl, s', g', c', Fv', hms⟩ := hpost
            have hr : stepF s m = (St.zero, k) := by rw [HRES.out, HMV.out, hs]
            rw [hr]
            change Leaves Try.prog Try.f10 _ (SPost w (St.zero, k)) _ (.panicking (leftBy k)) _
            exact door_err _ rfl rfl hms hn3 rfl hlo k
          | ok s' =>
            rw [hs] at hpost
            obtain ⟨rfl, g', c', Fv', hms⟩ := hpost
            have hr : stepF s m = (s', 0) := by rw [HRES.out, HMV.out, hs]
            have HRR := Lib.hid hr
            obtain ⟨B', d', hF', _⟩ := hms.of.rd lenI
            subst hF'
            have hy0 := fun j => cell_of_row _ (w.heap.size + 1 + 1) j _ _ _ hms.blk
            have y0 := hy0 0
            have y1 := hy0 1
            have y2 := hy0 2
            have y3 := hy0 3
            have y4 := hy0 4
            have y5 := hy0 5
            have y6 := hy0 6
            have y7 := hy0 7
            have y8 := hy0 8
            simp [cellsS] at y0 y1 y2 y3 y4 y5 y6 y7 y8
            have fz0 := frozen_of_row _ (w.heap.size + 1 + 1) 0 _ _ hms.blk
            have fz1 := frozen_of_row _ (w.heap.size + 1 + 1) 1 _ _ hms.blk
            have fz2 := frozen_of_row _ (w.heap.size + 1 + 1) 2 _ _ hms.blk
            have fz3 := frozen_of_row _ (w.heap.size + 1 + 1) 3 _ _ hms.blk
            have fz4 := frozen_of_row _ (w.heap.size + 1 + 1) 4 _ _ hms.blk
            have fz5 := frozen_of_row _ (w.heap.size + 1 + 1) 5 _ _ hms.blk
            have fz6 := frozen_of_row _ (w.heap.size + 1 + 1) 6 _ _ hms.blk
            have fz7 := frozen_of_row _ (w.heap.size + 1 + 1) 7 _ _ hms.blk
            have fz8 := frozen_of_row _ (w.heap.size + 1 + 1) 8 _ _ hms.blk
            have hy := cell_of_row _ (w.heap.size + 1 + 1 + 1) 0 _ _ _ hn3
            simp at hy
            have fy := frozen_of_row _ (w.heap.size + 1 + 1 + 1) 0 _ _ hn3
            have q0 := filled (.slice (some ⟨g', 0, none⟩) s'.ms.length c') (.slice B' s'.fl.length d') (.int .i64 s'.wn) (.int .i64 s'.ws) (.int .i64 s'.wr) (.int .i64 s'.ls) (.int .i64 s'.lr) (.int .i64 s'.wv) (.bool s'.told) hms.blk
            have q1 := filled_other (w := w4) (bo := w.heap.size + 1 + 1) (.slice (some ⟨g', 0, none⟩) s'.ms.length c') (.slice B' s'.fl.length d') (.int .i64 s'.wn) (.int .i64 s'.ws) (.int .i64 s'.wr) (.int .i64 s'.ls) (.int .i64 s'.lr) (.int .i64 s'.wv) (.bool s'.told)
            have q2 := filled_below w.heap.size w4 (w.heap.size + 1 + 1) (by omega) (.slice (some ⟨g', 0, none⟩) s'.ms.length c') (.slice B' s'.fl.length d') (.int .i64 s'.wn) (.int .i64 s'.ws) (.int .i64 s'.wr) (.int .i64 s'.ls) (.int .i64 s'.lr) (.int .i64 s'.wv) (.bool s'.told)
            obtain ⟨Y, hY⟩ : ∃ Y, (((((((((w4.setCell ⟨w.heap.size + 1 + 1, 0, none⟩ (.slice (some ⟨g', 0, none⟩) s'.ms.length c')).setCell ⟨w.heap.size + 1 + 1, 1, none⟩ (.slice B' s'.fl.length d')).setCell ⟨w.heap.size + 1 + 1, 2, none⟩ (.int .i64 s'.wn)).setCell ⟨w.heap.size + 1 + 1, 3, none⟩ (.int .i64 s'.ws)).setCell ⟨w.heap.size + 1 + 1, 4, none⟩ (.int .i64 s'.wr)).setCell ⟨w.heap.size + 1 + 1, 5, none⟩ (.int .i64 s'.ls)).setCell ⟨w.heap.size + 1 + 1, 6, none⟩ (.int .i64 s'.lr)).setCell ⟨w.heap.size + 1 + 1, 7, none⟩ (.int .i64 s'.wv)).setCell ⟨w.heap.size + 1 + 1, 8, none⟩ (.bool s'.told)) = Y := ⟨_, rfl⟩
            rw [hY] at q0 q1 q2
            have HY := Lib.hid (And.intro hY (And.intro q0 (And.intro q1 q2)))
            have HZ := Lib.hid (And.intro hms (And.intro hn3 hlo))
            clear hY q0 q1 q2 hms hn3 hlo hy0
            go_wp2_with fail
            rw [HY.out.1]
            rw [HRR.out]
            change Leaves Try.prog Try.f10 _ (SPost w (s', 0)) _ .returning _
            refine door_ok _ rfl rfl HZ.out.1 (by omega) (by omega) rfl HZ.out.2.2 ?_ ?_ ?_ ?_
            · rw [heap_setCell_other _ ⟨w.heap.size + 1 + 1 + 1, 0, none⟩ _ _ (by simp)]; exact HY.out.2.1
            · rw [heap_setCell_same Y _ 0 _ _ _ ((HY.out.2.2.1 _ (by omega)).trans HZ.out.2.1)]; rfl
            · intro i h1 h2
              rw [heap_setCell_other _ ⟨w.heap.size + 1 + 1 + 1, 0, none⟩ _ _ h2]; exact HY.out.2.2.1 i h1
            · exact HY.out.2.2.2.1.setCell (by simp; omega) _
        · have hidx : ∀ w, (Instr.index 76 (.agg #[.nilFunc, .func (.func 30) #[] #[], .func (.func 31) #[] #[], .func (.func 32) #[] #[], .func (.func 33) #[] #[]]) (.int .i64 m.k)).run Try.prog w = .ok (.func (.func 33) #[] #[]) w := fun w => by rw [e1]; kernel_rfl
          have hmv : moveF s m = askF s := by simp [moveF, e1]
          have hc := ask_calls (w.heap.size + 4) (w.heap.size + 1 + 1) s g cc Fv m wc.drew HQ.out.1.drew HG.out.2.2.2.2.2.1
          have HC3 := Lib.hid hc
          have HMV := Lib.hid hmv
          have HE := Lib.hid e1
          clear hc hmv e1 hkind
          go_wp2_with fail
          refine wp_region_tail 5 (by kernel_rfl) (by kernel_rfl) ?_
          simp only [List.take_succ_cons, List.take_zero, List.drop_succ_cons, List.drop_zero]
          repeat still_step
          refine wpStill_nil ?_
          go_wp2_with fail
          (with_reducible refine (HC3.out).mono ?_); rintro e w4 ⟨hkp4, hpost⟩
          have hn3 : w4.heap[w.heap.size + 1 + 1 + 1]? = some (.cells #[.int .i64 0] 28 (0, 0)) := (hkp4.block _ (by omega) (by omega)).trans HQ.out.2.1
          have hlo : Below w.heap.size w w4 := HQ.out.2.2.trans ⟨hkp4.os, hkp4.tape, hkp4.output, hkp4.size, fun k hk => hkp4.block k (by omega) (by omega)⟩
          clear hkp4 hk0 hk1 hk2 hidx
          cases hs : askF s with
          | error k =>
            rw [hs] at hpost
            obtain ⟨rfl, s', g', c', Fv', hms⟩ := hpost
            have hr : stepF s m = (St.zero, k) := by rw [HRES.out, HMV.out, hs]
            rw [hr]
            change Leaves Try.prog Try.f10 _ (SPost w (St.zero, k)) _ (.panicking (leftBy k)) _
            exact door_err _ rfl rfl hms hn3 rfl hlo k
          | ok s' =>
            rw [hs] at hpost
            obtain ⟨rfl, g', c', Fv', hms⟩ := hpost
            have hr : stepF s m = (s', 0) := by rw [HRES.out, HMV.out, hs]
            have HRR := Lib.hid hr
            obtain ⟨B', d', hF', _⟩ := hms.of.rd lenI
            subst hF'
            have hy0 := fun j => cell_of_row _ (w.heap.size + 1 + 1) j _ _ _ hms.blk
            have y0 := hy0 0
            have y1 := hy0 1
            have y2 := hy0 2
            have y3 := hy0 3
            have y4 := hy0 4
            have y5 := hy0 5
            have y6 := hy0 6
            have y7 := hy0 7
            have y8 := hy0 8
            simp [cellsS] at y0 y1 y2 y3 y4 y5 y6 y7 y8
            have fz0 := frozen_of_row _ (w.heap.size + 1 + 1) 0 _ _ hms.blk
            have fz1 := frozen_of_row _ (w.heap.size + 1 + 1) 1 _ _ hms.blk
            have fz2 := frozen_of_row _ (w.heap.size + 1 + 1) 2 _ _ hms.blk
            have fz3 := frozen_of_row _ (w.heap.size + 1 + 1) 3 _ _ hms.blk
            have fz4 := frozen_of_row _ (w.heap.size + 1 + 1) 4 _ _ hms.blk
            have fz5 := frozen_of_row _ (w.heap.size + 1 + 1) 5 _ _ hms.blk
            have fz6 := frozen_of_row _ (w.heap.size + 1 + 1) 6 _ _ hms.blk
            have fz7 := frozen_of_row _ (w.heap.size + 1 + 1) 7 _ _ hms.blk
            have fz8 := frozen_of_row _ (w.heap.size + 1 + 1) 8 _ _ hms.blk
            have hy := cell_of_row _ (w.heap.size + 1 + 1 + 1) 0 _ _ _ hn3
            simp at hy
            have fy := frozen_of_row _ (w.heap.size + 1 + 1 + 1) 0 _ _ hn3
            have q0 := filled (.slice (some ⟨g', 0, none⟩) s'.ms.length c') (.slice B' s'.fl.length d') (.int .i64 s'.wn) (.int .i64 s'.ws) (.int .i64 s'.wr) (.int .i64 s'.ls) (.int .i64 s'.lr) (.int .i64 s'.wv) (.bool s'.told) hms.blk
            have q1 := filled_other (w := w4) (bo := w.heap.size + 1 + 1) (.slice (some ⟨g', 0, none⟩) s'.ms.length c') (.slice B' s'.fl.length d') (.int .i64 s'.wn) (.int .i64 s'.ws) (.int .i64 s'.wr) (.int .i64 s'.ls) (.int .i64 s'.lr) (.int .i64 s'.wv) (.bool s'.told)
            have q2 := filled_below w.heap.size w4 (w.heap.size + 1 + 1) (by omega) (.slice (some ⟨g', 0, none⟩) s'.ms.length c') (.slice B' s'.fl.length d') (.int .i64 s'.wn) (.int .i64 s'.ws) (.int .i64 s'.wr) (.int .i64 s'.ls) (.int .i64 s'.lr) (.int .i64 s'.wv) (.bool s'.told)
            obtain ⟨Y, hY⟩ : ∃ Y, (((((((((w4.setCell ⟨w.heap.size + 1 + 1, 0, none⟩ (.slice (some ⟨g', 0, none⟩) s'.ms.length c')).setCell ⟨w.heap.size + 1 + 1, 1, none⟩ (.slice B' s'.fl.length d')).setCell ⟨w.heap.size + 1 + 1, 2, none⟩ (.int .i64 s'.wn)).setCell ⟨w.heap.size + 1 + 1, 3, none⟩ (.int .i64 s'.ws)).setCell ⟨w.heap.size + 1 + 1, 4, none⟩ (.int .i64 s'.wr)).setCell ⟨w.heap.size + 1 + 1, 5, none⟩ (.int .i64 s'.ls)).setCell ⟨w.heap.size + 1 + 1, 6, none⟩ (.int .i64 s'.lr)).setCell ⟨w.heap.size + 1 + 1, 7, none⟩ (.int .i64 s'.wv)).setCell ⟨w.heap.size + 1 + 1, 8, none⟩ (.bool s'.told)) = Y := ⟨_, rfl⟩
            rw [hY] at q0 q1 q2
            have HY := Lib.hid (And.intro hY (And.intro q0 (And.intro q1 q2)))
            have HZ := Lib.hid (And.intro hms (And.intro hn3 hlo))
            clear hY q0 q1 q2 hms hn3 hlo hy0
            go_wp2_with fail
            rw [HY.out.1]
            rw [HRR.out]
            change Leaves Try.prog Try.f10 _ (SPost w (s', 0)) _ .returning _
            refine door_ok _ rfl rfl HZ.out.1 (by omega) (by omega) rfl HZ.out.2.2 ?_ ?_ ?_ ?_
            · rw [heap_setCell_other _ ⟨w.heap.size + 1 + 1 + 1, 0, none⟩ _ _ (by simp)]; exact HY.out.2.1
            · rw [heap_setCell_same Y _ 0 _ _ _ ((HY.out.2.2.1 _ (by omega)).trans HZ.out.2.1)]; rfl
            · intro i h1 h2
              rw [heap_setCell_other _ ⟨w.heap.size + 1 + 1 + 1, 0, none⟩ _ _ h2]; exact HY.out.2.2.1 i h1
            · exact HY.out.2.2.2.1.setCell (by simp; omega) _
    · have hkb : (checkF s == 0) = true := beq_iff_eq.2 hk
      have hkc : (checkF s != 0) = false := by rw [bne_eq_false_iff_eq]; exact hk
      have hr : stepF s m = (St.zero, 1) := by unfold stepF; rw [if_pos hk, if_neg hm]
      rw [hr]
      have HK := Lib.hid hk
      have HM := Lib.hid hm
      clear hr hk
      go_enter_defers Try.func10, Try.ntmps10
      go_wp2_with fail
      rw [HW.out.1]
      (with_reducible refine (HC.out).mono ?_); rintro e w1 ⟨rfl, hb1⟩
      have hF := HF.out.below hb1
      have hHF := Lib.hid (And.intro hF hb1)
      have hz := fun j => cell_of_row _ (w.heap.size + 1 + 1) j _ _ _ hF.b2
      have z0 := hz 0
      have z1 := hz 1
      have z2 := hz 2
      have z3 := hz 3
      have z4 := hz 4
      have z5 := hz 5
      have z6 := hz 6
      have z7 := hz 7
      have z8 := hz 8
      simp at z0 z1 z2 z3 z4 z5 z6 z7 z8
      have fz0 := frozen_of_row _ (w.heap.size + 1 + 1) 0 _ _ hF.b2
      have fz1 := frozen_of_row _ (w.heap.size + 1 + 1) 1 _ _ hF.b2
      have fz2 := frozen_of_row _ (w.heap.size + 1 + 1) 2 _ _ hF.b2
      have fz3 := frozen_of_row _ (w.heap.size + 1 + 1) 3 _ _ hF.b2
      have fz4 := frozen_of_row _ (w.heap.size + 1 + 1) 4 _ _ hF.b2
      have fz5 := frozen_of_row _ (w.heap.size + 1 + 1) 5 _ _ hF.b2
      have fz6 := frozen_of_row _ (w.heap.size + 1 + 1) 6 _ _ hF.b2
      have fz7 := frozen_of_row _ (w.heap.size + 1 + 1) 7 _ _ hF.b2
      have fz8 := frozen_of_row _ (w.heap.size + 1 + 1) 8 _ _ hF.b2
      have hy := cell_of_row _ (w.heap.size + 1 + 1 + 1) 0 _ _ _ hF.b3
      simp at hy
      have fy := frozen_of_row _ (w.heap.size + 1 + 1 + 1) 0 _ _ hF.b3
      have k0 := cell_of_row _ (w.heap.size + 1) 0 _ _ _ hF.b1
      simp at k0
      clear hz hF hb1
      by_cases h1 : m.k < 1
      · have h1b := decide_eq_true h1
        have h1h := Lib.hid h1
        clear h1 hm
        go_wp2_with fail
        exact fail_end hHF.out.1 rfl (HW.out.2.1.trans (hHF.out.2.mono HW.out.2.1.size)) 1 _ rfl rfl
      · have h1b := decide_eq_false h1
        have h2 : decide (4 < m.k) = true := decide_eq_true (by omega)
        have h1h := Lib.hid h1
        clear h1 hm
        go_wp2_with fail
        exact fail_end hHF.out.1 rfl (HW.out.2.1.trans (hHF.out.2.mono HW.out.2.1.size)) 1 _ rfl rfl
  · have hkb : (checkF s == 0) = false := beq_eq_false_iff_ne.2 hk
    have hkc : (checkF s != 0) = true := by rw [bne_iff_ne]; exact hk
    have hr : stepF s m = (St.zero, checkF s) := by unfold stepF; rw [if_neg hk]
    rw [hr]
    have HK := Lib.hid hk
    clear hr hk
    go_enter_defers Try.func10, Try.ntmps10
    go_wp2_with fail
    rw [HW.out.1]
    (with_reducible refine (HC.out).mono ?_); rintro e w1 ⟨rfl, hb1⟩
    have hF := HF.out.below hb1
    have hHF := Lib.hid (And.intro hF hb1)
    have hz := fun j => cell_of_row _ (w.heap.size + 1 + 1) j _ _ _ hF.b2
    have z0 := hz 0
    have z1 := hz 1
    have z2 := hz 2
    have z3 := hz 3
    have z4 := hz 4
    have z5 := hz 5
    have z6 := hz 6
    have z7 := hz 7
    have z8 := hz 8
    simp at z0 z1 z2 z3 z4 z5 z6 z7 z8
    have fz0 := frozen_of_row _ (w.heap.size + 1 + 1) 0 _ _ hF.b2
    have fz1 := frozen_of_row _ (w.heap.size + 1 + 1) 1 _ _ hF.b2
    have fz2 := frozen_of_row _ (w.heap.size + 1 + 1) 2 _ _ hF.b2
    have fz3 := frozen_of_row _ (w.heap.size + 1 + 1) 3 _ _ hF.b2
    have fz4 := frozen_of_row _ (w.heap.size + 1 + 1) 4 _ _ hF.b2
    have fz5 := frozen_of_row _ (w.heap.size + 1 + 1) 5 _ _ hF.b2
    have fz6 := frozen_of_row _ (w.heap.size + 1 + 1) 6 _ _ hF.b2
    have fz7 := frozen_of_row _ (w.heap.size + 1 + 1) 7 _ _ hF.b2
    have fz8 := frozen_of_row _ (w.heap.size + 1 + 1) 8 _ _ hF.b2
    have hy := cell_of_row _ (w.heap.size + 1 + 1 + 1) 0 _ _ _ hF.b3
    simp at hy
    have fy := frozen_of_row _ (w.heap.size + 1 + 1 + 1) 0 _ _ hF.b3
    have k0 := cell_of_row _ (w.heap.size + 1) 0 _ _ _ hF.b1
    simp at k0
    clear hz hF hb1
    go_wp2_with fail
    exact fail_end hHF.out.1 rfl (HW.out.2.1.trans (hHF.out.2.mono HW.out.2.1.size)) (checkF s) _ rfl rfl
end Go.Proofs.Ythpcipfloofbcaa
