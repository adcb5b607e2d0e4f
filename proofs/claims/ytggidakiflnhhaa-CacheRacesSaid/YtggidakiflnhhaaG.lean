import Derived.Test.YtggidakiflnhhaaF
namespace Go.Proofs.Ytggidakiflnhhaa
open Go.RowKit
set_option maxHeartbeats 1000000
set_option maxRecDepth 100000
set_option linter.unusedSimpArgs false
set_option linter.unusedVariables false

/-! ### what the operations do, plainly -/
def upd {α : Type} (f : Nat → α) (i : Nat) (x : α) : Nat → α := fun j => if j = i then x else f j
/-- is a word dirty -/
def anyT (t : Nat → Bool) : Bool := t 0 || t 1 || t 2 || t 3
/-- the memory behind the writing of a dirty word -/
def wrS (e : En) (m : List Int) (i : Nat) : List Int := if e.t i = true then m.set (e.l * 4 + i) (e.d i) else m
def wrM (m : List Int) (e : En) : List Int := (List.range 4).foldl (wrS e) m
/-- an entry without dirty words -/
def clE (e : En) : En := if anyT e.t = true then { e with t := fun _ => false } else e
/-- the memory and the counts behind the writing of an entry -/
def wb (A : AS) (e : En) : AS := if anyT e.t = true then { A with m := wrM A.m e, wr := A.wr + 1 } else A
/-- a word of an entry is fetched -/
def ftS (m : List Int) (e : En) (i : Nat) : En := if e.v i = true then e else { e with d := upd e.d i (m.getD (e.l * 4 + i) 0), v := upd e.v i true }
def ftE (m : List Int) (e : En) : En := (List.range 4).foldl (ftS m) e
def newE (l : Nat) : En := ⟨l, fun _ => 0, fun _ => false, fun _ => false⟩
/-- what holds of each state of the system -/
structure Ok (c : Cf) (A : AS) : Prop where
  cf : cfOk c
  ml : (A.m.length : Int) = c.W
  cl : (A.cs.length : Int) = c.L
  len : ∀ (k : Nat) (es : List En), A.cs[k]? = some es → (es.length : Int) ≤ c.N
  lin : ∀ (k : Nat) (es : List En) (e : En), A.cs[k]? = some es → e ∈ es → e.l * 4 + 4 ≤ A.m.length
  uni : ∀ (k : Nat) (es : List En), A.cs[k]? = some es → (es.map En.l).Nodup
def cnt (A : AS) : Nat := A.f + A.wr + A.h
theorem wrS_len (e : En) (m : List Int) (i : Nat) : (wrS e m i).length = m.length := by unfold wrS; split <;> simp
theorem fold_wrS_len (e : En) (m : List Int) (is : List Nat) : (is.foldl (wrS e) m).length = m.length := by
  induction is generalizing m with
  | nil => rfl
  | cons i is ih => rw [List.foldl_cons, ih, wrS_len]
theorem wrM_len (m : List Int) (e : En) : (wrM m e).length = m.length := fold_wrS_len e m _
theorem wb_len (A : AS) (e : En) : (wb A e).m.length = A.m.length := by
  unfold wb; split
  · exact wrM_len _ _
  · rfl
theorem wb_cs (A : AS) (e : En) : (wb A e).cs = A.cs := by unfold wb; split <;> rfl
theorem wb_vs (A : AS) (e : En) : (wb A e).vs = A.vs := by unfold wb; split <;> rfl
theorem wb_cnt (A : AS) (e : En) : cnt (wb A e) ≤ cnt A + 1 := by unfold wb cnt; split <;> simp <;> omega
theorem clE_l (e : En) : (clE e).l = e.l := by unfold clE; split <;> rfl
theorem ftS_l (m : List Int) (e : En) (i : Nat) : (ftS m e i).l = e.l := by unfold ftS; split <;> rfl
theorem fold_ftS_l (m : List Int) (e : En) (is : List Nat) : (is.foldl (ftS m) e).l = e.l := by
  induction is generalizing e with
  | nil => rfl
  | cons i is ih => rw [List.foldl_cons, ih, ftS_l]
theorem ftE_l (m : List Int) (e : En) : (ftE m e).l = e.l := fold_ftS_l m e _
theorem range_succ_foldl {α : Type} (f : α → Nat → α) (a : α) (i : Nat) : (List.range (i + 1)).foldl f a = f ((List.range i).foldl f a) i := by
  rw [List.range_succ, List.foldl_append]; rfl
theorem En.at_d (e : En) (i : Nat) (h : i < 4) : e.cells[1 + i]? = some (.int .i64 (e.d i)) := by
  rcases show i = 0 ∨ i = 1 ∨ i = 2 ∨ i = 3 by omega with rfl | rfl | rfl | rfl <;> rfl
theorem En.at_v (e : En) (i : Nat) (h : i < 4) : e.cells[5 + i]? = some (.bool (e.v i)) := by
  rcases show i = 0 ∨ i = 1 ∨ i = 2 ∨ i = 3 by omega with rfl | rfl | rfl | rfl <;> rfl
theorem En.at_t (e : En) (i : Nat) (h : i < 4) : e.cells[9 + i]? = some (.bool (e.t i)) := by
  rcases show i = 0 ∨ i = 1 ∨ i = 2 ∨ i = 3 by omega with rfl | rfl | rfl | rfl <;> rfl
theorem En.set_d (e : En) (i : Nat) (h : i < 4) (x : Int) : e.cells.setIfInBounds (1 + i) (.int .i64 x) = ({ e with d := upd e.d i x } : En).cells := by
  rcases show i = 0 ∨ i = 1 ∨ i = 2 ∨ i = 3 by omega with rfl | rfl | rfl | rfl <;> rfl
theorem En.set_v (e : En) (i : Nat) (h : i < 4) (x : Bool) : e.cells.setIfInBounds (5 + i) (.bool x) = ({ e with v := upd e.v i x } : En).cells := by
  rcases show i = 0 ∨ i = 1 ∨ i = 2 ∨ i = 3 by omega with rfl | rfl | rfl | rfl <;> rfl
theorem En.set_t (e : En) (i : Nat) (h : i < 4) (x : Bool) : e.cells.setIfInBounds (9 + i) (.bool x) = ({ e with t := upd e.t i x } : En).cells := by
  rcases show i = 0 ∨ i = 1 ∨ i = 2 ∨ i = 3 by omega with rfl | rfl | rfl | rfl <;> rfl
/-- an entry in memory -/
def EnAt (w : World) (p : Nat) (e : En) : Prop := w.heap[p]? = some (.cells e.cells 115 (0, 0))
theorem EnAt.cell {w : World} {p : Nat} {e : En} (h : EnAt w p e) (j : Nat) (v : Value) (hv : e.cells[j]? = some v) : w.cell? ⟨p, j, none⟩ = some v := by
  rw [cell_of_row _ _ _ _ _ _ h]; exact hv
theorem EnAt.frozen {w : World} {p : Nat} {e : En} (h : EnAt w p e) (j : Nat) : w.frozen? ⟨p, j, none⟩ = false := frozen_of_row _ _ _ _ _ h
theorem EnAt.set {w : World} {p : Nat} {e e' : En} (h : EnAt w p e) (j : Nat) (v : Value) (hv : e.cells.setIfInBounds j v = e'.cells) : EnAt (w.setCell ⟨p, j, none⟩ v) p e' := by
  unfold EnAt
  rw [heap_setCell_same w p j _ 115 v h, hv]
theorem EnAt.rest {w w' : World} {p : Nat} {e : En} (h : EnAt w p e) (hb : Below w.heap.size w w') : EnAt w' p e := (hb.block _ (blk_lt h)).trans h
theorem EnAt.thirteen {w : World} {p : Nat} {e : En} (h : EnAt w p e) : w.cell? ⟨p, 0, none⟩ = some (.int .i64 (e.l : Int)) ∧ w.cell? ⟨p, 1, none⟩ = some (.int .i64 (e.d 0)) ∧ w.cell? ⟨p, 2, none⟩ = some (.int .i64 (e.d 1)) ∧ w.cell? ⟨p, 3, none⟩ = some (.int .i64 (e.d 2)) ∧ w.cell? ⟨p, 4, none⟩ = some (.int .i64 (e.d 3)) ∧ w.cell? ⟨p, 5, none⟩ = some (.bool (e.v 0)) ∧ w.cell? ⟨p, 6, none⟩ = some (.bool (e.v 1)) ∧ w.cell? ⟨p, 7, none⟩ = some (.bool (e.v 2)) ∧ w.cell? ⟨p, 8, none⟩ = some (.bool (e.v 3)) ∧ w.cell? ⟨p, 9, none⟩ = some (.bool (e.t 0)) ∧ w.cell? ⟨p, 10, none⟩ = some (.bool (e.t 1)) ∧ w.cell? ⟨p, 11, none⟩ = some (.bool (e.t 2)) ∧ w.cell? ⟨p, 12, none⟩ = some (.bool (e.t 3)) :=
  ⟨h.cell 0 _ rfl, h.cell 1 _ rfl, h.cell 2 _ rfl, h.cell 3 _ rfl, h.cell 4 _ rfl, h.cell 5 _ rfl, h.cell 6 _ rfl, h.cell 7 _ rfl, h.cell 8 _ rfl, h.cell 9 _ rfl, h.cell 10 _ rfl, h.cell 11 _ rfl, h.cell 12 _ rfl⟩
/-- the cells of the system's struct -/
theorem Sys.ten {c : Cf} {bs bm bc base : Nat} {hole : Option Nat} {sv : List Value} {vv : Value} {ps : List (List Nat)} {A : AS} {w : World} (h : Sys c bs bm bc base hole sv vv ps A w) :
    w.cell? ⟨bs, 0, none⟩ = some (.int .i64 c.L) ∧ w.cell? ⟨bs, 1, none⟩ = some (.int .i64 c.W) ∧ w.cell? ⟨bs, 2, none⟩ = some (.int .i64 c.N) ∧ w.cell? ⟨bs, 3, none⟩ = some (.int .i64 c.H) ∧ w.cell? ⟨bs, 4, none⟩ = some (.int .i64 (A.f : Int)) ∧ w.cell? ⟨bs, 5, none⟩ = some (.int .i64 (A.wr : Int)) ∧ w.cell? ⟨bs, 6, none⟩ = some (.int .i64 (A.h : Int)) ∧ w.cell? ⟨bs, 7, none⟩ = some (.slice (some ⟨bm, 0, none⟩) A.m.length A.m.length) ∧ w.cell? ⟨bs, 8, none⟩ = some (.slice (some ⟨bc, 0, none⟩) sv.length sv.length) ∧ w.cell? ⟨bs, 9, none⟩ = some vv ∧ ∀ j, w.frozen? ⟨bs, j, none⟩ = false := by
  refine ⟨?_, ?_, ?_, ?_, ?_, ?_, ?_, ?_, ?_, ?_, fun j => frozen_of_row _ _ _ _ _ h.top⟩ <;> (rw [cell_of_row _ _ _ _ _ _ h.top]; rfl)
theorem Sys.word {c : Cf} {bs bm bc base : Nat} {hole : Option Nat} {sv : List Value} {vv : Value} {ps : List (List Nat)} {A : AS} {w : World} (h : Sys c bs bm bc base hole sv vv ps A w) (k : Nat) (hk : k < A.m.length) : w.cell? ⟨bm, k, none⟩ = some (.int .i64 (A.m.getD k 0)) ∧ w.frozen? ⟨bm, k, none⟩ = false := by
  refine ⟨?_, frozen_of_row _ _ _ _ _ h.mem⟩
  rw [cell_of_row _ _ _ _ _ _ h.mem, getD_in _ _ hk]
  simp [memC, hk]
theorem Sys.at {c : Cf} {bs bm bc base : Nat} {hole : Option Nat} {sv : List Value} {vv : Value} {ps : List (List Nat)} {A : AS} {w : World} (h : Sys c bs bm bc base hole sv vv ps A w) (k : Nat) (v : Value) (hk : sv[k]? = some v) : w.cell? ⟨bc, k, none⟩ = some v ∧ w.frozen? ⟨bc, k, none⟩ = false := by
  refine ⟨?_, frozen_of_row _ _ _ _ _ h.tab⟩
  rw [cell_of_row _ _ _ _ _ _ h.tab]
  simpa using hk
end Go.Proofs.Ytggidakiflnhhaa
