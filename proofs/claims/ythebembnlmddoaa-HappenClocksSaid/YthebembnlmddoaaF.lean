import Derived.Test.YthebembnlmddoaaD
namespace Go.Proofs.Ythebembnlmddoaa
open Go.RowKit
set_option maxHeartbeats 8000000
set_option maxRecDepth 100000
set_option linter.unusedSimpArgs false
set_option linter.unusedVariables false

theorem info42 : (Try.prog.info? 42).map (fun i => (i.zero, i.size, i.bytes)) = some (some (.agg #[.int .i64 0, .int .i64 0, .int .i64 0, .int .i64 0, .int .i64 0, .int .i64 0, .int .i64 0, .int .i64 0, .int .i64 0, .int .i64 0, .int .i64 0]), 11, 88) := by kernel_rfl
theorem own_calls (l : List Ev) (A : Option Addr) (c : Nat) (w : World) (hx : Rd encE 11 w A l) (hb : l.length * 88 ≤ 140737488351232) :
    Calls Try.prog 15 #[.slice A l.length c] w (ClonePost encE 11 42 l w) := by
  have hl := hx.small
  have HX := Lib.hid hx
  clear hx
  go_enter Try.func15, Try.ntmps15
  go_wp2
  go_loopg [3, 5, 8, 9, 10, 11, 12, 13, 14, 15, 16] (l.length) (fun g v3 v5 v8 v9 v10 v11 v12 v13 v14 v15 v16 wr => ∃ k : Nat, k + g = l.length ∧ v8 = .int .i64 k ∧ (∃ S c, v3 = .slice S k c ∧ Own encE 11 42 wr w.heap.size (.slice S k c) (l.take k)) ∧ Below w.heap.size w wr)
  case atStart => exact ⟨0, by omega, rfl, ⟨none, 0, rfl, World.ownsRow_nil _ _ _ _⟩, Below.refl _ _⟩
  case round =>
    obtain ⟨k, hk, rfl, ⟨S, c1, rfl, ho⟩, hbl⟩ := hrel
    by_cases hlt : k < l.length
    · have hb1 : decide (k < l.length) = true := decide_eq_true hlt
      cases A with
      | none =>
        exfalso
        obtain ⟨a, ha, _⟩ := HX.out.cell k hlt
        cases ha
      | some a =>
      have hcs := ev_cells (HX.out.below hbl) k hlt
      have hst := take_snoc l k hlt
      generalize l[k] = e at *
      obtain ⟨W5, hW5⟩ : ∃ W5, wr.alloc (.cells e.cells 93) = W5 := ⟨_, rfl⟩
      have hb5 : Below wr.heap.size wr W5 := by rw [← hW5]; exact (Below.refl _ _).alloc (Nat.le_refl _) _
      have hbox : W5.heap[wr.heap.size]? = some (.cells e.cells 93 (0, 0)) := by rw [← hW5]; exact Go.heap_alloc_new wr _
      have hcb : ∀ j v, (encE e)[j]? = some v → W5.cell? ((⟨wr.heap.size, 0, none⟩ : Addr).add j) = some v := fun j v hv => by
        rw [add_at, cell_of_row _ _ _ _ _ _ hbox]
        simpa using hv
      have hlen : (l.take k).length = k := by rw [List.length_take]; omega
      have hb6 : Below W5.heap.size W5 (W5.alloc (.cells e.cells 42)) := (Below.refl _ _).alloc (Nat.le_refl _) _
      have HY := Lib.hid (And.intro hcs (And.intro hst (And.intro hcb (And.intro hlen (And.intro ((ho.rest hb5).rest hb6) (And.intro (hbl.trans ((hb5.trans (hb6.mono hb5.size)).mono hbl.size)) (show (k + 1) * 88 ≤ 140737488355328 by omega)))))))
      clear hcs hst hcb hlen ho hbl hb5 hb6 hbox
      go_upto_region 5 with (refine wpList_load_ev rfl _ 93 (Or.inr rfl) rfl (a.add (k * 11)) e rfl HY.out.1 ?_)
      try rw [hW5]
      clear hW5
      go_wp2_with (first | (refine wpList_load_ev rfl _ 93 (Or.inr rfl) rfl ⟨wr.heap.size, 0, none⟩ e rfl HY.out.2.2.1 ?_) | (at_builtin; refine wpList_append_told lenE oneE _ rfl (.tmp 12) (.tmp 14) 24 rfl w.heap.size 42 _ 88 Try.underlying24 info42 rfl (by decide) (by decide) (.slice S k c1) (l.take k) k HY.out.2.2.2.1 rfl HY.out.2.2.2.2.1 ⟨W5.heap.size, 0, none⟩ 1 1 [e] rfl rfl (by decide) (rd_one encE 11 _ e 42 _ rfl _ rfl) HY.out.2.2.2.2.2.2 (Nat.le_trans HY.out.2.2.2.2.2.1.size (Nat.le_refl _)) ?_; intro g1 cap1 w1 hown hgr hl1; have HG := Lib.hid (And.intro hown hgr); clear hown hgr hl1))
      go_roundg (gk - 1)
      case measure => omega
      case rel =>
        refine ⟨k + 1, by omega, by go_num, ⟨_, _, rfl, ?_⟩, HY.out.2.2.2.2.2.1.grown HG.out.2 HY.out.2.2.2.2.2.1.size (fun j hj => (HY.out.2.2.2.2.1.blk j hj).1)⟩
        rw [HY.out.2.1]
        exact HG.out.1
    · have hb1 : decide (k < l.length) = false := decide_eq_false hlt
      have hkl : k = l.length := by omega
      subst hkl
      rw [List.take_length] at ho
      have HO := Lib.hid (And.intro ho hbl)
      clear ho hbl
      go_wp2_with fail
      go_ret
      exact ⟨_, rfl, HO.out.1, HO.out.2⟩
end Go.Proofs.Ythebembnlmddoaa
