import Derived.Test.YthpcipfloofbcaaBD
import Derived.BigRegion
import Derived.Deep.DeepCutAuto
namespace Go.Proofs.Ythpcipfloofbcaa
open Go.RowKit
set_option maxHeartbeats 8000000
set_option maxRecDepth 100000
set_option linter.unusedSimpArgs false
set_option linter.unusedVariables false

theorem copied_results (tmps : Array Value) (X : World) (bo : Nat) (r : St) (Mv Fv : Value) (h4 : tmps[2]?.getD undef = .pointer (some ⟨bo, 0, none⟩))
    (hb : X.heap[bo]? = some (.cells (cellsS r Mv Fv) 44 (0, 0))) :
    (results Try.f36 tmps).run Try.prog X = .ok (.agg (cellsS r Mv Fv)) X := by
  obtain ⟨z0, z1, z2, z3, z4, z5, z6, z7, z8⟩ := nineT hb
  simp [results, Try.results36, go_sem, h4, z0, z1, z2, z3, z4, z5, z6, z7, z8]

/-- a copy: rows of its own -/
def CPost (s : St) (w : World) (e : Ending) (w' : World) : Prop := ∃ g c Fv, e = .returned (.agg (cellsS s (.slice (some ⟨g, 0, none⟩) s.ms.length c) Fv)) ∧ Own encM 3 79 w' w.heap.size (.slice (some ⟨g, 0, none⟩) s.ms.length c) s.ms ∧ Own encI 1 3 w' w.heap.size Fv s.fl ∧ Below w.heap.size w w'

structure CI (w : World) (s : St) (g cc : Nat) (B : Option Addr) (d : Nat) (X : World) : Prop where
  lo : Below w.heap.size w X
  sz : w.heap.size + 2 ≤ X.heap.size
  r0 : X.heap[w.heap.size]? = some (.cells (cellsS s (.slice (some ⟨g, 0, none⟩) s.ms.length cc) (.slice B s.fl.length d)) 44 (0, 0))
  r1 : X.heap[w.heap.size + 1]? = some (.cells zeroS 44 (0, 0))
  om : Own encM 3 79 X (w.heap.size + 2) (.slice (some ⟨g, 0, none⟩) s.ms.length cc) s.ms

/-- what the last region leaves -/
theorem copied_end {w Y : World} {s : St} {g cc : Nat} {Fv : Value} (hlo : Below w.heap.size w Y) (hr1 : Y.heap[w.heap.size + 1]? = some (.cells zeroS 44 (0, 0))) (hm : Own encM 3 79 Y (w.heap.size + 2) (.slice (some ⟨g, 0, none⟩) s.ms.length cc) s.ms) (hf : Own encI 1 3 Y (w.heap.size + 2) Fv s.fl) {Z : World}
    (hZ : (((((((((Y.setCell ⟨w.heap.size + 1, 0, none⟩ (.slice (some ⟨g, 0, none⟩) s.ms.length cc)).setCell ⟨w.heap.size + 1, 1, none⟩ Fv).setCell ⟨w.heap.size + 1, 2, none⟩ (.int .i64 s.wn)).setCell ⟨w.heap.size + 1, 3, none⟩ (.int .i64 s.ws)).setCell ⟨w.heap.size + 1, 4, none⟩ (.int .i64 s.wr)).setCell ⟨w.heap.size + 1, 5, none⟩ (.int .i64 s.ls)).setCell ⟨w.heap.size + 1, 6, none⟩ (.int .i64 s.lr)).setCell ⟨w.heap.size + 1, 7, none⟩ (.int .i64 s.wv)).setCell ⟨w.heap.size + 1, 8, none⟩ (.bool s.told)) = Z) :
    Z.heap[w.heap.size + 1]? = some (.cells (cellsS s (.slice (some ⟨g, 0, none⟩) s.ms.length cc) Fv) 44 (0, 0)) ∧ CPost s w (.returned (.agg (cellsS s (.slice (some ⟨g, 0, none⟩) s.ms.length cc) Fv))) Z := by
  have q0 := filledT (s0 := St.zero) (M0 := .slice none 0 0) (F0 := .slice none 0 0) (.slice (some ⟨g, 0, none⟩) s.ms.length cc) Fv (.int .i64 s.wn) (.int .i64 s.ws) (.int .i64 s.wr) (.int .i64 s.ls) (.int .i64 s.lr) (.int .i64 s.wv) (.bool s.told) hr1
  have q2 := filled_other (w := Y) (bo := w.heap.size + 1) (.slice (some ⟨g, 0, none⟩) s.ms.length cc) Fv (.int .i64 s.wn) (.int .i64 s.ws) (.int .i64 s.wr) (.int .i64 s.ls) (.int .i64 s.lr) (.int .i64 s.wv) (.bool s.told)
  have q3 := filled_below w.heap.size Y (w.heap.size + 1) (by omega) (.slice (some ⟨g, 0, none⟩) s.ms.length cc) Fv (.int .i64 s.wn) (.int .i64 s.ws) (.int .i64 s.wr) (.int .i64 s.ls) (.int .i64 s.lr) (.int .i64 s.wv) (.bool s.told)
  rw [hZ] at q0 q2 q3
  have hg : Y.grownBy Z (some (w.heap.size + 1)) := ⟨q3.1.os, q3.1.tape, q3.1.output, q3.1.size, fun i _ hi => q2 i (fun e => hi (by rw [e]))⟩
  refine ⟨q0, g, cc, Fv, rfl, World.ownsRow.mono (hm.grown hg (.inr fun e => ?_)) (by omega), World.ownsRow.mono (hf.grown hg ?_) (by omega), hlo.trans q3.1⟩
  · have := (hm.blk _ e).1; omega
  · cases hb : Fv.ownBlock with
    | none => exact .inl rfl
    | some k => right; intro e; cases e; have := (hf.blk _ hb).1; omega


theorem copied_mid {w X X3 : World} {s : St} {g cc : Nat} {B : Option Addr} {d : Nat} {Fv : Value} (h : CI w s g cc B d X) (hb : Below X.heap.size X X3) (ho : Own encI 1 3 X3 (w.heap.size + 2) Fv s.fl) {Y : World} (hY : X3.setCell ⟨w.heap.size, 1, none⟩ Fv = Y) :
    Y.heap[w.heap.size]? = some (.cells (cellsS s (.slice (some ⟨g, 0, none⟩) s.ms.length cc) Fv) 44 (0, 0)) ∧ Y.heap[w.heap.size + 1]? = some (.cells zeroS 44 (0, 0)) ∧ Own encM 3 79 Y (w.heap.size + 2) (.slice (some ⟨g, 0, none⟩) s.ms.length cc) s.ms ∧ Own encI 1 3 Y (w.heap.size + 2) Fv s.fl ∧ Below w.heap.size w Y := by
  have g1 : X3.grownBy Y (some w.heap.size) := by rw [← hY]; exact ⟨rfl, rfl, rfl, by simp, fun i _ hi => heap_setCell_other X3 ⟨w.heap.size, 1, none⟩ i _ (fun e => hi (by simp [e]))⟩
  have hsz := h.sz
  have hs3 := hb.size
  have r0 := (hb.block _ (by omega)).trans h.r0
  refine ⟨?_, ?_, (own_rest h.om hb).grown g1 (.inr fun e => ?_), ho.grown g1 ?_, (h.lo.trans (hb.mono h.lo.size)).grown g1 (by omega) (fun k hk => by cases hk; omega)⟩
  · rw [← hY, heap_setCell_same X3 w.heap.size 1 _ _ _ r0]; simp [cellsS]
  · rw [g1.block _ (by omega) (by simp), hb.block _ (by omega)]; exact h.r1
  · have := (h.om.blk _ e).1; omega
  · cases hv : Fv.ownBlock with
    | none => exact .inl rfl
    | some k => right; intro e; cases e; have := (ho.blk _ hv).1; omega

theorem rcopied_calls (s : St) (A : Option Addr) (c : Nat) (B : Option Addr) (d : Nat) (w : World) (h : RdS w A B s) (hf : Fine s) :
    Calls Try.prog 36 #[s.v A c B d] w (CPost s w) := by
  cases A with
  | none => exact absurd h.ms.none (fun e => by have := hf.n0; rw [e] at this; simp at this)
  | some a =>
    obtain ⟨W, hW⟩ : ∃ W, (w.alloc (.cells (cellsS s (.slice (some a) s.ms.length c) (.slice B s.fl.length d)) 44)).alloc (.cells zeroS 44) = W := ⟨_, rfl⟩
    have hb : Below w.heap.size w W := by
      rw [← hW]
      exact ((Below.refl _ _).alloc (Nat.le_refl _) _).alloc (by simp) _
    have hsz : W.heap.size = w.heap.size + 2 := by rw [← hW]; simp
    have hb0 : W.heap[w.heap.size]? = some (.cells (cellsS s (.slice (some a) s.ms.length c) (.slice B s.fl.length d)) 44 (0, 0)) := by
      rw [← hW, Below.heap_alloc _ _ _ (by simp)]; exact heap_alloc_new w _
    have hb1 : W.heap[w.heap.size + 1]? = some (.cells zeroS 44 (0, 0)) := by
      rw [← hW]
      have := heap_alloc_new (w.alloc (.cells (cellsS s (.slice (some a) s.ms.length c) (.slice B s.fl.length d)) 44)) (.cells zeroS 44)
      simpa using this
    have hnb := hf.n1
    have hfb := hf.fl
    have hn0 := hf.n0
    obtain ⟨W2, hW2⟩ : ∃ W2, W.alloc (.cells #[] 79) = W2 := ⟨_, rfl⟩
    have hb2 : Below W.heap.size W W2 := by rw [← hW2]; exact (Below.refl _ _).alloc (Nat.le_refl _) _
    have hown0 : Own encM 3 79 W2 (w.heap.size + 2) (.slice (some ⟨W.heap.size, 0, none⟩) 0 0) [] := by rw [← hW2]; exact Own.empty _ _ _ _ _ (by omega)
    have hs2 : W2.heap.size = w.heap.size + 3 := by rw [← hW2]; simp; omega
    have z0 := (nineT hb0).1
    have HW := Lib.hid (And.intro hW (And.intro hb (And.intro hsz (And.intro hb0 hb1))))
    have H2 := Lib.hid (And.intro hW2 (And.intro hown0 (And.intro ((h.below hb).below hb2) (And.intro (show (([] : List Mem).length + s.ms.length) * 24 ≤ 140737488355328 by simp; omega) (And.intro (show w.heap.size + 2 ≤ W2.heap.size by omega) (And.intro ((hb2.block _ (by omega)).trans hb0) (And.intro ((hb2.block _ (by omega)).trans hb1) (And.intro hs2 (hb.trans (hb2.mono (by omega)))))))))))
    have zz0 : (W.alloc (.cells #[] 79)).cell? ⟨w.heap.size, 0, none⟩ = some (.slice (some a) s.ms.length c) := by rw [hW2]; exact (nineT ((hb2.block _ (by omega)).trans hb0)).1
    have HN := Lib.hid (And.intro hf hn0)
    have HR := Lib.hid h
    clear hW hb hsz hb0 hb1 hW2 hb2 hown0 hs2 h hf hn0
    go_enter Try.func36, Try.ntmps36
    go_upto_region 1 with fail
    rw [HW.out.1]
    go_upto_region 2 with (at_builtin; go_loud (rw [H2.out.1]; refine wpList_append_typed lenM oneM W2 rfl (.tmp 3) (.tmp 5) 41 rfl (w.heap.size + 2) 79 (.agg #[.bool false, .int .i64 0, .int .i64 0]) 24 Try.underlying41 info79 rfl (by decide) (by decide) _ [] rfl H2.out.2.1 a s.ms.length c s.ms rfl rfl H2.out.2.2.1.ms H2.out.2.2.2.1 H2.out.2.2.2.2.1 ?_; intro v' w1 hown1 hgrow; rw [List.nil_append] at hown1; obtain ⟨g, cc, rfl, _, _⟩ := World.ownsRow.form hown1 HN.out.2; replace hgrow : W2.grownBy w1 (some W.heap.size) := hgrow; have hrow1 := (hgrow.block w.heap.size (by have := H2.out.2.2.2.2.2.2.2.1; omega) (by rw [HW.out.2.2.1]; simp)).trans H2.out.2.2.2.2.2.1; have t0 := (nineT hrow1).1; have f0 := (nineFT hrow1).1; have HO := Lib.hid (And.intro hown1 (And.intro hgrow hrow1)); clear hown1 hgrow hrow1))
    obtain ⟨X, hX⟩ : ∃ X, w1.setCell ⟨w.heap.size, 0, none⟩ (.slice (some ⟨g, 0, none⟩) s.ms.length cc) = X := ⟨_, rfl⟩
    have hci : CI w s g cc B d X := by
      have ho := HO.out.1
      have hg := HO.out.2.1
      have hown : ∀ k, some W.heap.size = some k → k = w.heap.size + 2 := fun k hk => by
        have := HW.out.2.2.1
        simp only [Option.some.injEq] at hk
        omega
      have g1 : w1.grownBy X (some w.heap.size) := by rw [← hX]; exact ⟨rfl, rfl, rfl, by simp, fun i _ hi => heap_setCell_other w1 ⟨w.heap.size, 0, none⟩ i _ (fun e => hi (by simp [e]))⟩
      have hs2 := H2.out.2.2.2.2.2.2.2.1
      refine ⟨?_, ?_, ?_, ?_, ho.grown g1 (.inr fun e => ?_)⟩
      · exact (H2.out.2.2.2.2.2.2.2.2.grown hg (by omega) (fun k hk => by have := hown k hk; omega)).grown g1 (by have := hg.size; omega) (fun k hk => by cases hk; omega)
      · have := hg.size; have := g1.size; omega
      · rw [← hX, heap_setCell_same w1 w.heap.size 0 _ _ _ HO.out.2.2]; simp [cellsS]
      · rw [g1.block _ (by have := hg.size; omega) (by simp), hg.block _ (by omega) (fun e => by have := hown _ e.symm; omega)]
        exact H2.out.2.2.2.2.2.2.1
      · have := (ho.blk _ e).1; omega
    have HX := Lib.hid (And.intro hX hci)
    clear hX hci zz0 z0 t0 f0
    rw [HX.out.1]
    have x1 := (nineT HX.out.2.r0).2.1
    obtain ⟨X2, hX2⟩ : ∃ X2, X.alloc (.cells #[] 3) = X2 := ⟨_, rfl⟩
    have hxb : Below X.heap.size X X2 := by rw [← hX2]; exact (Below.refl _ _).alloc (Nat.le_refl _) _
    have hxs : X2.heap.size = X.heap.size + 1 := by rw [← hX2]; simp
    have hx0 : Own encI 1 3 X2 (w.heap.size + 2) (.slice (some ⟨X.heap.size, 0, none⟩) 0 0) [] := by rw [← hX2]; exact Own.empty _ _ _ _ _ HX.out.2.sz
    have xx1 : (X.alloc (.cells #[] 3)).cell? ⟨w.heap.size, 1, none⟩ = some (.slice B s.fl.length d) := by rw [hX2]; exact (nineT ((hxb.block _ (by have := HX.out.2.sz; omega)).trans HX.out.2.r0)).2.1
    have H3 := Lib.hid (And.intro hX2 (And.intro hx0 (And.intro hxb (And.intro hxs (HR.out.fl.below (HX.out.2.lo.trans (hxb.mono HX.out.2.lo.size)))))))
    clear hX2 hxb hxs hx0
    cases B with
    | none =>
      have hnil := HR.out.fl.none
      have hlen : s.fl.length = 0 := by rw [hnil]; rfl
      obtain ⟨Y, hY⟩ : ∃ Y, X2.setCell ⟨w.heap.size, 1, none⟩ (.slice (some ⟨X.heap.size, 0, none⟩) 0 0) = Y := ⟨_, rfl⟩
      have hmid := copied_mid HX.out.2 H3.out.2.2.1 (by rw [hnil]; exact H3.out.2.1) hY
      rw [← H3.out.1] at hY
      have HY := Lib.hid (And.intro hY hmid)
      have HL := Lib.hid hnil
      clear hY hmid hnil
      have ff1 : (X.alloc (.cells #[] 3)).frozen? ⟨w.heap.size, 1, none⟩ = false := by rw [H3.out.1]; exact (nineFT ((H3.out.2.2.1.block _ (by have := HX.out.2.sz; omega)).trans HX.out.2.r0)).2.1
      go_upto_region 3 with fail
      clear xx1 x1 ff1 hlen
      have hr1' : Y.heap[w.heap.size + 1]? = some (.cells (cellsS St.zero (.slice none 0 0) (.slice none 0 0)) 44 (0, 0)) := HY.out.2.2.1
      obtain ⟨z0, z1, z2, z3, z4, z5, z6, z7, z8⟩ := nineT HY.out.2.1
      obtain ⟨y0, y1, y2, y3, y4, y5, y6, y7, y8⟩ := nineT hr1'
      obtain ⟨f0, f1', f2, f3, f4, f5, f6, f7, f8⟩ := nineFT hr1'
      clear hr1'
      rw [HY.out.1]
      go_wp2_with fail
      obtain ⟨Z, hZ⟩ : ∃ Z, (((((((((Y.setCell ⟨w.heap.size + 1, 0, none⟩ (.slice (some ⟨g, 0, none⟩) s.ms.length cc)).setCell ⟨w.heap.size + 1, 1, none⟩ (.slice (some ⟨X.heap.size, 0, none⟩) 0 0)).setCell ⟨w.heap.size + 1, 2, none⟩ (.int .i64 s.wn)).setCell ⟨w.heap.size + 1, 3, none⟩ (.int .i64 s.ws)).setCell ⟨w.heap.size + 1, 4, none⟩ (.int .i64 s.wr)).setCell ⟨w.heap.size + 1, 5, none⟩ (.int .i64 s.ls)).setCell ⟨w.heap.size + 1, 6, none⟩ (.int .i64 s.lr)).setCell ⟨w.heap.size + 1, 7, none⟩ (.int .i64 s.wv)).setCell ⟨w.heap.size + 1, 8, none⟩ (.bool s.told)) = Z := ⟨_, rfl⟩
      rw [hZ]
      obtain ⟨e1, e2⟩ := copied_end HY.out.2.2.2.2.2 HY.out.2.2.1 HY.out.2.2.2.1 HY.out.2.2.2.2.1 hZ
      exact bodyPost_ret (copied_results _ Z _ s _ _ rfl e1) rfl e2
    | some b =>
      have hby : (([] : List Int).length + s.fl.length) * 8 ≤ 140737488355328 := by simp; omega
      have H4 := Lib.hid (And.intro hby (show w.heap.size + 2 ≤ X2.heap.size by have := H3.out.2.2.2.1; have := HX.out.2.sz; omega))
      clear hby
      go_upto_region 3 with (at_builtin; go_loud (rw [H3.out.1]; refine wpList_append_typed lenI oneI X2 rfl (.tmp 8) (.tmp 10) 23 rfl (w.heap.size + 2) 3 (.int .i64 0) 8 Try.underlying23 info3 rfl (by decide) (by decide) _ [] rfl H3.out.2.1 b s.fl.length d s.fl rfl rfl H3.out.2.2.2.2 H4.out.1 H4.out.2 ?_; intro v' w3 hown1 hgrow; rw [List.nil_append] at hown1; obtain ⟨S, e, rfl, _, _, _⟩ := hown1.form lenI; replace hgrow : X2.grownBy w3 (some X.heap.size) := hgrow; have hrow1 := (hgrow.block w.heap.size (by have := H3.out.2.2.2.1; have := HX.out.2.sz; omega) (by have := HX.out.2.sz; simp; omega)).trans ((H3.out.2.2.1.block _ (by have := HX.out.2.sz; omega)).trans HX.out.2.r0); have t1 := (nineT hrow1).2.1; have f1 := (nineFT hrow1).2.1; have HO2 := Lib.hid (And.intro hown1 (And.intro hgrow hrow1)); clear hown1 hgrow hrow1))
      have hb3 : Below X.heap.size X w3 := H3.out.2.2.1.grown HO2.out.2.1 (by have := H3.out.2.2.2.1; omega) (fun k hk => by cases hk; omega)
      obtain ⟨Y, hY⟩ : ∃ Y, w3.setCell ⟨w.heap.size, 1, none⟩ (.slice S s.fl.length e) = Y := ⟨_, rfl⟩
      have hmid := copied_mid HX.out.2 hb3 HO2.out.1 hY
      have HY := Lib.hid (And.intro hY hmid)
      clear hY hmid hb3 xx1 x1 t1 f1
      have hr1' : Y.heap[w.heap.size + 1]? = some (.cells (cellsS St.zero (.slice none 0 0) (.slice none 0 0)) 44 (0, 0)) := HY.out.2.2.1
      obtain ⟨z0, z1, z2, z3, z4, z5, z6, z7, z8⟩ := nineT HY.out.2.1
      obtain ⟨y0, y1, y2, y3, y4, y5, y6, y7, y8⟩ := nineT hr1'
      obtain ⟨f0, f1', f2, f3, f4, f5, f6, f7, f8⟩ := nineFT hr1'
      clear hr1'
      rw [HY.out.1]
      go_wp2_with fail
      obtain ⟨Z, hZ⟩ : ∃ Z, (((((((((Y.setCell ⟨w.heap.size + 1, 0, none⟩ (.slice (some ⟨g, 0, none⟩) s.ms.length cc)).setCell ⟨w.heap.size + 1, 1, none⟩ (.slice S s.fl.length e)).setCell ⟨w.heap.size + 1, 2, none⟩ (.int .i64 s.wn)).setCell ⟨w.heap.size + 1, 3, none⟩ (.int .i64 s.ws)).setCell ⟨w.heap.size + 1, 4, none⟩ (.int .i64 s.wr)).setCell ⟨w.heap.size + 1, 5, none⟩ (.int .i64 s.ls)).setCell ⟨w.heap.size + 1, 6, none⟩ (.int .i64 s.lr)).setCell ⟨w.heap.size + 1, 7, none⟩ (.int .i64 s.wv)).setCell ⟨w.heap.size + 1, 8, none⟩ (.bool s.told)) = Z := ⟨_, rfl⟩
      rw [hZ]
      obtain ⟨e1, e2⟩ := copied_end HY.out.2.2.2.2.2 HY.out.2.2.1 HY.out.2.2.2.1 HY.out.2.2.2.2.1 hZ
      exact bodyPost_ret (copied_results _ Z _ s _ _ rfl e1) rfl e2
end Go.Proofs.Ythpcipfloofbcaa
