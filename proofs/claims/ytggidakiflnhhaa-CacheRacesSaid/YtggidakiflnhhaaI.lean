import Derived.Test.YtggidakiflnhhaaH
import Derived.BigRegion
import Derived.LaidEqlPtr
import Derived.Deep.RegionHeldLaw
import Derived.Deep.DeepCutAuto
namespace Go.Proofs.Ytggidakiflnhhaa
open Go.RowKit
set_option maxHeartbeats 8000000
set_option maxRecDepth 100000
set_option linter.unusedSimpArgs false
set_option linter.unusedVariables false

theorem bb_drew {B : Nat} {w W : World} (h : Below B w W) : Below B w W.drew := ⟨h.os, h.tape, h.output, h.size, h.block⟩
section
variable {c : Cf} {bs bm bc base : Nat} {hole : Option Nat} {sv : List Value} {vv : Value} {ps : List (List Nat)} {A : AS} {w w' : World}
theorem Sys.nodup (h : Sys c bs bm bc base hole sv vv ps A w) {k : Nat} {l : List Nat} (hk : ps[k]? = some l) : l.Nodup := by
  refine List.pairwise_iff_getElem.2 (fun i j hi hj hij e => ?_)
  have e1 := List.getElem?_eq_getElem hi
  have := h.inj k l i k l j l[i] hk e1 hk (by rw [e]; exact List.getElem?_eq_getElem hj)
  omega
theorem Sys.sv_at (h : Sys c bs bm bc base hole sv vv ps A w) {k : Nat} {l : List Nat} (hk : ps[k]? = some l) : ∃ v, sv[k]? = some v := ⟨_, List.getElem?_eq_getElem (by rw [h.ls]; exact (List.getElem?_eq_some_iff.1 hk).1)⟩
end
theorem Own.big {α : Type} {enc : α → List Value} {sz : Nat} {e : TypeId} {w : World} {base : Nat} {v : Value} {xs : List α} (h : Own enc sz e w base v xs) (h0 : 0 < xs.length) : ∃ g cp, v = .slice (some ⟨g, 0, none⟩) xs.length cp := by
  rcases h.2 with ⟨_, h'⟩ | ⟨g, cap, cur, rfl, _⟩
  · omega
  · exact ⟨g, cap, rfl⟩
/-- has the entry at a pointer the line x -/
def pE (l : List Nat) (es : List En) (x : Nat) (q : Nat) : Bool := decide ((es.map En.l)[l.idxOf q]? = some x)
theorem pE_at {l : List Nat} {es : List En} (hn : l.Nodup) (hl : es.length = l.length) (x j : Nat) (hj : j < l.length) : pE l es x l[j] = decide ((es[j]'(by omega)).l = x) := by
  unfold pE
  rw [List.Nodup.idxOf_getElem hn j hj, List.getElem?_map, List.getElem?_eq_getElem (by omega)]
  simp
def fiF (es : List En) (x : Nat) : Option Nat := es.findIdx? (fun e => decide (e.l = x))
theorem pE_find {l : List Nat} {es : List En} (hn : l.Nodup) (hl : es.length = l.length) (x : Nat) : idxF (pE l es x) l = match fiF es x with | some i => (i : Int) | none => -1 := by
  unfold fiF
  cases h : es.findIdx? (fun e => decide (e.l = x)) with
  | none =>
    rw [List.findIdx?_eq_none_iff] at h
    refine idxF_none _ _ (fun j hj => ?_)
    rw [pE_at hn hl x j hj]
    simpa using h es[j] (List.getElem_mem _)
  | some i =>
    rw [List.findIdx?_eq_some_iff_getElem] at h
    obtain ⟨hi, h1, h2⟩ := h
    refine idxF_at _ _ i (by omega) ?_ (fun j hj => ?_)
    · rw [pE_at hn hl x i (by omega)]; simpa using h1
    · rw [pE_at hn hl x j (by omega)]; simpa using h2 j hj
theorem lineIs_calls (e : En) (p b x : Nat) (w : World) (he : EnAt w p e) (hb : w.heap[b]? = some (.cells #[.int .i64 (x : Int)] 3 (0, 0))) : Calls Try.prog 64 #[ptr p, ptr b] w fun y w' => y = .returned (.bool (decide (e.l = x))) ∧ Below w.heap.size w w' := by
  have z0 := he.thirteen.1
  have x0 : w.cell? ⟨b, 0, none⟩ = some (.int .i64 (x : Int)) := by rw [cell_of_row _ _ _ _ _ _ hb]; rfl
  clear he hb
  have e1 : ((e.l : Int) == (x : Int)) = decide (e.l = x) := by
    by_cases h : e.l = x
    · simp [h]
    · simp [h]; omega
  go_enter Try.func64, Try.ntmps64
  go_upto_region 1 with fail
  go_quiet (fail)
  go_wp2_with fail
  go_ret
  exact ⟨ret_bool (by first | rfl | exact e1 | simp), drewN_below (Below.refl _ _) _⟩
theorem info115 : (Try.prog.info? 115).map (fun i => i.size) = some 13 := by kernel_rfl
theorem isIt_calls (q p b : Nat) (e f : En) (w : World) (hq : EnAt w q e) (hp : EnAt w p f) (hb : w.heap[b]? = some (.cells #[ptr p] 100 (0, 0))) : Calls Try.prog 66 #[ptr q, ptr b] w fun y w' => y = .returned (.bool (decide (q = p))) ∧ Below w.heap.size w w' := by
  have x0 : w.cell? ⟨b, 0, none⟩ = some (ptr p) := by rw [cell_of_row _ _ _ _ _ _ hb]; rfl
  obtain ⟨j, hj, hs⟩ : ∃ j, Try.prog.info? 115 = some j ∧ j.size = 13 := by
    have := info115
    cases h : Try.prog.info? 115 with
    | none => rw [h] at this; simp at this
    | some j => rw [h] at this; exact ⟨j, rfl, by simpa using this⟩
  by_cases e : q = p
  · subst e
    have hr := run_eql_ptr_same (P := Try.prog) w (te := 115) (j := j) (⟨q, 0, none⟩ : Addr) Try.underlying100 hj
    clear hq hp hb hj
    go_enter Try.func66, Try.ntmps66
    go_wp2_with fail
    go_ret
    exact ⟨ret_bool (by simp), Below.refl _ _⟩
  · have hr := run_eql_ptr_other (P := Try.prog) w (te := 115) (j := j) (a := (⟨q, 0, none⟩ : Addr)) (b := ⟨p, 0, none⟩) Try.underlying100 hj (by omega) (by simp [e]) hq hp
    have he : decide (q = p) = false := decide_eq_false e
    clear hq hp hb hj e
    go_enter Try.func66, Try.ntmps66
    go_wp2_with fail
    go_ret
    exact ⟨ret_bool he.symm, Below.refl _ _⟩
def fiV (l : List Nat) (o : Option Nat) : Value := match o with | some i => ptr (l.getD i 0) | none => .pointer none
theorem find_calls {c : Cf} {bs bm bc base : Nat} {sv : List Value} {vv : Value} {ps : List (List Nat)} {A : AS} {w : World} (h : Sys c bs bm bc base none sv vv ps A w)
    {k : Nat} {l : List Nat} {es : List En} (hk : ps[k]? = some l) (hc : A.cs[k]? = some es) (x : Nat) :
    Calls Try.prog 56 #[ptr bs, .int .i64 (k : Int), .int .i64 (x : Int)] w fun y w' => y = .returned (fiV l (fiF es x)) ∧ Below w.heap.size w w' := by
  obtain ⟨v, hv⟩ := h.sv_at hk
  have hn := h.nodup hk
  have hle := h.le _ _ _ hk hc
  have hks : (k : Int) < (sv.length : Int) := by have := (List.getElem?_eq_some_iff.1 hv).1; omega
  have hks2 : k < sv.length := by omega
  obtain ⟨a, cp, rfl, hcp, hrd, _⟩ := (h.row k v l hv hk (by simp)).form lenQ
  obtain ⟨W1, hW1⟩ : ∃ W1, w.alloc (.cells #[.int .i64 (x : Int)] 3) = W1 := ⟨_, rfl⟩
  have hb1 : Below w.heap.size w W1 := by rw [← hW1]; exact (Below.refl _ w).alloc (Nat.le_refl _) _
  have hbox : W1.heap[w.heap.size]? = some (.cells #[.int .i64 (x : Int)] 3 (0, 0)) := by rw [← hW1]; exact Go.heap_alloc_new w _
  have h1 := h.rest hb1
  obtain ⟨s0, s1, s2, s3, s4, s5, s6, s7, s8, s9, s10⟩ := h1.ten
  have t0 := (h1.at k _ hv).1
  have hix := indexQ_calls (pE l es x) 64 #[ptr w.heap.size] l a cp W1 (hrd.below hb1) (enters_of Try.func64 (by kernel_rfl) rfl) (fun j hj w2 hb2 => by
    have hj2 : j < es.length := by omega
    rw [pE_at hn hle x j hj]
    exact lineIs_calls es[j] l[j] w.heap.size x w2 ((h1.rest hb2).ent k l es j _ _ hk hc (List.getElem?_eq_getElem hj) (List.getElem?_eq_getElem hj2)) ((hb2.block _ (blk_lt hbox)).trans hbox))
  rw [pE_find hn hle x] at hix
  have HI := Lib.hid hix
  have HW := Lib.hid hW1
  have hcell : ∀ i (hi : i < l.length), ∃ b, a = some b ∧ W1.cell? (b.add i) = some (ptr l[i]) := fun i hi => by
    obtain ⟨b, hb, hc⟩ := (hrd.below hb1).cell i hi
    exact ⟨b, hb, by simpa using hc 0 _ rfl⟩
  have hfl : ∀ i, fiF es x = some i → i < l.length := fun i hi => by
    unfold fiF at hi
    rw [List.findIdx?_eq_some_iff_getElem] at hi
    obtain ⟨h, _⟩ := hi
    omega
  have H1 := Lib.hid (And.intro hb1 (And.intro h1 (And.intro hv (And.intro hcell hfl))))
  have hsm := hrd.small
  clear hix hW1 hb1 h1 h hcell hfl hbox hk hc hrd s0 s1 s2 s3 s4 s5 s6 s7 s9 s10 hn hle hv
  cases hfi : fiF es x with
  | none =>
    rw [hfi] at HI
    have HF := Lib.hid hfi
    clear hfi
    go_enter Try.func56, Try.ntmps56
    go_upto_region 1 with fail
    rw [HW.out]
    go_wp2_with fail
    (with_reducible refine (HI.out).mono ?_); rintro y w5 ⟨rfl, hb5⟩
    have HB5 := Lib.hid (H1.out.1.trans (hb5.mono H1.out.1.size))
    clear hb5
    go_wp2_with fail
    go_ret
    exact ⟨rfl, HB5.out⟩
  | some i =>
    rw [hfi] at HI
    have hil := H1.out.2.2.2.2 i hfi
    obtain ⟨b, rfl, hci⟩ := H1.out.2.2.2.1 i hil
    have hgd : l.getD i 0 = l[i] := by rw [List.getD_eq_getElem?_getD, List.getElem?_eq_getElem hil]; rfl
    have HCI := Lib.hid (And.intro hci hgd)
    have hi0 : (i : Int) < (l.length : Int) := by omega
    clear hfi hci hgd
    go_enter Try.func56, Try.ntmps56
    go_upto_region 1 with fail
    rw [HW.out]
    go_wp2_with fail
    (with_reducible refine (HI.out).mono ?_); rintro y w5 ⟨rfl, hb5⟩
    have h5 := H1.out.2.1.rest hb5
    have s8 := h5.ten.2.2.2.2.2.2.2.2.1
    have t0 := (h5.at k _ H1.out.2.2.1).1
    have q0 := (hb5.cell (World.block_lt_of_cell? _ _ HCI.out.1)).trans HCI.out.1
    have HB5 := Lib.hid (H1.out.1.trans (hb5.mono H1.out.1.size))
    clear hb5 h5
    go_wp2_with fail
    go_ret
    exact ⟨by unfold fiV; simp only [HCI.out.2]; rfl, HB5.out⟩
end Go.Proofs.Ytggidakiflnhhaa
