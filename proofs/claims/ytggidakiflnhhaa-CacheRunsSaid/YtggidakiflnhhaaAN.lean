import Derived.Test.YtggidakiflnhhaaAM
namespace Go.Proofs.Ytggidakiflnhhaa
open Go.RowKit
set_option maxHeartbeats 16000000
set_option maxRecDepth 100000
set_option linter.unusedSimpArgs false
set_option linter.unusedVariables false

/-! ### an element of a row of the call's own turns whole -/
def spl {α : Type} : List α → Nat → List α → List α
  | xs, _, [] => xs
  | xs, o, v :: r => spl (xs.set o v) (o + 1) r
theorem owns_setCells {base : Nat} {e : TypeId} {size g n cap : Nat} : ∀ (vs : List Value) (o : Nat) (w : World) (xs : List Value), w.ownsRow base e size (.slice (some ⟨g, 0, none⟩) n cap) n xs → (w.setCells g o vs).ownsRow base e size (.slice (some ⟨g, 0, none⟩) n cap) n (spl xs o vs) ∧ w.grownBy (w.setCells g o vs) (some g)
  | [], o, w, xs, h => ⟨h, rfl, rfl, rfl, Nat.le_refl _, fun _ _ _ => rfl⟩
  | v :: r, o, w, xs, h => by
    have h1 := World.ownsRow.stored h o v
    obtain ⟨h2, h3⟩ := owns_setCells r (o + 1) _ _ h1.1
    exact ⟨h2, grownBy_trans h1.2 h3⟩
theorem spl_right {α : Type} (a : List α) : ∀ (vs : List α) (b : List α) (o : Nat), spl (a ++ b) (a.length + o) vs = a ++ spl b o vs
  | [], b, o => rfl
  | v :: r, b, o => by
    unfold spl
    rw [List.set_append_right _ _ (by omega), show a.length + o - a.length = o by omega, show a.length + o + 1 = a.length + (o + 1) by omega]
    exact spl_right a r _ _
theorem spl_head {α : Type} : ∀ (vs a b : List α), a.length = vs.length → spl (a ++ b) 0 vs = vs ++ b
  | [], a, b, h => by
    obtain rfl := List.eq_nil_of_length_eq_zero (by simpa using h)
    rfl
  | v :: r, [], b, h => by simp at h
  | v :: r, x :: a, b, h => by
    unfold spl
    have := spl_right [v] r (a ++ b) 0
    rw [spl_head r a b (by simpa using h)] at this
    simpa using this
theorem spl_flat {α : Type} {enc : α → List Value} {sz : Nat} (hs : ∀ x, (enc x).length = sz) (y : α) : ∀ (xs : List α) (i : Nat), i < xs.length → spl (xs.flatMap enc) (i * sz) (enc y) = (xs.set i y).flatMap enc
  | [], i, h => by simp at h
  | x :: xs, 0, h => by
    rw [List.flatMap_cons, Nat.zero_mul, spl_head _ _ _ (by rw [hs, hs])]
    simp
  | x :: xs, i + 1, h => by
    rw [List.flatMap_cons, show (i + 1) * sz = (enc x).length + i * sz by rw [hs, Nat.succ_mul]; omega, spl_right, spl_flat hs y xs i (by simpa using h)]
    simp
theorem own_put {α : Type} {enc : α → List Value} {sz : Nat} {e : TypeId} {w : World} {base g n c : Nat} {xs : List α} (hs : ∀ x, (enc x).length = sz) (h : Own enc sz e w base (.slice (some ⟨g, 0, none⟩) n c) xs) (hn : xs.length = n) (i : Nat) (hi : i < xs.length) (y : α) :
    Own enc sz e (w.setCells g (i * sz) (enc y)) base (.slice (some ⟨g, 0, none⟩) n c) (xs.set i y) ∧ w.grownBy (w.setCells g (i * sz) (enc y)) (some g) := by
  subst hn
  obtain ⟨h1, h2⟩ := owns_setCells (enc y) (i * sz) w _ h
  refine ⟨?_, h2⟩
  unfold Own
  rw [List.length_set, ← spl_flat hs y xs i hi]
  exact h1
theorem own_there {α : Type} {enc : α → List Value} {sz : Nat} {e : TypeId} {w : World} {base g n c : Nat} {xs : List α} (hs : ∀ x, (enc x).length = sz) (h : Own enc sz e w base (.slice (some ⟨g, 0, none⟩) n c) xs) (hn : xs.length = n) (i : Nat) (hi : i < xs.length) : w.there g (i * sz) sz := fun j hj => by
  have hj' : j < (enc xs[i]).length := by rw [hs]; exact hj
  have := h.cell hs hn i hi j _ (List.getElem?_eq_getElem hj')
  exact ⟨by rw [this.1]; rfl, this.2⟩
theorem en_set {w : World} {p : Nat} {t : TypeId} {e e' : En} (h : w.heap[p]? = some (.cells e.cells t (0, 0))) (j : Nat) (v : Value) (hv : e.cells.setIfInBounds j v = e'.cells) : (w.setCell ⟨p, j, none⟩ v).heap[p]? = some (.cells e'.cells t (0, 0)) := by
  rw [heap_setCell_same w p j _ t v h, hv]
/-- the last entry of a row is fetched -/
def ftA (A : AS) (k : Nat) (es : List En) (e : En) : AS := { A with f := A.f + 1, cs := A.cs.set k (es ++ [ftE A.m e]) }
theorem snoc_lastN {α : Type} (es : List α) (e : α) : (es ++ [e])[es.length]'(by simp) = e := by simp
theorem snoc_setN {α : Type} (es : List α) (e f : α) : (es ++ [e]).set es.length f = es ++ [f] := by
  rw [List.set_append_right _ _ (Nat.le_refl _)]; simp
theorem fetched_calls {c : Cf} {bm bc : Nat} {X : Nat → Prop} {A : AS} {w : World} (h : RS c bm bc X A w) (hX : ∀ k, X k → k < w.heap.size) {k : Nat} {es : List En} {e : En} (hk : A.cs[k]? = some (es ++ [e])) (hl : e.l * 4 + 4 ≤ A.m.length) (hm : A.m.length ≤ 256) (hf : A.f < 1000000000) (hn : es.length ≤ 100) :
    Calls Try.prog 52 #[.agg (stC c bm bc A), .int .i64 (k : Int)] w (StPost c bm bc X (ftA A k es e) w) := by
  obtain ⟨W1, n0, n1, X1, hW1, hn0, hn1, hF, hX1, hS⟩ := bx_open h hX
  obtain ⟨P, cp, hcell, hfz, hle, hrd, hP, hrow⟩ := hS.row hk
  obtain ⟨y0, y1, y2, y3, y4, y5, y6, y7, y8⟩ := hS.cell
  have hkl : k < A.cs.length := (List.getElem?_eq_some_iff.1 hk).1
  have hklI : (k : Int) < (A.cs.length : Int) := by omega
  have hcellA : (W1.alloc (.cells #[] 107)).cell? ⟨bc, k, none⟩ = some (.slice P (es ++ [e]).length cp) := by rw [(((Below.refl W1.heap.size W1).alloc (Nat.le_refl _) _).cell (p := ⟨bc, k, none⟩) hS.rs.lts.2)]; exact hcell
  have y5A : (W1.alloc (.cells #[] 107)).cell? ⟨n0, 5, none⟩ = some (.slice (some ⟨bc, 0, none⟩) A.cs.length A.cs.length) := by rw [(((Below.refl W1.heap.size W1).alloc (Nat.le_refl _) _).cell (p := ⟨n0, 5, none⟩) (blk_lt hS.st))]; exact y5
  obtain ⟨nL, hnL⟩ : ∃ n, (es ++ [e]).length = n := ⟨_, rfl⟩
  have hnL1 : nL = es.length + 1 := by rw [← hnL]; simp
  rw [hnL] at hcell hcellA hle hrow
  obtain ⟨nU, hnU⟩ : ∃ n, W1.heap.size = n := ⟨_, rfl⟩
  have hU : Us nU W1 [] (.slice none 0 0) none e W1 := Us.init e (by omega)
  have HU := Lib.hid hU.new
  have HW := Lib.hid (And.intro hW1 (And.intro hn0 hn1))
  have HF := Lib.hid hF
  have HX := Lib.hid (And.intro hS (And.intro hrow (And.intro hX1 (And.intro hrd hnL))))
  have HL := Lib.hid (And.intro hk (And.intro hl (And.intro hm (And.intro hf hn))))
  have HN := Lib.hid (And.intro hnU hnL1)
  have hb48 : (0 + nL) * 48 ≤ 140737488355328 := by omega
  have HB := Lib.hid hb48
  clear hW1 hn0 hn1 hF hX1 hS y0 y1 y2 y3 y4 y6 y7 y8 hrow hrd hP hfz hk hkl hX h hle hU hnU hnL hnL1 hl hm hf hn hb48
  go_enter Try.func52, Try.ntmps52
  go_upto_region 1 with fail
  rw [HW.out.1]
  rw [HW.out.2.1, HW.out.2.2]
  go_upto_region 2 with (at_builtin; go_must (refine wpList_append_rowN lenN oneN (W1.alloc (.cells #[] 107)) rfl (.tmp 8) (.tmp 13) 85 rfl nU 107 _ 48 Try.underlying85 info107 rfl (by decide) (by decide) _ [] 0 rfl rfl HU.out.own P nL cp (es ++ [e]) rfl HX.out.2.2.2.2 (HX.out.2.2.2.1.below ((Below.refl _ _).alloc (Nat.le_refl _) _)) HB.out HU.out.size nL (Nat.zero_add _) (es ++ [e]) rfl ?_); intro B1 c1 W2 ho hg hl; have H2 := Lib.hid (HU.out.app ho hg hl); clear ho hg hl)
  clear hcell y5 hcellA y5A
  obtain ⟨gL, capL, hgv⟩ : ∃ g cap, (Value.slice B1 nL c1) = .slice (some ⟨g, 0, none⟩) nL cap := by
    rcases H2.out.own.2 with ⟨h1, h2⟩ | ⟨g, cap, cur, h1, _⟩
    · have := HN.out.2; simp at h2
    · exact ⟨g, cap, by rw [h1]; simp [HN.out.2]⟩
  obtain ⟨rfl, _, rfl⟩ := Value.slice.inj hgv
  clear hgv
  obtain ⟨nI, hnI⟩ : ∃ n, es.length = n := ⟨_, rfl⟩
  obtain ⟨n2, hn2⟩ : ∃ n, W2.heap.size = n := ⟨_, rfl⟩
  obtain ⟨W3, hW3⟩ : ∃ W, W2.alloc (.cells e.cells 107) = W := ⟨_, rfl⟩
  have hgl : gL < n2 := by rw [← hn2]; exact (H2.out.own.blk gL rfl).2.1
  have hnn : nU ≤ n2 := by rw [← hn2]; exact H2.out.size
  have e1 : (nL : Int) - 1 = (nI : Int) := by have := HN.out.2; omega
  have e2 : (nI : Int) < (nL : Int) := by omega
  have e3 : nI < nL := by omega
  have e4 : nL ≤ 101 := by have := HN.out.2; have := HL.out.2.2.2.2; omega
  have e5 : nI ≤ 100 := by omega
  have hrg : W2.rangeAt gL (nI * 13) (encN e) := by
    obtain ⟨A9, c9, e9, hr9⟩ := H2.out.own.rd lenN
    obtain ⟨rfl, _, _⟩ := Value.slice.inj e9
    have := rd_range hr9 nI (by rw [HX.out.2.2.2.2]; exact e3)
    rw [show (es ++ [e])[nI]'(by rw [HX.out.2.2.2.2]; exact e3) = e by subst hnI; simp] at this
    exact this
  have hx3 : W3.heap[n2]? = some (.cells e.cells 107 (0, 0)) := by rw [← hW3, ← hn2]; exact Go.heap_alloc_new _ _
  have ho3 : Own encN 13 107 W3 nU (.slice (some ⟨gL, 0, none⟩) nL c1) (es ++ [e]) := by rw [← hW3]; exact H2.out.own.rest ((Below.refl _ _).alloc (Nat.le_refl _) _)
  have hb3 : Below nU W1 W3 := by rw [← hW3]; exact H2.out.lo.alloc (by rw [hn2]; exact hnn) _
  have H3 := Lib.hid (And.intro hx3 (And.intro ho3 (And.intro hb3 (And.intro hgl (And.intro hnn (And.intro hnI (And.intro e3 (And.intro hW3 hn2))))))))
  have HRG := Lib.hid hrg
  clear hx3 ho3 hb3 hgl hnn hnI e3 hW3 hn2 hrg
  go_upto_region 3 with (refine wpList_load_mid rfl 107 (.tmp 19) rfl gL (nI * 13) rfl (encN e) _ HRG.out Try.underlying107 rfl info107s ?_)
  rw [H3.out.2.2.2.2.2.2.2.1, H3.out.2.2.2.2.2.2.2.2]
  have hbx : ∀ u, Below nU W1 u → BxS c bm bc n0 n1 X1 A w u := fun u hu => HX.out.1.rest (by rw [HN.out.1]; exact hu)
  have HBX := Lib.hid hbx
  clear hbx
  go_wp2_with fail
  go_loopg [7, 21, 22, 23, 24, 25, 26, 27, 28, 29, 30, 31, 32, 33, 34, 35, 36, 37, 38, 39, 40, 41, 42, 43, 44] 4 (fun gk v7 v21 v22 v23 v24 v25 v26 v27 v28 v29 v30 v31 v32 v33 v34 v35 v36 v37 v38 v39 v40 v41 v42 v43 v44 wr => ∃ (i : Nat) (ei : En), i + gk = 4 ∧ v7 = .int .i64 (i : Int) ∧ ei = (List.range i).foldl (ftS A.m) e ∧ wr.heap[n2]? = some (.cells ei.cells 107 (0, 0)) ∧ Own encN 13 107 wr nU (.slice (some ⟨gL, 0, none⟩) nL c1) (es ++ [e]) ∧ Below nU W1 wr)
  case atStart => exact ⟨0, e, by omega, rfl, rfl, H3.out.1, H3.out.2.1, H3.out.2.2.1⟩
  case round =>
    obtain ⟨i, ei, hi, rfl, hei, hx, ho, hb⟩ := hrel
    have hbs := HBX.out wr hb
    by_cases hlt : i < 4
    · have hlt' : (i : Int) < 4 := by omega
      have hv5 : wr.cell? ⟨n2, 5 + i, none⟩ = some (.bool (ei.v i)) := by rw [cell_of_row _ _ _ _ _ _ hx]; exact En.at_v ei i hlt
      have hf5 := frz hx (5 + i)
      have hf1 := frz hx (1 + i)
      have hd1 : wr.cell? ⟨n2, 1 + i, none⟩ = some (.int .i64 (ei.d i)) := by rw [cell_of_row _ _ _ _ _ _ hx]; exact En.at_d ei i hlt
      have hl0 : wr.cell? ⟨n2, 0, none⟩ = some (.int .i64 (e.l : Int)) := by
        rw [cell_of_row _ _ _ _ _ _ hx]
        have : ei.l = e.l := by rw [hei]; exact fold_ftS_l _ _ _
        show some (Value.int .i64 (ei.l : Int)) = _
        rw [this]
      have hq1 : e.l * 4 + i < A.m.length := by have := HL.out.2.1; omega
      have hq3 := HL.out.2.2.1
      obtain ⟨hw7, _⟩ := hbs.rs.word (e.l * 4 + i) hq1
      have c4 := hbs.cell.2.2.2.2.1
      have hst : (List.range (i + 1)).foldl (ftS A.m) e = ftS A.m ei i := by rw [range_succ_foldl, hei]
      obtain ⟨q, hq⟩ : ∃ q, e.l * 4 + i = q := ⟨_, rfl⟩
      obtain ⟨xx, hxx⟩ : ∃ x, A.m.getD q 0 = x := ⟨_, rfl⟩
      rw [hq, hxx] at hw7
      obtain ⟨ti, hti⟩ : ∃ b, ei.v i = b := ⟨_, rfl⟩
      rw [hti] at hv5
      have hql : q < A.m.length := by omega
      have hqI : (q : Int) < (A.m.length : Int) := by omega
      have v1 : (e.l : Int) * 4 + (i : Int) = (q : Int) := by omega
      have v2 : (e.l : Int) * 4 ≤ 100000 := by omega
      have hell : ei.l = e.l := by rw [hei]; exact fold_ftS_l _ _ _
      have HI := Lib.hid (And.intro hx (And.intro ho (And.intro hb (And.intro hst (And.intro hti (And.intro hq (And.intro hxx (And.intro H3.out.2.2.2.1 (And.intro H3.out.2.2.2.2.1 hell)))))))))
      clear hx ho hb hst hti hq hxx hq1 hq3 hei hbs hell
      cases ti with
      | true =>
        clear v1 v2
        go_wp2_with fail
        go_roundg (gk - 1)
        case measure => omega
        case rel =>
          refine ⟨i + 1, ei, by omega, by go_num, ?_, HI.out.1, HI.out.2.1, HI.out.2.2.1⟩
          rw [HI.out.2.2.2.1]
          unfold ftS
          rw [HI.out.2.2.2.2.1, if_pos rfl]
      | false =>
        go_wp2_with fail
        go_roundg (gk - 1)
        case measure => omega
        case rel =>
          have h1 := en_set (e' := { ei with d := upd ei.d i xx }) HI.out.1 (1 + i) (.int .i64 xx) (En.set_d ei i hlt xx)
          have h2 := en_set (e' := { ei with d := upd ei.d i xx, v := upd ei.v i true }) h1 (5 + i) (.bool true) (En.set_v _ i hlt true)
          have hgw := grownBy_trans (grownBy_set wr n2 (1 + i) (.int .i64 xx)) (grownBy_set _ n2 (5 + i) (.bool true))
          refine ⟨i + 1, _, by omega, by go_num, ?_, h2, HI.out.2.1.grown hgw (Or.inr (fun h => by have h5 := HI.out.2.2.2.2.2.2.2.1; simp [Value.ownBlock] at h; omega)), HI.out.2.2.1.grown hgw (by have := HI.out.2.2.1.size; have := HN.out.1; omega) (fun k hk => by obtain rfl := Option.some.inj hk; exact HI.out.2.2.2.2.2.2.2.2.1)⟩
          rw [HI.out.2.2.2.1]
          unfold ftS
          rw [HI.out.2.2.2.2.1, if_neg (by simp), HI.out.2.2.2.2.2.2.2.2.2, HI.out.2.2.2.2.2.1, HI.out.2.2.2.2.2.2.1]
    · have hlt' : ¬ (i : Int) < 4 := by omega
      obtain rfl : i = 4 := by omega
      have he4 : ei = ftE A.m e := hei
      subst he4
      have hth : wr.there gL (nI * 13) 13 := own_there lenN ho HX.out.2.2.2.2 nI (by rw [HX.out.2.2.2.2]; exact H3.out.2.2.2.2.2.2.1)
      have h9 := own_put lenN ho HX.out.2.2.2.2 nI (by rw [HX.out.2.2.2.2]; exact H3.out.2.2.2.2.2.2.1) (ftE A.m e)
      have hset : (es ++ [e]).set nI (ftE A.m e) = es ++ [ftE A.m e] := by rw [← H3.out.2.2.2.2.2.1]; exact snoc_setN _ _ _
      rw [hset] at h9
      obtain ⟨W9, hW9⟩ : ∃ W, wr.setCells gL (nI * 13) (encN (ftE A.m e)) = W := ⟨_, rfl⟩
      rw [hW9] at h9
      have hgU : nU ≤ gL := (ho.blk gL rfl).1
      have hb9 : Below nU W1 W9 := hb.grown h9.2 (by have := hb.size; have := HN.out.1; omega) (fun k hk => by obtain rfl := Option.some.inj hk; exact hgU)
      have hs9 := HBX.out W9 hb9
      obtain ⟨P9, c9, hc9, hf9, _⟩ := hs9.row HL.out.1
      have y59 := hs9.cell.2.2.2.2.2.1
      have HE := Lib.hid (And.intro hx (And.intro hth (And.intro h9.1 (And.intro hs9 hW9))))
      clear hx hth h9 hs9 hW9 ho hb hbs hei hset hb9
      go_upto_region 11 with (first | (refine wpList_load_row rfl 107 (.tmp 6) rfl n2 rfl 107 _ (0, 0) _ HE.out.1 Try.underlying107 rfl info107s ?_) | (refine wpList_store_mid rfl 107 (.tmp 50) (.tmp 49) rfl gL (nI * 13) (ftE A.m e).cells rfl rfl HE.out.2.1 info107s (enC_one _) ?_; rw [show (ftE A.m e).cells.toList = encN (ftE A.m e) from rfl, HE.out.2.2.2.2]))
      clear hc9 hf9 y59
      have hSz : BxS c bm bc n0 n1 X1 { A with cs := A.cs.set k (es ++ [ftE A.m e]) } w (W9.setCell ⟨bc, k, none⟩ (.slice (some ⟨gL, 0, none⟩) nL c1)) := HE.out.2.2.2.1.setRow HF.out k (own_RowR HE.out.2.2.1 (by have := HF.out.o3; have := HX.out.1.sz; have := HN.out.1; omega) (by have := HF.out.o4; have := HX.out.1.sz; have := HN.out.1; omega) (fun j hj => by have := HF.out.xl j hj; have := HX.out.1.sz; have := HN.out.1; omega))
      obtain ⟨Z, hZ⟩ : ∃ Z, W9.setCell ⟨bc, k, none⟩ (.slice (some ⟨gL, 0, none⟩) nL c1) = Z := ⟨_, rfl⟩
      rw [hZ] at hSz ⊢
      have y6 := hSz.cell.2.2.2.2.2.2.1
      have f6 := frz hSz.st 6
      have hfb := HL.out.2.2.2.1
      have HSZ := Lib.hid hSz
      clear hSz hZ
      go_upto_region 12 with fail
      clear y6 f6 hfb
      have hSy : BxS c bm bc n0 n1 X1 (ftA A k es e) w (Z.setCell ⟨n0, 6, none⟩ (.int .i64 ((A.f : Int) + 1))) := HSZ.out.setCnt HF.out 6 _ rfl rfl (by simp [stC, ftA])
      obtain ⟨Y, hY⟩ : ∃ Y, Z.setCell ⟨n0, 6, none⟩ (.int .i64 ((A.f : Int) + 1)) = Y := ⟨_, rfl⟩
      rw [hY] at hSy ⊢
      have HSY := Lib.hid hSy
      have HD := Lib.hid (hSy.done HF.out HX.out.2.2.1)
      clear hSy hY
      go_wp2_with (first | (refine wpList_load_row rfl 81 (.tmp 2) rfl n0 rfl 81 _ (0, 0) _ HSY.out.st Try.underlying81 rfl info81s ?_) | (refine wpList_store_row rfl 81 (.tmp 4) (.tmp 62) rfl n1 _ rfl rfl 81 _ HSY.out.zr info81s rfl (stC_one _ _ _ _) ?_))
      refine bodyPost_ret (v := .agg (stC c bm bc (ftA A k es e))) (results_cell_row (ty := 81) (p := 4) rfl _ _ n1 81 _ (0, 0) _ rfl HD.out.1 Try.underlying81 rfl info81s) rfl ?_
      unfold StPost
      rw [HW.out.2.1]
      exact ⟨rfl, HD.out.2⟩
end Go.Proofs.Ytggidakiflnhhaa
