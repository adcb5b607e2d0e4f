import Derived.Test.YthebembnlmddoaaAB
namespace Go.Proofs.Ythebembnlmddoaa
open Go.RowKit
set_option maxHeartbeats 8000000
set_option maxRecDepth 100000
set_option linter.unusedSimpArgs false
set_option linter.unusedVariables false

theorem reorder80_calls (l : List Ev) (hok : ∀ e ∈ l, e.ok) (hk0 : chkF l = 0) (hl40 : l.length ≤ 80) (o : List Nat) (ho : ∀ j ∈ o, j < l.length) (hnd : o.Nodup) (hlen : o.length = l.length) (A : Option Addr) (c : Nat) (S : Option Addr) (cO : Nat) (hcap : o.length ≤ cO) (w : World) (hA : Rd encE 11 w A l) (hO : Rd encN 1 w S o) :
    Calls Try.prog 26 #[.slice A l.length c, .slice S o.length cO] w (RoPost l o w) := by
  have hsm := hA.small
  have hz := chk_zero l hk0
  obtain ⟨W1, hW1⟩ : ∃ W1, w.alloc (.cells #[.slice S o.length cO] 33) = W1 := ⟨_, rfl⟩
  have hb1 : Below w.heap.size w W1 := by rw [← hW1]; exact (Below.refl _ w).alloc (Nat.le_refl _) _
  have hbox : W1.heap[w.heap.size]? = some (.cells #[.slice S o.length cO] 33 (0, 0)) := by rw [← hW1]; exact Go.heap_alloc_new w _
  have hck := check_calls l hok A c W1 (hA.below hb1)
  rw [hk0] at hck
  have HC := Lib.hid hck
  have HW := Lib.hid hW1
  have HR := Lib.hid (And.intro hA (And.intro hO (And.intro hok (And.intro ho (And.intro hnd (And.intro (rtB_fm l hz.2) hz.1))))))
  have H1 := Lib.hid (And.intro hb1 hbox)
  have hle : (o.length != l.length) = false := by simp [hlen]
  have hlz : ((o.length : Int) != (l.length : Int)) = false := by simp [hlen]
  have HL := Lib.hid hlen
  have hso : o.length ≤ 9223372036854775807 := by omega
  obtain ⟨bo, hbo⟩ : ∃ bo, w.heap.size = bo := ⟨_, rfl⟩
  have HBO := Lib.hid hbo
  clear hA hO hok ho hnd hz hk0 hck hW1 hb1 hbox hlen
  rw [hbo] at H1
  clear hbo
  go_enter Try.func26, Try.ntmps26
  go_upto_region 1 with fail
  rw [HW.out]
  rw [HBO.out]
  go_wp2_with fail
  (with_reducible refine (HC.out).mono ?_); rintro e w2 ⟨rfl, hb2⟩
  have hbx2 := (hb2.block _ (Array.getElem?_eq_some_iff.1 H1.out.2).1).trans H1.out.2
  have hlow2 := H1.out.1.trans (hb2.mono (by have := H1.out.1.size; rw [HBO.out] at this; exact this))
  have z2 : w2.cell? ⟨bo, 0, none⟩ = some (.slice S o.length cO) := by rw [cell_of_row _ _ _ _ _ _ hbx2]; rfl
  obtain ⟨i1, hi1, hz1, hs1, hbb1⟩ := info_parts info4
  obtain ⟨W3, hmk, hown3, hg3⟩ := run_makeSlice_full (P := Try.prog) (w := w2) w2.heap.size 71 4 i1 _ 1 Try.underlying71 hi1 hz1 hs1 .i64 .i64 l.length (by omega) (by rw [hbb1]; omega) (by simp [maxLen]; omega) (Nat.le_refl _)
  rw [made_bool] at hown3
  have b23 : Below w2.heap.size w2 W3 := (Below.refl _ w2).grown hg3 (Nat.le_refl _) (fun b hb => by cases hb)
  have hT3 : Own encB 1 4 W3 w2.heap.size (.slice (some ⟨w2.heap.size, 0, none⟩) l.length l.length) (tkO l.length []) := by
    unfold Own
    rw [tkO_len, tkO_nil]; exact hown3
  have hmk' : (Instr.makeSlice 71 (.int .i64 (l.length : Int)) (.int .i64 (l.length : Int))).run Try.prog w2 = .ok (.slice (some ⟨w2.heap.size, 0, none⟩) l.length l.length) W3 := hmk
  have hbx3 := (b23.block _ (Array.getElem?_eq_some_iff.1 hbx2).1).trans hbx2
  have z3 : W3.cell? ⟨bo, 0, none⟩ = some (.slice S o.length cO) := by rw [cell_of_row _ _ _ _ _ _ hbx3]; rfl
  obtain ⟨tb, htb⟩ : ∃ tb, w2.heap.size = tb := ⟨_, rfl⟩
  have H3 := Lib.hid (And.intro hlow2 (And.intro (show Below w2.heap.size w2 W3 from b23) (And.intro hT3 (And.intro hbx2 htb))))
  rw [htb] at hmk'
  clear hbx2 hlow2 hb2 hi1 hz1 hs1 hbb1 hmk hown3 hg3 b23 hT3 htb hbx3 i1
  go_upto_region 6 with fail
  clear z2
  go_upto_region 7 with fail
  clear hmk'
  go_upto_region 8 with fail
  have hb23 : Below tb w2 W3 := by rw [← H3.out.2.2.2.2]; exact H3.out.2.1
  have hT3 : Own encB 1 4 W3 tb (.slice (some ⟨tb, 0, none⟩) l.length l.length) (tkO l.length (o.take 0)) := by
    have := H3.out.2.2.1
    rw [H3.out.2.2.2.2] at this
    exact this
  have H4 := Lib.hid (And.intro hb23 hT3)
  clear hb23 hT3 z3
  go_loopg [9, 30, 31, 32, 33, 34, 35, 36, 37, 38, 39, 40, 41, 42, 43, 44, 45, 46, 47, 48, 49, 50, 51] o.length (fun gk v9 v30 v31 v32 v33 v34 v35 v36 v37 v38 v39 v40 v41 v42 v43 v44 v45 v46 v47 v48 v49 v50 v51 wr => ∃ (k : Nat), k + gk = o.length ∧ v30 = .int .i64 (k : Int) ∧ Own encB 1 4 wr tb (.slice (some ⟨tb, 0, none⟩) l.length l.length) (tkO l.length (o.take k)) ∧ Below tb w2 wr)
  case atStart => exact ⟨0, by omega, rfl, H4.out.2, H4.out.1⟩
  case round =>
    obtain ⟨k, hk, rfl, hT, hbl⟩ := hrel
    obtain ⟨wo, hwo⟩ : ∃ wo, wo = wr := ⟨_, rfl⟩
    subst hwo
    have hlw : Below w.heap.size w wo := by
      rw [HBO.out]
      refine H3.out.1.trans (hbl.mono ?_)
      rw [← H3.out.2.2.2.2, ← HBO.out]
      exact H3.out.1.size
    by_cases hkl : k < o.length
    · have hd : decide (k < o.length) = true := decide_eq_true hkl
      obtain ⟨sa, rfl, hsc⟩ := (HR.out.2.1.below hlw).cell k hkl
      have hsv := hsc 0 _ rfl
      rw [Nat.mul_one, Nat.add_zero] at hsv
      have hjl := HR.out.2.2.2.1 _ (List.getElem_mem hkl)
      have hnin : o[k] ∉ o.take k := by
        intro hm
        obtain ⟨q, hq, hqk, he⟩ := mem_take_pos hm
        have := (List.getElem_inj HR.out.2.2.2.2.1).1 he
        omega
      have hsn := take_snoc o k hkl
      generalize o[k] = j at *
      obtain ⟨tc, tf⟩ := hT.cell lenB (tkO_len _ _) j (by rw [tkO_len]; exact hjl) 0 _ rfl
      have hTs := hT.set lenB (tkO_len _ _) j (by rw [tkO_len]; exact hjl) 0 (by decide) (.bool true) true rfl
      simp only [Nat.mul_one, Nat.add_zero, tkO_set, tkO_get, decide_eq_false hnin] at tc tf hTs
      rw [← hsn] at hTs
      have hjj : (j : Int) < (l.length : Int) := by omega
      have d1 : decide ((j : Int) < 0) = false := decide_eq_false (by omega)
      have d2 : decide (l.length ≤ j) = false := decide_eq_false (by omega)
      have HT := Lib.hid (And.intro hTs.1 (hbl.setCell (p := ⟨tb, j, none⟩) (Nat.le_refl _) (.bool true)))
      clear hsc hnin hsn hTs hT hbl hlw
      go_wp2_with fail
      go_roundg (gk - 1)
      case measure => omega
      case rel => exact ⟨k + 1, by omega, by go_num, HT.out.1, HT.out.2⟩
    · have hd : decide (k < o.length) = false := decide_eq_false hkl
      have hnc := newClocks_calls l HR.out.2.2.1 HR.out.2.2.2.2.2.1 HR.out.2.2.2.2.2.2 A c wo (HR.out.1.below hlw)
      have hbx := (hbl.block bo (by have := (Array.getElem?_eq_some_iff.1 H3.out.2.2.2.1).1; rw [H3.out.2.2.2.2] at this; exact this)).trans H3.out.2.2.2.1
      have HN := Lib.hid (And.intro hnc (And.intro hlw hbx))
      clear hnc hT hbl hlw hbx
      go_upto_region 14 with fail
      go_wp2_with fail
      (with_reducible refine (HN.out.1).mono ?_); rintro e w7 ⟨cb, rfl, hCk, hb7⟩
      obtain ⟨W8, hW8⟩ : ∃ W8, w7.alloc (.cells #[.pointer (some ⟨cb, 0, none⟩)] 90) = W8 := ⟨_, rfl⟩
      have hb8 : Below w7.heap.size w7 W8 := by rw [← hW8]; exact (Below.refl _ _).alloc (Nat.le_refl _) _
      have hbx8 : W8.heap[w7.heap.size]? = some (.cells #[.pointer (some ⟨cb, 0, none⟩)] 90 (0, 0)) := by rw [← hW8]; exact Go.heap_alloc_new w7 _
      have hlow8 := HN.out.2.1.trans ((hb7.trans (hb8.mono hb7.size)).mono HN.out.2.1.size)
      have hbo8 := ((hb7.trans (hb8.mono hb7.size)).block _ (Array.getElem?_eq_some_iff.1 HN.out.2.2).1).trans HN.out.2.2
      have HW8 := Lib.hid hW8
      have H8 := Lib.hid (And.intro (hCk.rest hb8) (And.intro hlow8 (And.intro hbx8 hbo8)))
      have hmf : ∀ (fn : Fn) (first cap : Array Value) (w : World), (Instr.makeFunc fn first cap).run Try.prog w = .ok (.func fn first cap) w := fun _ _ _ _ => rfl
      have z8 : W8.cell? ⟨bo, 0, none⟩ = some (.slice S o.length cO) := by rw [cell_of_row _ _ _ _ _ _ hbo8]; rfl
      clear hCk hb7 hb8 hbx8 hlow8 hbo8 hW8
      go_upto_region 15 with fail
      rw [HW8.out]
      go_upto_region 18 with fail
      clear z8
      go_loopg [12, 13, 14, 57, 58, 59, 60, 61, 62, 63, 64, 65, 66, 67, 68, 69, 70, 71, 72, 73] o.length (fun gk v12 v13 v14 v57 v58 v59 v60 v61 v62 v63 v64 v65 v66 v67 v68 v69 v70 v71 v72 v73 wr => ∃ (k : Nat) (S2 : Option Addr) (c2 : Nat), k + gk = o.length ∧ v57 = .int .i64 (k : Int) ∧ v12 = .slice S2 k c2 ∧ Own encE 11 42 wr W8.heap.size (.slice S2 k c2) ((o.take k).map (evA l)) ∧ (∀ j, j < k → pmB l o j = true) ∧ Below W8.heap.size W8 wr)
      case atStart => exact ⟨0, none, 0, by omega, rfl, rfl, World.ownsRow_nil _ _ _ _, fun j hj => by omega, Below.refl _ _⟩
      case round =>
        obtain ⟨k, S2, c2, hk, rfl, rfl, hown, hall, hbl⟩ := hrel
        obtain ⟨wq, hwq⟩ : ∃ wq, wq = wr := ⟨_, rfl⟩
        subst hwq
        by_cases hkl : k < o.length
        · have hd : decide (k < o.length) = true := decide_eq_true hkl
          have hlw := H8.out.2.1.trans (hbl.mono H8.out.2.1.size)
          have hOq := HR.out.2.1.below hlw
          have hAq := HR.out.1.below hlw
          have z1 : wq.cell? ⟨w7.heap.size, 0, none⟩ = some (.pointer (some ⟨cb, 0, none⟩)) := by rw [cell_of_row _ _ _ _ _ _ ((hbl.block _ (Array.getElem?_eq_some_iff.1 H8.out.2.2.1).1).trans H8.out.2.2.1)]; rfl
          have z2 : wq.cell? ⟨bo, 0, none⟩ = some (.slice S o.length cO) := by rw [cell_of_row _ _ _ _ _ _ ((hbl.block _ (Array.getElem?_eq_some_iff.1 H8.out.2.2.2).1).trans H8.out.2.2.2)]; rfl
          have hpb := permB_calls l HR.out.2.2.1 o HR.out.2.2.2.1 k hkl A c cb _ w7.heap.size bo S cO hcap wq hAq (H8.out.1.rest hbl) hOq z1 z2
          have HPB := Lib.hid hpb
          obtain ⟨sa, rfl, hsc⟩ := hOq.cell k hkl
          have hsv := hsc 0 _ rfl
          rw [Nat.mul_one, Nat.add_zero] at hsv
          have hjl := HR.out.2.2.2.1 _ (List.getElem_mem hkl)
          have hsn : (o.take (k + 1)).map (evA l) = (o.take k).map (evA l) ++ [evA l o[k]] := by rw [take_snoc o k hkl, List.map_append]; rfl
          have HX := Lib.hid (And.intro hown (And.intro hall (And.intro hbl (And.intro hlw (And.intro hAq hsn)))))
          clear hown hall hbl hlw hsc hpb z1 z2 hOq hAq hsn
          go_upto_region 20 with fail
          clear hsv
          cases hpm : pmB l o k with
          | false =>
            rw [hpm] at HPB
            have hf : pmA l o = false := by
              unfold pmA
              rw [List.all_eq_false]
              exact ⟨k, by simpa using hkl, by rw [hpm]; simp⟩
            have HF := Lib.hid hf
            clear hpm hf
            go_wp2_with ((with_reducible refine (HPB.out).mono ?_); rintro e w9 ⟨rfl, hb9⟩)
            go_ret2
            refine ⟨_, by rw [HF.out]; rfl, ?_, HX.out.2.2.2.1.trans (hb9.mono HX.out.2.2.2.1.size)⟩
            rw [HF.out]
            exact World.ownsRow_nil _ _ _ _
          | true =>
            rw [hpm] at HPB
            have HPM := Lib.hid hpm
            clear hpm
            have hev := evA_eq l o[k] hjl
            obtain ⟨a, rfl, _⟩ := HX.out.2.2.2.2.1.cell o[k] hjl
            have hcs := ev_cells HX.out.2.2.2.2.1 o[k] hjl
            rw [← hev] at hcs
            have hjj : (o[k] : Int) < (l.length : Int) := by omega
            have hln : ((o.take k).map (evA l)).length = k := by rw [List.length_map, List.length_take]; omega
            have hxs := HX.out.2.2.2.2.2
            generalize evA l o[k] = e at *
            have HQ := Lib.hid (And.intro hcs (And.intro hln hxs))
            clear hev hcs hln hxs
            generalize o[k] = j at *
            go_upto_region 22 with ((with_reducible refine (HPB.out).mono ?_); rintro e w9 ⟨rfl, hb9⟩)
            have hcs9 : ∀ x v, (encE e)[x]? = some v → w9.cell? ((a.add (j * 11)).add x) = some v := fun x v hv => (hb9.cell (World.block_lt_of_cell? _ _ (HQ.out.1 x v hv))).trans (HQ.out.1 x v hv)
            have hb10 : Below w9.heap.size w9 (w9.alloc (.cells e.cells 42)) := (Below.refl _ _).alloc (Nat.le_refl _) _
            have hbl10 := HX.out.2.2.1.trans ((hb9.trans (hb10.mono hb9.size)).mono HX.out.2.2.1.size)
            have HY := Lib.hid (And.intro hcs9 (And.intro ((HX.out.1.rest hb9).rest hb10) (And.intro hbl10 (show (k + 1) * 88 ≤ 140737488355328 by have := HL.out; omega))))
            clear hcs9 hb9 hb10 hbl10
            go_wp2_with (first | (refine wpList_load_ev rfl _ 42 (Or.inl rfl) rfl (a.add (j * 11)) e rfl HY.out.1 ?_) | (at_builtin; refine wpList_append_told lenE oneE _ rfl (.tmp 66) (.tmp 71) 24 rfl W8.heap.size 42 _ 88 Try.underlying24 info42 rfl (by decide) (by decide) (.slice S2 k c2) ((o.take k).map (evA l)) k HQ.out.2.1 rfl HY.out.2.1 ⟨w9.heap.size, 0, none⟩ 1 1 [e] rfl rfl (by decide) (rd_one encE 11 _ e 42 _ rfl _ rfl) HY.out.2.2.2 HY.out.2.2.1.size ?_; intro g1 cap1 w10 hown10 hgr10 hl10; have HG := Lib.hid (And.intro hown10 hgr10); clear hown10 hgr10 hl10))
            go_roundg (gk - 1)
            case measure => omega
            case rel =>
              refine ⟨k + 1, _, _, by omega, by go_num, rfl, ?_, fun x hx => ?_, HY.out.2.2.1.grown HG.out.2 HY.out.2.2.1.size (fun b hb => (HY.out.2.1.blk b hb).1)⟩
              · rw [HQ.out.2.2]; exact HG.out.1
              · by_cases e0 : x = k
                · subst e0; exact HPM.out
                · exact HX.out.2.1 x (by omega)
        · have hd : decide (k < o.length) = false := decide_eq_false hkl
          obtain rfl : k = o.length := by omega
          have ht : pmA l o = true := by
            unfold pmA
            rw [List.all_eq_true]
            exact fun x hx => hall x (by simpa using hx)
          rw [List.take_length] at hown
          have HE := Lib.hid (And.intro ht (And.intro (hown.down H8.out.2.1.size) (H8.out.2.1.trans (hbl.mono H8.out.2.1.size))))
          clear hown hall hbl ht
          go_wp2_with fail
          go_ret2
          refine ⟨_, by rw [HE.out.1]; rfl, ?_, HE.out.2.2⟩
          rw [HE.out.1]
          exact HE.out.2.1
end Go.Proofs.Ythebembnlmddoaa
