import Derived.Test.YthebembnlmddoaaBF
namespace Go.Proofs.Ythebembnlmddoaa
open Go.RowKit
set_option maxHeartbeats 8000000
set_option maxRecDepth 100000
set_option linter.unusedSimpArgs false
set_option linter.unusedVariables false

/-- an error and no events -/
def ErPost (n : Int) (w : World) (e : Ending) (w' : World) : Prop := e = .returned (.tuple #[.slice none 0 0, .int .i64 n]) ∧ Below w.heap.size w w'
theorem reorder_chk (l : List Ev) (hok : ∀ e ∈ l, e.ok) (hk0 : chkF l ≠ 0) (n : Nat) (A : Option Addr) (c : Nat) (S : Option Addr) (cO : Nat) (w : World) (hA : Rd encE 11 w A l) :
    Calls Try.prog 26 #[.slice A l.length c, .slice S n cO] w (ErPost (chkF l) w) := by
  have hsm := hA.small
  obtain ⟨W1, hW1⟩ : ∃ W1, w.alloc (.cells #[.slice S n cO] 33) = W1 := ⟨_, rfl⟩
  have hb1 : Below w.heap.size w W1 := by rw [← hW1]; exact (Below.refl _ w).alloc (Nat.le_refl _) _
  have hck := check_calls l hok A c W1 (hA.below hb1)
  have hkc : (chkF l != 0) = true := by simp [hk0]
  generalize chkF l = m at *
  have HC := Lib.hid hck
  have HW := Lib.hid hW1
  have H1 := Lib.hid hb1
  clear hA hok hk0 hck hW1 hb1
  go_enter Try.func26, Try.ntmps26
  go_upto_region 1 with fail
  rw [HW.out]
  go_wp2_with fail
  (with_reducible refine (HC.out).mono ?_); rintro e w2 ⟨rfl, hb2⟩
  have H2 := Lib.hid (H1.out.trans (hb2.mono H1.out.size))
  clear hb2
  go_wp2_with fail
  go_ret2
  exact ⟨rfl, H2.out⟩
theorem reorder_len (l : List Ev) (hok : ∀ e ∈ l, e.ok) (hk0 : chkF l = 0) (n : Nat) (hn : n ≤ 9223372036854775807) (hlen : n ≠ l.length) (A : Option Addr) (c : Nat) (S : Option Addr) (cO : Nat) (w : World) (hA : Rd encE 11 w A l) :
    Calls Try.prog 26 #[.slice A l.length c, .slice S n cO] w (ErPost 5 w) := by
  have hsm := hA.small
  obtain ⟨W1, hW1⟩ : ∃ W1, w.alloc (.cells #[.slice S n cO] 33) = W1 := ⟨_, rfl⟩
  have hb1 : Below w.heap.size w W1 := by rw [← hW1]; exact (Below.refl _ w).alloc (Nat.le_refl _) _
  have hbox : W1.heap[w.heap.size]? = some (.cells #[.slice S n cO] 33 (0, 0)) := by rw [← hW1]; exact Go.heap_alloc_new w _
  have hck := check_calls l hok A c W1 (hA.below hb1)
  rw [hk0] at hck
  have hle : (n != l.length) = true := by simp [hlen]
  have hlz : ((n : Int) != (l.length : Int)) = true := by simp; omega
  have HC := Lib.hid hck
  have HW := Lib.hid hW1
  have H1 := Lib.hid (And.intro hb1 hbox)
  clear hA hok hk0 hck hW1 hb1 hbox hlen
  go_enter Try.func26, Try.ntmps26
  go_upto_region 1 with fail
  rw [HW.out]
  go_wp2_with fail
  (with_reducible refine (HC.out).mono ?_); rintro e w2 ⟨rfl, hb2⟩
  have hbx2 := (hb2.block _ (Array.getElem?_eq_some_iff.1 H1.out.2).1).trans H1.out.2
  have z2 : w2.cell? ⟨w.heap.size, 0, none⟩ = some (.slice S n cO) := by rw [cell_of_row _ _ _ _ _ _ hbx2]; rfl
  have H2 := Lib.hid (H1.out.1.trans (hb2.mono H1.out.1.size))
  clear hb2 hbx2
  go_wp2_with fail
  go_ret2
  exact ⟨rfl, H2.out⟩
/-- an order of numbers: each in range, none twice -/
def ordI (n : Nat) (o : List Int) : Prop := (∀ x ∈ o, 0 ≤ x ∧ x < (n : Int)) ∧ o.Nodup
theorem reorder_bad (l : List Ev) (hok : ∀ e ∈ l, e.ok) (hk0 : chkF l = 0) (hl80 : l.length ≤ 80) (o : List Int) (hlen : o.length = l.length) (hbad : ¬ ordI l.length o) (A : Option Addr) (c : Nat) (S : Option Addr) (cO : Nat) (hcap : o.length ≤ cO) (w : World) (hA : Rd encE 11 w A l) (hO : Rd encI 1 w S o) :
    Calls Try.prog 26 #[.slice A l.length c, .slice S o.length cO] w (ErPost 1 w) := by
  have hsm := hA.small
  obtain ⟨W1, hW1⟩ : ∃ W1, w.alloc (.cells #[.slice S o.length cO] 33) = W1 := ⟨_, rfl⟩
  have hb1 : Below w.heap.size w W1 := by rw [← hW1]; exact (Below.refl _ w).alloc (Nat.le_refl _) _
  have hbox : W1.heap[w.heap.size]? = some (.cells #[.slice S o.length cO] 33 (0, 0)) := by rw [← hW1]; exact Go.heap_alloc_new w _
  have hck := check_calls l hok A c W1 (hA.below hb1)
  rw [hk0] at hck
  have HC := Lib.hid hck
  have HW := Lib.hid hW1
  have HR := Lib.hid (And.intro hO hbad)
  have H1 := Lib.hid (And.intro hb1 hbox)
  have hle : (o.length != l.length) = false := by simp [hlen]
  have hlz : ((o.length : Int) != (l.length : Int)) = false := by simp [hlen]
  have HL := Lib.hid hlen
  have hso : o.length ≤ 9223372036854775807 := by omega
  obtain ⟨bo, hbo⟩ : ∃ bo, w.heap.size = bo := ⟨_, rfl⟩
  have HBO := Lib.hid hbo
  clear hA hO hok hbad hk0 hck hW1 hb1 hbox hlen
  rw [hbo] at H1
  clear hbo
  go_enter Try.func26, Try.ntmps26
  go_upto_region 1 with fail
  rw [HW.out]
  rw [HBO.out]
  go_wp2_with fail
  (with_reducible refine (HC.out).mono ?_); rintro e w2 ⟨rfl, hb2⟩
  have hbx2 := (hb2.block _ (Array.getElem?_eq_some_iff.1 H1.out.2).1).trans H1.out.2
  have hlow2 := H1.out.1.trans (hb2.mono (by have := H1.out.1.size; rw [HBO.out] at this; exact this))
  have z2 : w2.cell? ⟨bo, 0, none⟩ = some (.slice S o.length cO) := by rw [cell_of_row _ _ _ _ _ _ hbx2]; rfl
  obtain ⟨i1, hi1, hz1, hs1, hbb1⟩ := info_parts info4
  obtain ⟨W3, hmk, hown3, hg3⟩ := run_makeSlice_full (P := Try.prog) (w := w2) w2.heap.size 71 4 i1 _ 1 Try.underlying71 hi1 hz1 hs1 .i64 .i64 l.length (by omega) (by rw [hbb1]; omega) (by simp [maxLen]; omega) (Nat.le_refl _)
  rw [made_bool] at hown3
  have b23 : Below w2.heap.size w2 W3 := (Below.refl _ w2).grown hg3 (Nat.le_refl _) (fun b hb => by cases hb)
  have hT3 : Own encB 1 4 W3 w2.heap.size (.slice (some ⟨w2.heap.size, 0, none⟩) l.length l.length) (tkO l.length []) := by
    unfold Own
    rw [tkO_len, tkO_nil]; exact hown3
  have hmk' : (Instr.makeSlice 71 (.int .i64 (l.length : Int)) (.int .i64 (l.length : Int))).run Try.prog w2 = .ok (.slice (some ⟨w2.heap.size, 0, none⟩) l.length l.length) W3 := hmk
  have hbx3 := (b23.block _ (Array.getElem?_eq_some_iff.1 hbx2).1).trans hbx2
  have z3 : W3.cell? ⟨bo, 0, none⟩ = some (.slice S o.length cO) := by rw [cell_of_row _ _ _ _ _ _ hbx3]; rfl
  obtain ⟨tb, htb⟩ : ∃ tb, w2.heap.size = tb := ⟨_, rfl⟩
  have H3 := Lib.hid (And.intro hlow2 (And.intro (show Below w2.heap.size w2 W3 from b23) (And.intro hT3 htb)))
  rw [htb] at hmk'
  clear hbx2 hlow2 hb2 hi1 hz1 hs1 hbb1 hmk hown3 hg3 b23 hT3 htb hbx3 i1
  go_upto_region 6 with fail
  clear z2
  go_upto_region 7 with fail
  clear hmk'
  go_upto_region 8 with fail
  have hb23 : Below tb w2 W3 := by rw [← H3.out.2.2.2]; exact H3.out.2.1
  have hT3 : Own encB 1 4 W3 tb (.slice (some ⟨tb, 0, none⟩) l.length l.length) (tkO l.length []) := by
    have := H3.out.2.2.1
    rw [H3.out.2.2.2] at this
    exact this
  have H4 := Lib.hid (And.intro hb23 hT3)
  clear hb23 hT3 z3
  go_loopg [9, 30, 31, 32, 33, 34, 35, 36, 37, 38, 39, 40, 41, 42, 43, 44, 45, 46, 47, 48, 49, 50, 51] o.length (fun gk v9 v30 v31 v32 v33 v34 v35 v36 v37 v38 v39 v40 v41 v42 v43 v44 v45 v46 v47 v48 v49 v50 v51 wr => ∃ (k : Nat) (p : List Nat), k + gk = o.length ∧ v30 = .int .i64 (k : Int) ∧ p.map (fun (j : Nat) => (j : Int)) = o.take k ∧ p.Nodup ∧ (∀ j ∈ p, j < l.length) ∧ Own encB 1 4 wr tb (.slice (some ⟨tb, 0, none⟩) l.length l.length) (tkO l.length p) ∧ Below tb w2 wr)
  case atStart => exact ⟨0, [], by omega, rfl, rfl, List.nodup_nil, fun j hj => by simp at hj, H4.out.2, H4.out.1⟩
  case round =>
    obtain ⟨k, p, hk, rfl, hp, hpd, hpl, hT, hbl⟩ := hrel
    obtain ⟨wo, hwo⟩ : ∃ wo, wo = wr := ⟨_, rfl⟩
    subst hwo
    have hlw : Below w.heap.size w wo := by
      rw [HBO.out]
      refine H3.out.1.trans (hbl.mono ?_)
      rw [← H3.out.2.2.2, ← HBO.out]
      exact H3.out.1.size
    by_cases hkl : k < o.length
    · have hd : decide (k < o.length) = true := decide_eq_true hkl
      obtain ⟨sa, rfl, hsc⟩ := (HR.out.1.below hlw).cell k hkl
      have hsv := hsc 0 _ rfl
      rw [Nat.mul_one, Nat.add_zero] at hsv
      have hsn : o.take (k + 1) = o.take k ++ [o[k]] := List.take_succ_eq_append_getElem hkl
      generalize o[k] = x at *
      have HLW := Lib.hid hlw
      clear hlw hsc
      by_cases hx0 : x < 0
      · have d1 : decide (x < 0) = true := decide_eq_true hx0
        clear hp hpd hpl hT hbl hsn
        go_wp2_with fail
        go_ret2
        exact ⟨rfl, HLW.out⟩
      · have d1 : decide (x < 0) = false := decide_eq_false hx0
        by_cases hxl : (l.length : Int) ≤ x
        · have d2 : decide ((l.length : Int) ≤ x) = true := decide_eq_true hxl
          clear hp hpd hpl hT hbl hsn
          go_wp2_with fail
          go_ret2
          exact ⟨rfl, HLW.out⟩
        · obtain ⟨j, rfl⟩ := Int.eq_ofNat_of_zero_le (show 0 ≤ x by omega)
          have hjl : j < l.length := by omega
          have d2 : decide (l.length ≤ j) = false := decide_eq_false (by omega)
          have hjj : (j : Int) < (l.length : Int) := by omega
          obtain ⟨tc, tf⟩ := hT.cell lenB (tkO_len _ _) j (by rw [tkO_len]; exact hjl) 0 _ rfl
          have hTs := hT.set lenB (tkO_len _ _) j (by rw [tkO_len]; exact hjl) 0 (by decide) (.bool true) true rfl
          simp only [Nat.mul_one, Nat.add_zero, tkO_set, tkO_get] at tc tf hTs
          by_cases hm : j ∈ p
          · rw [decide_eq_true hm] at tc
            clear hp hpd hpl hT hbl hsn hTs tf
            go_wp2_with fail
            go_ret2
            exact ⟨rfl, HLW.out⟩
          · rw [decide_eq_false hm] at tc
            have HT := Lib.hid (And.intro hTs.1 (And.intro (hbl.setCell (p := ⟨tb, j, none⟩) (Nat.le_refl _) (.bool true)) (And.intro hp (And.intro hpd (And.intro hpl (And.intro hsn hm))))))
            clear hTs hT hbl hp hpd hpl hsn hm
            go_wp2_with fail
            go_roundg (gk - 1)
            case measure => omega
            case rel =>
              obtain ⟨t1, t2, t3, t4, t5, t6, t7⟩ := HT.out
              refine ⟨k + 1, p ++ [j], by omega, by go_num, ?_, ?_, ?_, t1, t2⟩
              · rw [List.map_append, t3, t6]; rfl
              · rw [List.nodup_append]
                exact ⟨t4, by simp, fun a ha b hb => by simp at hb; subst hb; intro e; exact t7 (e ▸ ha)⟩
              · intro i hi
                rcases List.mem_append.1 hi with h | h
                · exact t5 i h
                · simp at h; omega
    · exfalso
      apply HR.out.2
      have hke : k = o.length := by omega
      rw [hke, List.take_length] at hp
      constructor
      · intro x hx
        rw [← hp] at hx
        obtain ⟨j, hj, rfl⟩ := List.mem_map.1 hx
        have := hpl j hj
        omega
      · rw [← hp]
        exact List.Pairwise.map _ (fun a b h e => h (by omega)) hpd
end Go.Proofs.Ythebembnlmddoaa
