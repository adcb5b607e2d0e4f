import Derived.Test.YthccnaemocdcbaaV
namespace Go.Proofs.Ythccnaemocdcbaa
open Go.RowKit Go.Maps Go.WideMaps
set_option maxHeartbeats 4000000
set_option maxRecDepth 100000
set_option linter.unusedSimpArgs false
set_option linter.unusedVariables false

theorem ProdPost.err {code : Int} {w w' : World} (h : Below w.heap.size w w') : ProdPost [] [] code w (.returned (.tuple #[.slice none 0 0, .slice none 0 0, .int .i64 code])) w' :=
  ⟨_, _, rfl, World.ownsRow_nil _ _ _ _, World.ownsRow_nil _ _ _ _, h⟩

theorem product_err4 (rows parts : Int) (h : rows < 0 ∨ 1024 < rows ∨ parts < 1 ∨ 16 < parts) (lm ca : Nat) (lv cv : Nat) (A V : Option Addr) (w : World) :
    Calls Try.prog 15 #[.int .i64 rows, .slice A lm ca, .slice V lv cv, .int .i64 parts] w (ProdPost [] [] 4 w) := by
  have hb0 : Below w.heap.size w ((w.alloc (Obj.cells #[Value.int IntKind.i64 rows] 3)).alloc (Obj.cells #[Value.slice V lv cv] 44)) := ((Below.refl _ _).alloc (Nat.le_refl _) _).alloc (by simp) _
  have HB := Lib.hid hb0
  clear hb0
  by_cases h1 : rows < 0
  · go_enter Try.func15, Try.ntmps15
    go_wp2_with fail
    refine bodyPost_ret (by simp [results, Try.results15, go_sem]; try rfl) rfl ?_
    exact ProdPost.err HB.out
  · by_cases h2 : 1024 < rows
    · go_enter Try.func15, Try.ntmps15
      go_wp2_with fail
      refine bodyPost_ret (by simp [results, Try.results15, go_sem]; try rfl) rfl ?_
      exact ProdPost.err HB.out
    · by_cases h3 : parts < 1
      · go_enter Try.func15, Try.ntmps15
        go_wp2_with fail
        refine bodyPost_ret (by simp [results, Try.results15, go_sem]; try rfl) rfl ?_
        exact ProdPost.err HB.out
      · have h4 : 16 < parts := by omega
        go_enter Try.func15, Try.ntmps15
        go_wp2_with fail
        refine bodyPost_ret (by simp [results, Try.results15, go_sem]; try rfl) rfl ?_
        exact ProdPost.err HB.out
theorem product_err410 (rows parts : Int) (h : 0 ≤ rows ∧ rows ≤ 1024 ∧ 1 ≤ parts ∧ parts ≤ 16) (lm ca : Nat) (lv cv : Nat) (hlv : 1024 < lv) (hl : lv ≤ maxLen) (A V : Option Addr) (w : World) :
    Calls Try.prog 15 #[.int .i64 rows, .slice A lm ca, .slice V lv cv, .int .i64 parts] w (ProdPost [] [] 410 w) := by
  have hb0 : Below w.heap.size w ((w.alloc (Obj.cells #[Value.int IntKind.i64 rows] 3)).alloc (Obj.cells #[Value.slice V lv cv] 44)) := ((Below.refl _ _).alloc (Nat.le_refl _) _).alloc (by simp) _
  have HB := Lib.hid hb0
  clear hb0
  obtain ⟨h1, h2, h3, h4⟩ := h
  unfold maxLen at hl
  go_enter Try.func15, Try.ntmps15
  go_wp2_with fail
  refine bodyPost_ret (by simp [results, Try.results15, go_sem]; try rfl) rfl ?_
  exact ProdPost.err HB.out
theorem product_err5 (rows parts : Int) (h : 0 ≤ rows ∧ rows ≤ 1024 ∧ 1 ≤ parts ∧ parts ≤ 16) (lm ca : Nat) (lv cv : Nat) (hlv : lv ≤ 1024) (hlm : 5000 < lm) (hl : lm ≤ maxLen) (A V : Option Addr) (w : World) :
    Calls Try.prog 15 #[.int .i64 rows, .slice A lm ca, .slice V lv cv, .int .i64 parts] w (ProdPost [] [] 5 w) := by
  have hb0 : Below w.heap.size w ((w.alloc (Obj.cells #[Value.int IntKind.i64 rows] 3)).alloc (Obj.cells #[Value.slice V lv cv] 44)) := ((Below.refl _ _).alloc (Nat.le_refl _) _).alloc (by simp) _
  have HB := Lib.hid hb0
  clear hb0
  obtain ⟨h1, h2, h3, h4⟩ := h
  unfold maxLen at hl
  go_enter Try.func15, Try.ntmps15
  go_wp2_with fail
  refine bodyPost_ret (by simp [results, Try.results15, go_sem]; try rfl) rfl ?_
  exact ProdPost.err HB.out
theorem product_err1 (rows parts : Int) (h : 0 ≤ rows ∧ rows ≤ 1024 ∧ 1 ≤ parts ∧ parts ≤ 16) (m : List En) (v : List Int) (hm5 : m.length ≤ 5000) (hv1 : v.length ≤ 1024) (hbad : v.any (fun n => !wI 1000000 n) = true ∨ m.any (badN rows v.length) = true)
    (A V : Option Addr) (ca cv : Nat) (w : World) (hA : Rd encN 3 w A m) (hV : Rd encI 1 w V v) :
    Calls Try.prog 15 #[.int .i64 rows, .slice A m.length ca, .slice V v.length cv, .int .i64 parts] w (ProdPost [] [] 1 w) := by
  obtain ⟨p1, p2, p3, p4⟩ := h
  have h35 := fun w' (hb' : Below w.heap.size w w') => containsFuncI_calls (fun n => !wI 1000000 n) 36 #[] V v cv w' (hV.below hb') f36 (fun x w1 hb1 => by
    have h := out1_calls x w1
    exact h.mono (fun e w2 ⟨e1, e2⟩ => ⟨e1, e2 ▸ Below.refl _ _⟩))
  have H35 := Lib.hid h35
  have h38 := fun w' (hb' : Below w.heap.size w w') (b1 b2 : Addr) (hc1 : w'.cell? b1 = some (.int .i64 rows)) (hc2 : w'.cell? b2 = some (.slice V v.length cv)) => containsFuncN_calls (badN rows v.length) 39 #[.pointer (some b1), .pointer (some b2)] A m ca w' (hA.below hb') f39 (fun x w1 hb1 => by
    exact out2_calls x rows V v.length cv b1 b2 w1 ((hb1.cell (World.block_lt_of_cell? _ _ hc1)).trans hc1) ((hb1.cell (World.block_lt_of_cell? _ _ hc2)).trans hc2))
  have H38 := Lib.hid h38
  have hsm := hA.small
  have hsv := hV.small
  obtain ⟨W0, hW0⟩ : ∃ W0, ((w.alloc (Obj.cells #[Value.int IntKind.i64 rows] 3)).alloc (Obj.cells #[Value.slice V v.length cv] 44)) = W0 := ⟨_, rfl⟩
  have hb0 : Below w.heap.size w W0 := by rw [← hW0]; exact ((Below.refl _ _).alloc (Nat.le_refl _) _).alloc (by simp) _
  have hc4 : W0.cell? ⟨w.heap.size, 0, none⟩ = some (.int .i64 rows) := by rw [← hW0]; simp
  have hc6 : W0.cell? ⟨w.heap.size + 1, 0, none⟩ = some (.slice V v.length cv) := by rw [← hW0]; simp
  have hl4 := World.block_lt_of_cell? _ _ hc4
  have hl6 := World.block_lt_of_cell? _ _ hc6
  have h1 := H35.out W0 hb0
  have HB0 := Lib.hid hb0
  by_cases hva : v.any (fun n => !wI 1000000 n) = true
  · rw [hva] at h1
    have H1 := Lib.hid h1
    clear h1 hb0 H35 H38 h35 h38 hA hV hva hbad
    go_enter Try.func15, Try.ntmps15
    go_upto_region 7 with fail
    try rw [hW0]
    clear hW0
    go_wp2_with ((with_reducible refine (H1.out).mono ?_); rintro e w1 ⟨rfl, hb1⟩)
    refine bodyPost_ret (by simp [results, Try.results15, go_sem]; try rfl) rfl ?_
    exact ProdPost.err (HB0.out.trans (hb1.mono HB0.out.size))
  · have hma : m.any (badN rows v.length) = true := by rcases hbad with h | h; exact absurd h hva; exact h
    rw [Bool.eq_false_iff.2 hva] at h1
    have H1 := Lib.hid h1
    have HM := Lib.hid hma
    clear h1 hb0 H35 h35 h38 hA hV hva hbad hma
    go_enter Try.func15, Try.ntmps15
    go_upto_region 7 with fail
    try rw [hW0]
    clear hW0
    go_upto_region 9 with ((with_reducible refine (H1.out).mono ?_); rintro e w1 ⟨rfl, hb1⟩)
    have hd4 := (hb1.cell hl4).trans hc4
    have hd6 := (hb1.cell hl6).trans hc6
    have hb01 := HB0.out.trans (hb1.mono HB0.out.size)
    have h2 := H38.out w1 hb01 _ _ hd4 hd6
    rw [HM.out] at h2
    have H2 := Lib.hid h2
    have HB1 := Lib.hid hb01
    clear hc4 hc6 hl4 hl6 hb1 hb01 h2 H38 H1 HB0
    go_wp2_with ((with_reducible refine (H2.out).mono ?_); rintro e w2 ⟨rfl, hb2⟩)
    refine bodyPost_ret (by simp [results, Try.results15, go_sem]; try rfl) rfl ?_
    exact ProdPost.err (HB1.out.trans (hb2.mono HB1.out.size))

/-- the code of a product -/
def prodC (rows : Int) (m : List En) (v : List Int) (parts : Int) : Int :=
  if rows < 0 ∨ 1024 < rows ∨ parts < 1 ∨ 16 < parts then 4
  else if 1024 < v.length then 410
  else if 5000 < m.length then 5
  else if v.any (fun n => !wI 1000000 n) = true ∨ m.any (badN rows v.length) = true then 1
  else 0
def prodO (rows : Int) (m : List En) (v : List Int) (parts : Int) : List Int := if prodC rows m v parts = 0 then outF rows.toNat v m else []
def prodT (rows : Int) (m : List En) (v : List Int) (parts : Int) : List Int := if prodC rows m v parts = 0 then fetI rows.toNat v.length parts.toNat m m.length else []
theorem product_calls (rows parts : Int) (m : List En) (v : List Int) (A V : Option Addr) (ca cv : Nat) (w : World) (hA : Rd encN 3 w A m) (hV : Rd encI 1 w V v) :
    Calls Try.prog 15 #[.int .i64 rows, .slice A m.length ca, .slice V v.length cv, .int .i64 parts] w (ProdPost (prodO rows m v parts) (prodT rows m v parts) (prodC rows m v parts) w) := by
  by_cases h1 : rows < 0 ∨ 1024 < rows ∨ parts < 1 ∨ 16 < parts
  · have hc : prodC rows m v parts = 4 := by unfold prodC; rw [if_pos h1]
    unfold prodO prodT
    rw [hc]
    exact product_err4 rows parts h1 _ _ _ _ _ _ _
  · have hr : 0 ≤ rows ∧ rows ≤ 1024 ∧ 1 ≤ parts ∧ parts ≤ 16 := by omega
    by_cases h2 : 1024 < v.length
    · have hc : prodC rows m v parts = 410 := by unfold prodC; rw [if_neg h1, if_pos h2]
      unfold prodO prodT
      rw [hc]
      exact product_err410 rows parts hr _ _ _ _ h2 hV.small _ _ _
    · by_cases h3 : 5000 < m.length
      · have hc : prodC rows m v parts = 5 := by unfold prodC; rw [if_neg h1, if_neg h2, if_pos h3]
        unfold prodO prodT
        rw [hc]
        exact product_err5 rows parts hr _ _ _ _ (by omega) h3 hA.small _ _ _
      · by_cases h4 : v.any (fun n => !wI 1000000 n) = true ∨ m.any (badN rows v.length) = true
        · have hc : prodC rows m v parts = 1 := by unfold prodC; rw [if_neg h1, if_neg h2, if_neg h3, if_pos h4]
          unfold prodO prodT
          rw [hc]
          exact product_err1 rows parts hr m v (by omega) (by omega) h4 A V ca cv w hA hV
        · have hc : prodC rows m v parts = 0 := by unfold prodC; rw [if_neg h1, if_neg h2, if_neg h3, if_neg h4]
          unfold prodO prodT
          rw [hc, if_pos rfl, if_pos rfl]
          obtain ⟨R, rfl⟩ := Int.eq_ofNat_of_zero_le hr.1
          obtain ⟨P, rfl⟩ := Int.eq_ofNat_of_zero_le (show 0 ≤ parts by omega)
          exact product_ok R P (by omega) (by omega) (by omega) m v (by omega) (by omega) (Bool.eq_false_iff.2 (fun h => h4 (Or.inl h))) (Bool.eq_false_iff.2 (fun h => h4 (Or.inr h))) A V ca cv w hA hV
end Go.Proofs.Ythccnaemocdcbaa
