import Derived.Test.YthccnaemocdcbaaD
import Derived.Maps.AppendAt
import Derived.BigRegion
import Derived.Deep.DeepCutAuto
namespace Go.Proofs.Ythccnaemocdcbaa
open Go.RowKit Ieee
set_option maxHeartbeats 1000000
set_option maxRecDepth 100000
set_option linter.unusedSimpArgs false
set_option linter.unusedVariables false

theorem read_zero {f : Format} (hf : Ok f) : f.read 0 = .number false 0 f.leastPlace := by
  have hb : 0 < f.binade := Nat.two_pow_pos _
  unfold Format.read
  simp [hb]
theorem nearest_can {f : Format} (hf : Ok f) (s : Bool) (n k : Nat) (h24 : n < 2 ^ 24) : f.write (.number s (n * 2 ^ k) (-(k : Int))) = f.write (.number s n 0) := by
  show f.nearest s (n * 2 ^ k) (-(k : Int)) = f.nearest s n 0
  by_cases h0 : n = 0
  · subst h0; simp [Format.nearest]
  · have h1 := nearest_eq hf s n k h0 h24
    have h2 := nearest_eq hf s n 0 h0 h24
    simp only [Nat.pow_zero, Nat.mul_one] at h2
    rw [h1]; exact h2.symm
theorem add_zero {f : Format} (hf : Ok f) {b : Nat} {x : Int} (h : Fc f b x) (hx : small x) : f.add b 0 = some (f.write (.number (x < 0) x.natAbs 0)) := by
  obtain ⟨s, i, h1, hs⟩ := h.read hf hx
  have hz := read_zero hf
  by_cases h0 : x = 0
  · subst h0
    unfold Format.add
    rw [h1, hz]
    simp [Datum.sum, signed, Format.write, Format.nearest]
  · have hlp := hf.lp
    obtain ⟨r, hr0, h3⟩ := sum_eq (y := 0) hs (t := false) (fun h => absurd rfl h) i (-f.leastPlace).toNat
    have e : (Datum.number false (Int.natAbs 0 * 2 ^ (-f.leastPlace).toNat) (-(((-f.leastPlace).toNat : Nat) : Int))) = .number false 0 f.leastPlace := by
      simp; omega
    rw [e, Int.add_zero] at h3
    rw [Int.add_zero] at hr0
    unfold Format.add
    rw [h1, hz, h3]
    show some (f.write _) = _
    rw [nearest_can hf r x.natAbs _ hx, hr0 h0]
theorem cadd_zero {k : FloatKind} {v : Value} {z : G} {M : Nat} (h : Cx k v z) (b : gb M z) (hM : M < 2 ^ 24) (t : TypeId) (w : World) : (binOp .add t v (.complex k 0 0)).run Try.prog w = .ok (.complex k (can k z.1) (can k z.2)) w := by
  obtain ⟨r, i, rfl, hr, hi⟩ := h
  have e1 : k.format.add r 0 = some (can k z.1) := add_zero (kOk k) hr (by have := b.1; unfold small; omega)
  have e2 : k.format.add i 0 = some (can k z.2) := add_zero (kOk k) hi (by have := b.2; unfold small; omega)
  simp [binOp, Op.complexOp, Op.Complex.arith, Op.floatArith, e1, e2]

@[go_sem] theorem run_store_complex {P : Program} {a : Addr} {m : Mode} (w : World) (k : FloatKind) (r i : Nat) : (store a (.complex k r i) m).run P w = stored P w a (.complex k r i) m := run_store P w a _ m rfl
theorem lenG {k : FloatKind} (x : G) : (encG k x).length = 1 := rfl
theorem oneG {k : FloatKind} (x : G) : ∀ u ∈ encG k x, u.oneCell' = true := fun u hu => by simp at hu; subst hu; rfl
theorem info27 : (Try.prog.info? 27).map (fun i => (i.zero, i.size, i.bytes)) = some (some (.complex .f64 0 0), 1, 16) := by kernel_rfl
theorem info29 : (Try.prog.info? 29).map (fun i => (i.zero, i.size, i.bytes)) = some (some (.complex .f32 0 0), 1, 8) := by kernel_rfl
/-- a value as it is -/
abbrev encO (v : Value) : List Value := [v]
theorem lenO (x : Value) : (encO x).length = 1 := rfl

theorem clone54_calls (A : Option Addr) (xs : List G) (c : Nat) (w : World) (hx : Rd (encG .f64) 1 w A xs) (hb : xs.length ≤ 1000000) :
    Calls Try.prog 54 #[.slice A xs.length c] w (ClonePost (encG .f64) 1 27 xs w) := by
  cases A with
  | none =>
    obtain rfl := hx.none
    have heq := fun (w : World) => Lib.run_eql_slice_nil (P := Try.prog) w 24 27 none 0 c 0 0 Try.underlying24
    clear hx
    go_enter Try.func54, Try.ntmps54
    go_wp2
    go_ret
    exact ⟨_, rfl, World.ownsRow_nil _ _ _ _, Below.refl _ _⟩
  | some a =>
    have heq := fun (w : World) => Lib.run_eql_slice_nil (P := Try.prog) w 24 27 (some a) xs.length c 0 0 Try.underlying24
    have hb0 : Below w.heap.size w (w.alloc (.cells #[] 27)) := (Below.refl _ _).alloc (Nat.le_refl _) _
    have HX := Lib.hid (And.intro hx hb0)
    have HB := Lib.hid hb
    clear hx hb0 hb
    go_enter Try.func54, Try.ntmps54
    go_wp2_with (at_builtin; refine wpList_append_typed lenG oneG _ rfl (.tmp 5) (.tmp 6) 24 rfl w.heap.size 27 (.complex .f64 0 0) 16 Try.underlying24 info27 rfl (by decide) (by decide) _ [] rfl (Own.empty _ _ _ _ _ (Nat.le_refl _)) a xs.length c xs rfl rfl (HX.out.1.below HX.out.2) (by have := HB.out; simp; omega) (by simp) ?_; intro v' w1 hown hgrow)
    rw [List.nil_append] at hown
    have HO := Lib.hid (And.intro hown hgrow)
    clear hown hgrow
    go_wp2
    go_ret
    exact ⟨_, rfl, HO.out.1, HX.out.2.grown HO.out.2 (by simp) (fun k hk => Nat.le_of_eq (Option.some.inj hk))⟩

theorem positive33_calls (vs : List Value) (n : Nat) (hnn : vs.length = n) (z : Nat → G) (M : Nat) (hM : M < 2 ^ 24) (hz : ∀ j (h : j < vs.length), Cx .f64 vs[j] (z j) ∧ gb M (z j)) (base g c : Nat) (w : World) (hown : Own encO 1 27 w base (.slice (some ⟨g, 0, none⟩) n c) vs) (hn : n ≤ 1000000) :
    Calls Try.prog 33 #[.slice (some ⟨g, 0, none⟩) n c] w fun e w' => e = .returned (.slice (some ⟨g, 0, none⟩) n c) ∧ Own (encG .f64) 1 27 w' base (.slice (some ⟨g, 0, none⟩) n c) ((List.range n).map z) ∧ w.grownBy w' (some g) := by
  have HZ := Lib.hid hz
  have HO := Lib.hid hown
  clear hz hown
  go_enter Try.func33, Try.ntmps33
  go_wp2
  go_loopg [4, 7, 8, 9, 10, 11, 12, 13, 14, 15, 16, 17] n (fun gk v4 v7 v8 v9 v10 v11 v12 v13 v14 v15 v16 v17 wr => ∃ (i : Nat) (us : List Value), i + gk = n ∧ v7 = .int .i64 i ∧ us.length = n ∧ Own encO 1 27 wr base (.slice (some ⟨g, 0, none⟩) n c) us ∧ w.grownBy wr (some g) ∧ (∀ j (h : j < us.length), j < i → us[j] = .complex .f64 (can .f64 (z j).1) (can .f64 (z j).2)) ∧ ∀ j (h : j < us.length), Cx .f64 us[j] (z j) ∧ gb M (z j))
  case atStart => exact ⟨0, vs, by omega, rfl, hnn, HO.out, World.grownBy.refl _ _, fun j _ h => by omega, fun j h => HZ.out j h⟩
  case round =>
    obtain ⟨i, us, hi, rfl, hul, ho, hg, hdone, hcx⟩ := hrel
    by_cases hlt : i < n
    · have hiu : i < us.length := by omega
      obtain ⟨hc1, hc2⟩ := ho.cell lenO hul i hiu 0 us[i] rfl
      have hrun := fun (w : World) => cadd_zero (hcx i hiu).1 (hcx i hiu).2 hM 27 w
      have hrun2 := fun (w : World) => cadd_zero (hcx i hiu).1 (hcx i hiu).2 hM 29 w
      have hset := ho.set lenO hul i hiu 0 (by decide) (.complex .f64 (can .f64 (z i).1) (can .f64 (z i).2)) (.complex .f64 (can .f64 (z i).1) (can .f64 (z i).2)) rfl
      simp only [Nat.mul_one, Nat.add_zero] at hc1 hc2 hset
      have HS := Lib.hid hset
      have HD := Lib.hid (And.intro hdone (And.intro hcx (And.intro hg ho)))
      clear hset hdone hcx hg ho
      generalize us[i] = u at hc1 hrun hrun2
      go_wp2
      go_roundg (gk - 1)
      case measure => omega
      case rel =>
        refine ⟨i + 1, us.set i (.complex .f64 (can .f64 (z i).1) (can .f64 (z i).2)), by omega, by go_num, by rw [List.length_set]; exact hul, HS.out.1, HD.out.2.2.1.trans HS.out.2, fun j hj hji => ?_, fun j hj => ?_⟩
        · rw [List.getElem_set]
          split
          · rename_i e; subst e; rfl
          · exact HD.out.1 j (by rw [List.length_set] at hj; exact hj) (by omega)
        · rw [List.getElem_set]
          split
          · rename_i e; subst e; exact ⟨Cx.can _ _, (HD.out.2.1 i hiu).2⟩
          · exact HD.out.2.1 j (by rw [List.length_set] at hj; exact hj)
    · have HD := Lib.hid (And.intro hdone (And.intro ho hg))
      clear hdone hcx hg ho
      go_wp2
      go_ret
      refine ⟨rfl, ?_, HD.out.2.2⟩
      have e : us = ((List.range n).map z).map (fun z => Value.complex .f64 (can .f64 z.1) (can .f64 z.2)) := by
        apply List.ext_getElem
        · simp [hul]
        · intro j h1 h2
          simp only [List.getElem_map, List.getElem_range]
          exact HD.out.1 j h1 (by omega)
      have ho := HD.out.2.1
      unfold Own at ho ⊢
      rw [e] at ho
      simpa [List.flatMap_map] using ho

theorem clone57_calls (A : Option Addr) (xs : List G) (c : Nat) (w : World) (hx : Rd (encG .f32) 1 w A xs) (hb : xs.length ≤ 1000000) :
    Calls Try.prog 57 #[.slice A xs.length c] w (ClonePost (encG .f32) 1 29 xs w) := by
  cases A with
  | none =>
    obtain rfl := hx.none
    have heq := fun (w : World) => Lib.run_eql_slice_nil (P := Try.prog) w 25 29 none 0 c 0 0 Try.underlying25
    clear hx
    go_enter Try.func57, Try.ntmps57
    go_wp2
    go_ret
    exact ⟨_, rfl, World.ownsRow_nil _ _ _ _, Below.refl _ _⟩
  | some a =>
    have heq := fun (w : World) => Lib.run_eql_slice_nil (P := Try.prog) w 25 29 (some a) xs.length c 0 0 Try.underlying25
    have hb0 : Below w.heap.size w (w.alloc (.cells #[] 29)) := (Below.refl _ _).alloc (Nat.le_refl _) _
    have HX := Lib.hid (And.intro hx hb0)
    have HB := Lib.hid hb
    clear hx hb0 hb
    go_enter Try.func57, Try.ntmps57
    go_wp2_with (at_builtin; refine wpList_append_typed lenG oneG _ rfl (.tmp 5) (.tmp 6) 25 rfl w.heap.size 29 (.complex .f32 0 0) 8 Try.underlying25 info29 rfl (by decide) (by decide) _ [] rfl (Own.empty _ _ _ _ _ (Nat.le_refl _)) a xs.length c xs rfl rfl (HX.out.1.below HX.out.2) (by have := HB.out; simp; omega) (by simp) ?_; intro v' w1 hown hgrow)
    rw [List.nil_append] at hown
    have HO := Lib.hid (And.intro hown hgrow)
    clear hown hgrow
    go_wp2
    go_ret
    exact ⟨_, rfl, HO.out.1, HX.out.2.grown HO.out.2 (by simp) (fun k hk => Nat.le_of_eq (Option.some.inj hk))⟩

theorem positive58_calls (vs : List Value) (n : Nat) (hnn : vs.length = n) (z : Nat → G) (M : Nat) (hM : M < 2 ^ 24) (hz : ∀ j (h : j < vs.length), Cx .f32 vs[j] (z j) ∧ gb M (z j)) (base g c : Nat) (w : World) (hown : Own encO 1 29 w base (.slice (some ⟨g, 0, none⟩) n c) vs) (hn : n ≤ 1000000) :
    Calls Try.prog 58 #[.slice (some ⟨g, 0, none⟩) n c] w fun e w' => e = .returned (.slice (some ⟨g, 0, none⟩) n c) ∧ Own (encG .f32) 1 29 w' base (.slice (some ⟨g, 0, none⟩) n c) ((List.range n).map z) ∧ w.grownBy w' (some g) := by
  have HZ := Lib.hid hz
  have HO := Lib.hid hown
  clear hz hown
  go_enter Try.func58, Try.ntmps58
  go_wp2
  go_loopg [4, 7, 8, 9, 10, 11, 12, 13, 14, 15, 16, 17] n (fun gk v4 v7 v8 v9 v10 v11 v12 v13 v14 v15 v16 v17 wr => ∃ (i : Nat) (us : List Value), i + gk = n ∧ v7 = .int .i64 i ∧ us.length = n ∧ Own encO 1 29 wr base (.slice (some ⟨g, 0, none⟩) n c) us ∧ w.grownBy wr (some g) ∧ (∀ j (h : j < us.length), j < i → us[j] = .complex .f32 (can .f32 (z j).1) (can .f32 (z j).2)) ∧ ∀ j (h : j < us.length), Cx .f32 us[j] (z j) ∧ gb M (z j))
  case atStart => exact ⟨0, vs, by omega, rfl, hnn, HO.out, World.grownBy.refl _ _, fun j _ h => by omega, fun j h => HZ.out j h⟩
  case round =>
    obtain ⟨i, us, hi, rfl, hul, ho, hg, hdone, hcx⟩ := hrel
    by_cases hlt : i < n
    · have hiu : i < us.length := by omega
      obtain ⟨hc1, hc2⟩ := ho.cell lenO hul i hiu 0 us[i] rfl
      have hrun := fun (w : World) => cadd_zero (hcx i hiu).1 (hcx i hiu).2 hM 27 w
      have hrun2 := fun (w : World) => cadd_zero (hcx i hiu).1 (hcx i hiu).2 hM 29 w
      have hset := ho.set lenO hul i hiu 0 (by decide) (.complex .f32 (can .f32 (z i).1) (can .f32 (z i).2)) (.complex .f32 (can .f32 (z i).1) (can .f32 (z i).2)) rfl
      simp only [Nat.mul_one, Nat.add_zero] at hc1 hc2 hset
      have HS := Lib.hid hset
      have HD := Lib.hid (And.intro hdone (And.intro hcx (And.intro hg ho)))
      clear hset hdone hcx hg ho
      generalize us[i] = u at hc1 hrun hrun2
      go_wp2
      go_roundg (gk - 1)
      case measure => omega
      case rel =>
        refine ⟨i + 1, us.set i (.complex .f32 (can .f32 (z i).1) (can .f32 (z i).2)), by omega, by go_num, by rw [List.length_set]; exact hul, HS.out.1, HD.out.2.2.1.trans HS.out.2, fun j hj hji => ?_, fun j hj => ?_⟩
        · rw [List.getElem_set]
          split
          · rename_i e; subst e; rfl
          · exact HD.out.1 j (by rw [List.length_set] at hj; exact hj) (by omega)
        · rw [List.getElem_set]
          split
          · rename_i e; subst e; exact ⟨Cx.can _ _, (HD.out.2.1 i hiu).2⟩
          · exact HD.out.2.1 j (by rw [List.length_set] at hj; exact hj)
    · have HD := Lib.hid (And.intro hdone (And.intro ho hg))
      clear hdone hcx hg ho
      go_wp2
      go_ret
      refine ⟨rfl, ?_, HD.out.2.2⟩
      have e : us = ((List.range n).map z).map (fun z => Value.complex .f32 (can .f32 z.1) (can .f32 z.2)) := by
        apply List.ext_getElem
        · simp [hul]
        · intro j h1 h2
          simp only [List.getElem_map, List.getElem_range]
          exact HD.out.1 j h1 (by omega)
      have ho := HD.out.2.1
      unfold Own at ho ⊢
      rw [e] at ho
      simpa [List.flatMap_map] using ho
end Go.Proofs.Ythccnaemocdcbaa
