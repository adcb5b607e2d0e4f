import Derived.Test.YthccnaemocdcbaaC
namespace Go.Proofs.Ythccnaemocdcbaa
open Go.RowKit Ieee
set_option maxHeartbeats 1000000
set_option maxRecDepth 100000
set_option linter.unusedSimpArgs false
set_option linter.unusedVariables false

theorem fc_const {c : Nat} (most : Nat) (hc : c = double.nearest false most 0) (hn : Op.negFloat .f64 c = double.nearest true most 0) (h0 : most ≠ 0) : Fc FloatKind.f64.format c (most : Int) ∧ Fc FloatKind.f64.format (Op.negFloat .f64 c) (-(most : Int)) := by
  refine ⟨⟨false, fun _ => ?_, ?_⟩, ⟨true, fun _ => ?_, ?_⟩⟩
  · exact (decide_eq_false (by omega)).symm
  · rw [Int.natAbs_natCast]; exact hc
  · exact (decide_eq_true (by omega)).symm
  · rw [Int.natAbs_neg, Int.natAbs_natCast]; exact hn
theorem c65536 : Fc FloatKind.f64.format 4679240012837945344 65536 ∧ Fc FloatKind.f64.format (Op.negFloat .f64 4679240012837945344) (-65536) := fc_const 65536 (by decide +kernel) (by decide +kernel) (by decide)
theorem c4096 : Fc FloatKind.f64.format 4661225614328463360 4096 ∧ Fc FloatKind.f64.format (Op.negFloat .f64 4661225614328463360) (-4096) := fc_const 4096 (by decide +kernel) (by decide +kernel) (by decide)
theorem c100 : Fc FloatKind.f64.format 4636737291354636288 100 ∧ Fc FloatKind.f64.format (Op.negFloat .f64 4636737291354636288) (-100) := fc_const 100 (by decide +kernel) (by decide +kernel) (by decide)

theorem wholes1_calls (z : G) (c : Nat) (most : Int) (hc : Fc FloatKind.f64.format c most) (hn : Fc FloatKind.f64.format (Op.negFloat .f64 c) (-most)) (hz : gb most.toNat z) (hm : small most) (h0 : 0 ≤ most) (b : Addr) (w : World) (hcell : w.cell? b = some (.float .f64 c)) :
    Calls Try.prog 53 #[.complex .f64 (can .f64 z.1) (can .f64 z.2), .pointer (some b)] w fun e w' => e = .returned (.bool false) ∧ w = w' := by
  have h1 := fun (w : World) => whole_calls (can_fc .f64 z.1) hc hn hz.1 hm h0 w
  have h2 := fun (w : World) => whole_calls (can_fc .f64 z.2) hc hn hz.2 hm h0 w
  have H1 := Lib.hid h1
  have H2 := Lib.hid h2
  clear h1 h2 hc hn hz hm h0
  generalize can .f64 z.1 = r at H1 ⊢
  generalize can .f64 z.2 = i at H2 ⊢
  go_enter Try.func53, Try.ntmps53
  go_wp2_with fail
  (with_reducible refine (H1.out _).mono ?_); rintro e w' ⟨rfl, rfl⟩
  go_wp2_with fail
  (with_reducible refine (H2.out _).mono ?_); rintro e w' ⟨rfl, rfl⟩
  go_wp2_with fail
  go_ret
  exact ⟨rfl, rfl⟩

theorem conv_run {x : Int} {b : Nat} (h : Fc FloatKind.f32.format b x) (hx : small x) : ∃ b', Fc FloatKind.f64.format b' x ∧ ∀ w, (convert 30 28 (.float .f32 b)).run Try.prog w = .ok (.float .f64 b') w := by
  obtain ⟨s, m, pl, h1, h2, h3⟩ := Fc.conv (kOk .f32) (kOk .f64) h hx
  refine ⟨_, h2, fun w => run_convert_float_float w 30 28 .f32 .f64 _ _ (by kernel_rfl) Try.underlying28 ?_⟩
  have h1' : FloatKind.f32.decode b = .number s m pl := h1
  have h3' : (FloatKind.f64.decode (FloatKind.f64.encode (.number s m pl))).isInfinity = false := h3
  simp [floatToFloatBits, h1', h3']
  rfl

theorem t64_calls (z : G) (hz : gb 4096 z) (w : World) :
    Calls Try.prog 30 #[.complex .f32 (can .f32 z.1) (can .f32 z.2)] w fun e w' => e = .returned (.bool false) ∧ w = w' := by
  obtain ⟨b1, f1, r1⟩ := conv_run (can_fc .f32 z.1) (by have := hz.1; unfold small; omega)
  obtain ⟨b2, f2, r2⟩ := conv_run (can_fc .f32 z.2) (by have := hz.2; unfold small; omega)
  have h1 := fun (w : World) => whole_calls f1 c4096.1 c4096.2 hz.1 (by unfold small; decide) (by decide) w
  have h2 := fun (w : World) => whole_calls f2 c4096.1 c4096.2 hz.2 (by unfold small; decide) (by decide) w
  have H1 := Lib.hid h1
  have H2 := Lib.hid h2
  clear h1 h2 hz f1 f2
  generalize can .f32 z.1 = r at r1 ⊢
  generalize can .f32 z.2 = i at r2 ⊢
  go_enter Try.func30, Try.ntmps30
  go_wp2_with fail
  (with_reducible refine (H1.out _).mono ?_); rintro e w' ⟨rfl, rfl⟩
  go_wp2_with fail
  (with_reducible refine (H2.out _).mono ?_); rintro e w' ⟨rfl, rfl⟩
  go_wp2_with fail
  go_ret
  exact ⟨rfl, rfl⟩

theorem Rd.g {k : FloatKind} {w : World} {A : Option Addr} {zs : List G} (h : Rd (encG k) 1 w A zs) (i : Nat) (hi : i < zs.length) : ∃ a, A = some a ∧ w.cell? (a.add i) = some (.complex k (can k zs[i].1) (can k zs[i].2)) := by
  obtain ⟨a, ha, hc⟩ := h.cell i hi
  exact ⟨a, ha, by simpa using hc 0 _ rfl⟩

theorem none66_calls (fid : Nat) (cap : Array Value) (A : Option Addr) (zs : List G) (c : Nat) (w : World)
    (hx : Rd (encG .f64) 1 w A zs)
    (hf : ∀ (args : Array Value) (w : World), (callFunc fid args).run Try.prog w = .ok (.enter fid args) w)
    (hp : ∀ z ∈ zs, Calls Try.prog fid (#[.complex .f64 (can .f64 z.1) (can .f64 z.2)] ++ cap) w fun e w' => e = .returned (.bool false) ∧ w = w') :
    Calls Try.prog 66 #[.slice A zs.length c, .func (.func fid) #[] cap] w fun e w' => e = .returned (.int .i64 (-1)) ∧ w = w' := by
  have hl := hx.small
  have HX := Lib.hid hx
  have HP := Lib.hid hp
  clear hx hp
  go_enter Try.func66, Try.ntmps66
  go_wp2
  go_loop [4, 5, 8, 9, 10, 11, 12, 13, 14, 15, 16, 17, 18] (fun v4 v5 v8 v9 v10 v11 v12 v13 v14 v15 v16 v17 v18 => ∃ k : Nat, k ≤ zs.length ∧ v8 = .int .i64 k ∧ v4 = .int .i64 0) (fun _ _ v8 _ _ _ _ _ _ _ _ _ _ => zs.length - (intOf v8).toNat)
  case atStart => exact ⟨0, Nat.zero_le _, rfl, rfl⟩
  case round =>
    obtain ⟨k, hk, rfl, rfl⟩ := hrel
    by_cases hlt : k < zs.length
    · obtain ⟨a, rfl, hc⟩ := HX.out.g k hlt
      have hp1 := HP.out zs[k] (List.getElem_mem hlt)
      generalize can .f64 zs[k].1 = r at hc hp1
      generalize can .f64 zs[k].2 = i at hc hp1
      have HP1 := Lib.hid hp1
      clear hp1
      go_wp2_with ((with_reducible refine (HP1.out).mono ?_); rintro e w' ⟨rfl, rfl⟩)
      go_round
      case rel => exact ⟨k+1, by omega, by go_num, rfl⟩
      case measure => simp [intOf]; omega
    · go_wp2
      go_ret
      exact ⟨rfl, rfl⟩
theorem none52_calls (fid : Nat) (cap : Array Value) (A : Option Addr) (zs : List G) (c : Nat) (w : World)
    (hx : Rd (encG .f64) 1 w A zs)
    (hf : ∀ (args : Array Value) (w : World), (callFunc fid args).run Try.prog w = .ok (.enter fid args) w)
    (hp : ∀ z ∈ zs, Calls Try.prog fid (#[.complex .f64 (can .f64 z.1) (can .f64 z.2)] ++ cap) w fun e w' => e = .returned (.bool false) ∧ w = w') :
    Calls Try.prog 52 #[.slice A zs.length c, .func (.func fid) #[] cap] w fun e w' => e = .returned (.bool false) ∧ w = w' := by
  have h1 := none66_calls fid cap A zs c w hx hf hp
  have H1 := Lib.hid h1
  clear h1 hx hp hf
  go_enter Try.func52, Try.ntmps52
  go_wp2_with (go_at_call 66; (with_reducible refine (H1.out).mono ?_); rintro e w' ⟨rfl, rfl⟩)
  go_ret
  exact ⟨rfl, rfl⟩

theorem none55_calls (fid : Nat) (cap : Array Value) (A : Option Addr) (zs : List G) (c : Nat) (w : World)
    (hx : Rd (encG .f32) 1 w A zs)
    (hf : ∀ (args : Array Value) (w : World), (callFunc fid args).run Try.prog w = .ok (.enter fid args) w)
    (hp : ∀ z ∈ zs, Calls Try.prog fid (#[.complex .f32 (can .f32 z.1) (can .f32 z.2)] ++ cap) w fun e w' => e = .returned (.bool false) ∧ w = w') :
    Calls Try.prog 55 #[.slice A zs.length c, .func (.func fid) #[] cap] w fun e w' => e = .returned (.int .i64 (-1)) ∧ w = w' := by
  have hl := hx.small
  have HX := Lib.hid hx
  have HP := Lib.hid hp
  clear hx hp
  go_enter Try.func55, Try.ntmps55
  go_wp2
  go_loop [4, 5, 8, 9, 10, 11, 12, 13, 14, 15, 16, 17, 18] (fun v4 v5 v8 v9 v10 v11 v12 v13 v14 v15 v16 v17 v18 => ∃ k : Nat, k ≤ zs.length ∧ v8 = .int .i64 k ∧ v4 = .int .i64 0) (fun _ _ v8 _ _ _ _ _ _ _ _ _ _ => zs.length - (intOf v8).toNat)
  case atStart => exact ⟨0, Nat.zero_le _, rfl, rfl⟩
  case round =>
    obtain ⟨k, hk, rfl, rfl⟩ := hrel
    by_cases hlt : k < zs.length
    · obtain ⟨a, rfl, hc⟩ := HX.out.g k hlt
      have hp1 := HP.out zs[k] (List.getElem_mem hlt)
      generalize can .f32 zs[k].1 = r at hc hp1
      generalize can .f32 zs[k].2 = i at hc hp1
      have HP1 := Lib.hid hp1
      clear hp1
      go_wp2_with ((with_reducible refine (HP1.out).mono ?_); rintro e w' ⟨rfl, rfl⟩)
      go_round
      case rel => exact ⟨k+1, by omega, by go_num, rfl⟩
      case measure => simp [intOf]; omega
    · go_wp2
      go_ret
      exact ⟨rfl, rfl⟩
theorem none29_calls (fid : Nat) (cap : Array Value) (A : Option Addr) (zs : List G) (c : Nat) (w : World)
    (hx : Rd (encG .f32) 1 w A zs)
    (hf : ∀ (args : Array Value) (w : World), (callFunc fid args).run Try.prog w = .ok (.enter fid args) w)
    (hp : ∀ z ∈ zs, Calls Try.prog fid (#[.complex .f32 (can .f32 z.1) (can .f32 z.2)] ++ cap) w fun e w' => e = .returned (.bool false) ∧ w = w') :
    Calls Try.prog 29 #[.slice A zs.length c, .func (.func fid) #[] cap] w fun e w' => e = .returned (.bool false) ∧ w = w' := by
  have h1 := none55_calls fid cap A zs c w hx hf hp
  have H1 := Lib.hid h1
  clear h1 hx hp hf
  go_enter Try.func29, Try.ntmps29
  go_wp2_with (go_at_call 55; (with_reducible refine (H1.out).mono ?_); rintro e w' ⟨rfl, rfl⟩)
  go_ret
  exact ⟨rfl, rfl⟩

theorem f53 (args : Array Value) (w : World) : (callFunc 53 args).run Try.prog w = .ok (.enter 53 args) w := by kernel_rfl
theorem f30 (args : Array Value) (w : World) : (callFunc 30 args).run Try.prog w = .ok (.enter 30 args) w := by kernel_rfl

theorem wholes_calls (A : Option Addr) (zs : List G) (cp : Nat) (c : Nat) (most : Int) (hc : Fc FloatKind.f64.format c most) (hn : Fc FloatKind.f64.format (Op.negFloat .f64 c) (-most)) (hz : ∀ z ∈ zs, gb most.toNat z) (hm : small most) (h0 : 0 ≤ most) (w : World) (hx : Rd (encG .f64) 1 w A zs) :
    Calls Try.prog 27 #[.slice A zs.length cp, .float .f64 c] w fun e w' => e = .returned (.bool true) ∧ Below w.heap.size w w' := by
  have hb : Below w.heap.size w (w.alloc (.cells #[.float .f64 c] 28)) := (Below.refl _ w).alloc (Nat.le_refl _) _
  have h1 := none52_calls 53 #[.pointer (some ⟨w.heap.size, 0, none⟩)] A zs cp (w.alloc (.cells #[.float .f64 c] 28)) (hx.below hb) f53
    (fun z hzm => wholes1_calls z c most hc hn (hz z hzm) hm h0 _ _ (by simp))
  have H1 := Lib.hid h1
  clear h1 hx hc hn hz hm h0
  go_enter Try.func27, Try.ntmps27
  go_wp2_with (go_at_call 52; (with_reducible refine (H1.out).mono ?_); rintro e w' ⟨rfl, rfl⟩)
  go_ret
  exact ⟨rfl, hb⟩

theorem length_calls (m : Nat) (hm : m ≤ 3) (n : Nat) (hn : n = 4 ^ m) (w : World) :
    Calls Try.prog 26 #[.int .i64 n] w fun e w' => e = .returned (.bool true) ∧ w = w' := by
  have h4 : n = 1 ∨ n = 4 ∨ n = 16 ∨ n = 64 := by
    have : m = 0 ∨ m = 1 ∨ m = 2 ∨ m = 3 := by omega
    rcases this with rfl | rfl | rfl | rfl <;> simp at hn <;> omega
  clear hn hm
  go_enter Try.func26, Try.ntmps26
  go_wp2
  go_loop [2, 3, 4, 5, 6, 7, 8, 9, 10] (fun v2 v3 v4 v5 v6 v7 v8 v9 v10 => ∃ k : Nat, (k = 1 ∨ k = 4 ∨ k = 16 ∨ k = 64) ∧ k ≤ n ∧ v3 = .int .i64 k) (fun _ v3 _ _ _ _ _ _ _ => 1000 - (intOf v3).toNat)
  case atStart => exact ⟨1, Or.inl rfl, by omega, rfl⟩
  case round =>
    obtain ⟨k, hk, hkn, rfl⟩ := hrel
    by_cases he : n = k
    · subst he
      have hle : (n : Int) ≤ 1024 := by omega
      go_wp2
      go_ret
      exact ⟨rfl, rfl⟩
    · have hle : (k : Int) ≤ 1024 := by omega
      have hne : ((n : Int) == (k : Int)) = false := by simp; omega
      have hwr : IntKind.i64.wrap ((k : Int) * 4) = ((k * 4 : Nat) : Int) := by
        rcases hk with rfl | rfl | rfl | rfl <;> rfl
      go_wp2
      go_round
      case rel => exact ⟨k * 4, by omega, by omega, by go_num⟩
      case measure => simp [intOf]; omega
end Go.Proofs.Ythccnaemocdcbaa
