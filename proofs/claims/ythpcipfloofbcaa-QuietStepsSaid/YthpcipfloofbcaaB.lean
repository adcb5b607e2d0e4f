import Derived.Test.YthpcipfloofbcaaA
namespace Go.Proofs.Ythpcipfloofbcaa
open Go.RowKit
set_option maxHeartbeats 400000
set_option linter.unusedSimpArgs false
set_option linter.unusedVariables false

structure Mem where
  act : Bool
  sent : Int
  recv : Int
abbrev encM (m : Mem) : List Value := [.bool m.act, .int .i64 m.sent, .int .i64 m.recv]
abbrev Mem.v (m : Mem) : Value := .agg #[.bool m.act, .int .i64 m.sent, .int .i64 m.recv]

theorem bcell {W w1 : World} (hb : Below W.heap.size W w1) : (∀ b o, b < W.heap.size → w1.cell? ⟨b, o, none⟩ = W.cell? ⟨b, o, none⟩) ∧ (∀ b o, b < W.heap.size → w1.frozen? ⟨b, o, none⟩ = W.frozen? ⟨b, o, none⟩) :=
  ⟨fun b o h => hb.cell (p := ⟨b, o, none⟩) h, fun b o h => hb.frozen (p := ⟨b, o, none⟩) h⟩

theorem add_field (ad : Addr) (m j : Nat) (hj : 0 < j) : ad.add (m + j) = ⟨(ad.add m).block, (ad.add m).off + j, none⟩ := by
  unfold Addr.add
  by_cases hm : m = 0
  · subst hm
    simp [Nat.ne_of_gt hj]
  · simp [hm, Nat.add_assoc]

theorem Rd.mem {w : World} {A : Option Addr} {xs : List Mem} (h : Rd encM 3 w A xs) (k : Nat) (hk : k < xs.length) : ∃ a, A = some a ∧ w.cell? (a.add (k * 3)) = some (.bool xs[k].act) ∧ w.cell? ⟨(a.add (k * 3)).block, (a.add (k * 3)).off + 1, none⟩ = some (.int .i64 xs[k].sent) ∧ w.cell? ⟨(a.add (k * 3)).block, (a.add (k * 3)).off + 2, none⟩ = some (.int .i64 xs[k].recv) := by
  obtain ⟨a, ha, hc⟩ := h.cell k hk
  exact ⟨a, ha, hc 0 _ rfl, by rw [← add_field _ _ 1 (by omega)]; exact hc 1 _ rfl, by rw [← add_field _ _ 2 (by omega)]; exact hc 2 _ rfl⟩

theorem quiet1_calls (m : Mem) (w : World) :
    Calls Try.prog 35 #[m.v] w fun e w' => e = .returned (.bool m.act) ∧ Below w.heap.size w w' := by
  go_enter Try.func35, Try.ntmps35
  go_wp2
  go_ret
  exact ⟨rfl, (Below.refl _ _).alloc (Nat.le_refl _) _⟩

theorem indexFuncM_calls (p : Mem → Bool) (fid : Nat) (cap : Array Value) (A : Option Addr) (xs : List Mem) (c : Nat) (w : World)
    (hx : Rd encM 3 w A xs)
    (hf : ∀ (args : Array Value) (w : World), (callFunc fid args).run Try.prog w = .ok (.enter fid args) w)
    (hp : ∀ x w1, Below w.heap.size w w1 → Calls Try.prog fid (#[Mem.v x] ++ cap) w1 fun e w' => e = .returned (.bool (p x)) ∧ Below w1.heap.size w1 w') :
    Calls Try.prog 47 #[.slice A xs.length c, .func (.func fid) #[] cap] w fun e w' => e = .returned (.int .i64 (idxF p xs)) ∧ Below w.heap.size w w' := by
  have hl := hx.small
  have HX := Lib.hid hx
  have HP := Lib.hid hp
  clear hx hp
  go_enter Try.func47, Try.ntmps47
  go_wp2
  go_loopw [4, 5, 8, 9, 10, 11, 12, 13, 14, 15, 16, 17, 18] (fun v4 v5 v8 v9 v10 v11 v12 v13 v14 v15 v16 v17 v18 wr => ∃ k : Nat, k ≤ xs.length ∧ v8 = .int .i64 k ∧ v4 = .int .i64 0 ∧ (∀ j (h : j < k) (h' : j < xs.length), p xs[j] = false) ∧ Below w.heap.size w wr) (fun _ _ v8 _ _ _ _ _ _ _ _ _ _ _ => xs.length - (intOf v8).toNat)
  case atStart => exact ⟨0, Nat.zero_le _, rfl, rfl, fun j hj => by omega, Below.refl _ _⟩
  case round =>
    obtain ⟨k, hk, rfl, rfl, hall, hb⟩ := hrel
    have HA := Lib.hid hall
    have HB := Lib.hid hb
    clear hall hb
    by_cases hlt : k < xs.length
    · obtain ⟨a, rfl, hc0, hc1, hc2⟩ := (HX.out.below HB.out).mem k hlt
      have hp1 := HP.out xs[k] wr HB.out
      have HP1 := Lib.hid hp1
      clear hp1
      cases hb : p xs[k] with
      | true =>
        rw [hb] at HP1
        have HT := Lib.hid hb
        clear hb
        go_wp2_with ((with_reducible refine (HP1.out).mono ?_); rintro e w' ⟨rfl, hb1⟩)
        go_ret
        exact ⟨ret_int (idxF_at p xs k hlt HT.out (fun j h => HA.out j h (by omega))).symm, HB.out.trans (hb1.mono HB.out.size)⟩
      | false =>
        rw [hb] at HP1
        have HT := Lib.hid hb
        clear hb
        go_wp2_with ((with_reducible refine (HP1.out).mono ?_); rintro e w' ⟨rfl, hb1⟩)
        go_roundw
        case rel => exact ⟨k+1, by omega, by go_num, rfl, fun j hj hj' => by
          by_cases e : j = k
          · subst e; exact HT.out
          · exact HA.out j (by omega) hj', HB.out.trans (hb1.mono HB.out.size)⟩
        case measure => simp [intOf]; omega
    · go_wp2
      go_ret
      exact ⟨ret_int (idxF_none p xs (fun j h => HA.out j (by omega) h)).symm, HB.out⟩

theorem containsFuncM_calls (p : Mem → Bool) (fid : Nat) (cap : Array Value) (A : Option Addr) (xs : List Mem) (c : Nat) (w : World)
    (hx : Rd encM 3 w A xs)
    (hf : ∀ (args : Array Value) (w : World), (callFunc fid args).run Try.prog w = .ok (.enter fid args) w)
    (hp : ∀ x w1, Below w.heap.size w w1 → Calls Try.prog fid (#[Mem.v x] ++ cap) w1 fun e w' => e = .returned (.bool (p x)) ∧ Below w1.heap.size w1 w') :
    Calls Try.prog 34 #[.slice A xs.length c, .func (.func fid) #[] cap] w fun e w' => e = .returned (.bool (xs.any p)) ∧ Below w.heap.size w w' := by
  have h1 := indexFuncM_calls p fid cap A xs c w hx hf hp
  have H1 := Lib.hid h1
  clear h1 hx hp hf
  go_enter Try.func34, Try.ntmps34
  go_wp2_with (go_at_call 47; (with_reducible refine (H1.out).mono ?_); rintro e w' ⟨rfl, hb⟩)
  go_ret
  exact ⟨ret_bool (idxF_any p xs), hb⟩
theorem f35 (args : Array Value) (w : World) : (callFunc 35 args).run Try.prog w = .ok (.enter 35 args) w := by kernel_rfl

/-- a state -/
structure St where
  ms : List Mem
  fl : List Int
  wn : Int
  ws : Int
  wr : Int
  ls : Int
  lr : Int
  wv : Int
  told : Bool
abbrev St.v (s : St) (A : Option Addr) (c : Nat) (B : Option Addr) (d : Nat) : Value :=
  .agg #[.slice A s.ms.length c, .slice B s.fl.length d, .int .i64 s.wn, .int .i64 s.ws, .int .i64 s.wr, .int .i64 s.ls, .int .i64 s.lr, .int .i64 s.wv, .bool s.told]
structure RdS (w : World) (A B : Option Addr) (s : St) : Prop where
  ms : Rd encM 3 w A s.ms
  fl : Rd encI 1 w B s.fl
theorem RdS.below {w w' : World} {A B : Option Addr} {s : St} (h : RdS w A B s) (hb : Below w.heap.size w w') : RdS w' A B s := ⟨h.ms.below hb, h.fl.below hb⟩

def inB (most n : Int) : Bool := !wB most n
def Mem.ok (m : Mem) : Bool := !([m.sent, m.recv].any (wB 1000000))
def St.ok1 (s : St) : Bool := decide ((1 : Int) ≤ s.ms.length) && decide ((s.ms.length : Int) ≤ 10) && decide ((s.fl.length : Int) ≤ 100)
def St.okB (s : St) : List Bool :=
  [s.ok1 && s.ms.all Mem.ok,
   !(s.fl.any (wB (s.ms.length - 1))),
   !([s.wn].any (wB (s.ms.length - 1))),
   !([s.ws, s.wr].any (wB 10000000)),
   decide (0 < s.wn) || (decide (s.ws = 0) && decide (s.wr = 0)),
   (decide (s.ls = -1) && decide (s.lr = -1)) || !([s.ls, s.lr].any (wB 10000000)),
   !([s.wv].any (wB 1000000))]

end Go.Proofs.Ythpcipfloofbcaa
