import Derived.Test.YthpcipfloofbcaaQ
import Derived.Test.YthpcipfloofbcaaU
import Derived.Test.YthpcipfloofbcaaV
import Derived.Deep.Slices
import Derived.Deep.DeepCutAuto
namespace Go.Proofs.Ythpcipfloofbcaa
open Go.RowKit
set_option maxHeartbeats 4000000
set_option maxRecDepth 100000
set_option linter.unusedSimpArgs false
set_option linter.unusedVariables false

/-! a state in a box of its own -/
theorem nine {W : World} {b : Nat} {s : St} {M F : Value} (h : W.heap[b]? = some (.cells (cellsS s M F) 27 (0, 0))) :
    W.cell? ⟨b, 0, none⟩ = some M ∧ W.cell? ⟨b, 1, none⟩ = some F ∧ W.cell? ⟨b, 2, none⟩ = some (.int .i64 s.wn) ∧ W.cell? ⟨b, 3, none⟩ = some (.int .i64 s.ws) ∧ W.cell? ⟨b, 4, none⟩ = some (.int .i64 s.wr) ∧ W.cell? ⟨b, 5, none⟩ = some (.int .i64 s.ls) ∧ W.cell? ⟨b, 6, none⟩ = some (.int .i64 s.lr) ∧ W.cell? ⟨b, 7, none⟩ = some (.int .i64 s.wv) ∧ W.cell? ⟨b, 8, none⟩ = some (.bool s.told) := by
  have hz := fun j => cell_of_row _ b j _ _ _ h
  have z0 := hz 0
  have z1 := hz 1
  have z2 := hz 2
  have z3 := hz 3
  have z4 := hz 4
  have z5 := hz 5
  have z6 := hz 6
  have z7 := hz 7
  have z8 := hz 8
  simp [cellsS] at z0 z1 z2 z3 z4 z5 z6 z7 z8
  exact ⟨z0, z1, z2, z3, z4, z5, z6, z7, z8⟩
theorem nineF {W : World} {b : Nat} {s : St} {M F : Value} (h : W.heap[b]? = some (.cells (cellsS s M F) 27 (0, 0))) :
    W.frozen? ⟨b, 0, none⟩ = false ∧ W.frozen? ⟨b, 1, none⟩ = false ∧ W.frozen? ⟨b, 2, none⟩ = false ∧ W.frozen? ⟨b, 3, none⟩ = false ∧ W.frozen? ⟨b, 4, none⟩ = false ∧ W.frozen? ⟨b, 5, none⟩ = false ∧ W.frozen? ⟨b, 6, none⟩ = false ∧ W.frozen? ⟨b, 7, none⟩ = false ∧ W.frozen? ⟨b, 8, none⟩ = false :=
  ⟨frozen_of_row _ b 0 _ _ h, frozen_of_row _ b 1 _ _ h, frozen_of_row _ b 2 _ _ h, frozen_of_row _ b 3 _ _ h, frozen_of_row _ b 4 _ _ h, frozen_of_row _ b 5 _ _ h, frozen_of_row _ b 6 _ _ h, frozen_of_row _ b 7 _ _ h, frozen_of_row _ b 8 _ _ h⟩
abbrev fill9 (w : World) (b : Nat) (s : St) (A : Option Addr) (c : Nat) (B : Option Addr) (d : Nat) : World := (((((((((w.setCell ⟨b, 0, none⟩ (.slice A s.ms.length c)).setCell ⟨b, 1, none⟩ (.slice B s.fl.length d)).setCell ⟨b, 2, none⟩ (.int .i64 s.wn)).setCell ⟨b, 3, none⟩ (.int .i64 s.ws)).setCell ⟨b, 4, none⟩ (.int .i64 s.wr)).setCell ⟨b, 5, none⟩ (.int .i64 s.ls)).setCell ⟨b, 6, none⟩ (.int .i64 s.lr)).setCell ⟨b, 7, none⟩ (.int .i64 s.wv)).setCell ⟨b, 8, none⟩ (.bool s.told))
/-- a state in its box -/
structure BoxT (w0 : World) (b : Nat) (S : St) (W : World) : Prop where
  lo : Below w0.heap.size w0 W
  row : ∃ A c B d, W.heap[b]? = some (.cells (cellsS S (.slice A S.ms.length c) (.slice B S.fl.length d)) 27 (0, 0)) ∧ RdS W A B S
theorem BoxT.below {w0 w w5 : World} {b : Nat} {s : St} (h : BoxT w0 b s w) (hw : Below w.heap.size w w5) : BoxT w0 b s w5 := by
  obtain ⟨hlo, A2, c2, B2, d2, hrow, hrd⟩ := h
  exact ⟨hlo.trans (hw.mono hlo.size), A2, c2, B2, d2, (hw.block _ (Array.getElem?_eq_some_iff.1 hrow).1).trans hrow, hrd.below hw⟩
theorem BoxT.drew {w0 w : World} {b : Nat} {s : St} (h : BoxT w0 b s w) : BoxT w0 b s w.drew := h.below ((Below.refl _ _).drew)
/-- the box takes a state that a call has handed back -/
theorem BoxT.fill {w0 w w5 : World} {b : Nat} {s s2 : St} (h : BoxT w0 b s w) (hb : w0.heap.size ≤ b) (hw : Below w.heap.size w w5) {A : Option Addr} {B : Option Addr} (c d : Nat) (hr : RdS w5 A B s2) (hA : Fresh w.heap.size A) (hB : Fresh w.heap.size B) : BoxT w0 b s2 (fill9 w5 b s2 A c B d) := by
  obtain ⟨hlo, A2, c2, B2, d2, hrow, hrd⟩ := h
  have hbl := (Array.getElem?_eq_some_iff.1 hrow).1
  have hrow5 := (hw.block _ hbl).trans hrow
  have q0 := filled (.slice A s2.ms.length c) (.slice B s2.fl.length d) (.int .i64 s2.wn) (.int .i64 s2.ws) (.int .i64 s2.wr) (.int .i64 s2.ls) (.int .i64 s2.lr) (.int .i64 s2.wv) (.bool s2.told) hrow5
  have q1 := fill_kx w0.heap.size b hb w5 (.slice A s2.ms.length c) (.slice B s2.fl.length d) (.int .i64 s2.wn) (.int .i64 s2.ws) (.int .i64 s2.wr) (.int .i64 s2.ls) (.int .i64 s2.lr) (.int .i64 s2.wv) (.bool s2.told)
  refine ⟨(hlo.trans (hw.mono hlo.size)).trans ⟨q1.1.os, q1.1.tape, q1.1.output, q1.1.size, q1.1.low⟩, A, c, B, d, q0, hr.kx q1.1 (fun a ha e => by have := hA a ha; omega) (fun a ha e => by have := hB a ha; omega)⟩

theorem Own.form {α : Type} {enc : α → List Value} {sz : Nat} {e : TypeId} {w : World} {base : Nat} {v : Value} {xs : List α} (hs : ∀ x, (enc x).length = sz) (h : Own enc sz e w base v xs) :
    ∃ A c, v = .slice A xs.length c ∧ xs.length ≤ c ∧ Rd enc sz w A xs ∧ ∀ a, A = some a → base ≤ a.block ∧ a.block < w.heap.size := by
  have h0 := h
  obtain ⟨A, c, rfl, hr⟩ := h.rd hs
  refine ⟨A, c, rfl, ?_, hr, fun a ha => ?_⟩
  · rcases h.2 with ⟨h1, hn⟩ | ⟨g, cap, cur, h1, hb, hg, hnc, _⟩
    · obtain ⟨_, e2, e3⟩ := Value.slice.inj h1; omega
    · obtain ⟨_, e2, e3⟩ := Value.slice.inj h1; omega
  · subst ha
    have := h.blk a.block rfl
    exact ⟨this.1, this.2.1⟩
theorem rd_one {α : Type} {enc : α → List Value} {sz : Nat} {w : World} {a : Addr} {xs : List α} (h : Rd enc sz w (some a) xs) (i : Nat) (hi : i < xs.length) : Rd enc sz w (some (a.add (i * sz))) [xs[i]] := by
  obtain ⟨b, hb, hc⟩ := h.cell i hi
  cases hb
  refine ⟨by simp, fun k hk => ⟨_, rfl, fun j v hv => ?_⟩⟩
  obtain rfl : k = 0 := by simp at hk; omega
  rw [Go.Deep.add_add, Nat.zero_mul, Nat.zero_add]
  exact hc j v hv

theorem playF_one (s : St) (m : Mov) (h : Fine s) : ∃ n, playF s [m] = (goF s m, n, 0) := by
  unfold playF
  rw [if_pos ((check_iff s).2 h)]
  refine ⟨_, Prod.ext ?_ rfl⟩
  simp only [seqL, goF]
  split <;> rfl

theorem tells_calls (a : Int) (ha0 : 0 ≤ a) (ha1 : a < 256) (M : Option Addr) (ms : List Mov) (cm : Nat) (w : World) (hM : Rd encV 3 w M ms) :
    Calls Try.prog 6 #[.int .u8 a, .slice M ms.length cm] w fun e w' => e = .returned (.bool true) ∧ Below w.heap.size w w' := by
  have hae := awake_calls
  have HAE := Lib.hid hae
  clear hae
  by_cases hlen : ms.length ≤ 150
  · have hb1 : decide (150 < ms.length) = false := decide_eq_false (by omega)
    obtain ⟨N, hN⟩ : ∃ N : Nat, a.tmod 10 = (N : Int) - 1 := ⟨(a.tmod 10 + 1).toNat, by have := Int.tmod_nonneg 10 ha0; omega⟩
    have h1 : 1 ≤ N := by have := Int.tmod_nonneg 10 ha0; omega
    have h2 : N ≤ 10 := by have := Int.tmod_lt_of_pos a (show (0 : Int) < 10 by omega); omega
    have hnew := new_ok N h1 h2 w
    have hre := newS_reach N h1 h2
    generalize newS N = s0 at *
    have H1 := Lib.hid hnew
    have HM := Lib.hid (And.intro hM (And.intro hlen hre))
    clear hnew hM hre
    go_enter Try.func6, Try.ntmps6
    go_wp2_with fail
    rw [show (1 : Int) + ((N : Int) - 1) = N by omega]
    (with_reducible refine (H1.out).mono ?_); rintro e w1 ⟨A, c, B, d, rfl, hrd, hb, hfA, hfB⟩
    obtain ⟨W1, hW1⟩ : ∃ W1, w1.alloc (.cells (cellsS s0 (.slice A s0.ms.length c) (.slice B s0.fl.length d)) 27) = W1 := ⟨_, rfl⟩
    have hb1 : Below w1.heap.size w1 W1 := by rw [← hW1]; exact (Below.refl _ _).alloc (Nat.le_refl _) _
    have hr1 : W1.heap[w1.heap.size]? = some (.cells (cellsS s0 (.slice A s0.ms.length c) (.slice B s0.fl.length d)) 27 (0, 0)) := by rw [← hW1]; exact heap_alloc_new w1 _
    have hs1 : w1.heap.size < W1.heap.size := (Array.getElem?_eq_some_iff.1 hr1).1
    have hcall := moves_calls M ms cm W1 ((HM.out.1.below hb).below hb1 |> fun h => h) (by have := HM.out.2.1; omega)
    have hbx : BoxT w w1.heap.size s0 W1 := ⟨hb.trans (hb1.mono hb.size), A, c, B, d, hr1, hrd.below hb1⟩
    have HC := Lib.hid hcall
    have HW := Lib.hid (And.intro hW1 (And.intro hbx (And.intro hs1 hb.size)))
    clear hcall hW1 hbx hs1 hrd hb hb1 hfA hfB hr1
    go_upto_region 4 with fail
    rw [HW.out.1]
    go_wp2_with fail
    (with_reducible refine (HC.out).mono ?_); rintro e w2 ⟨v, rfl, hown, hb2⟩
    obtain ⟨D, dc, rfl, hdc, hrv, hD⟩ := hown.form lenV
    have hbx2 := HW.out.2.1.below hb2
    have hD' : ∀ a, D = some a → w1.heap.size < a.block := fun a ha => Nat.lt_of_lt_of_le HW.out.2.2.1 (hD a ha).1
    have H2 := Lib.hid (And.intro hbx2 (And.intro hrv (And.intro hdc hD')))
    clear hown hb2 hdc hrv hD hbx2 hD'
    go_wp2_with fail
    go_loopg [4, 6, 8, 9, 10, 11, 12, 13, 30, 31, 32, 33, 34, 35, 36, 37, 38, 39, 40, 41, 42, 43, 44, 45, 46, 47, 48, 49, 50, 51, 52, 53, 54, 55, 56, 57, 58, 59, 60, 61, 62, 63, 64, 65, 66, 67, 68, 69, 70, 71, 72, 73, 74, 75, 76, 77, 78, 79, 80, 81, 82, 83, 84, 85, 86, 87, 88, 89, 90, 91, 92, 93, 94, 95, 96, 97, 98, 99, 100, 101, 102, 103, 104, 105, 106, 107, 108, 109, 110] (ms.length) (fun g v4 v6 v8 v9 v10 v11 v12 v13 v30 v31 v32 v33 v34 v35 v36 v37 v38 v39 v40 v41 v42 v43 v44 v45 v46 v47 v48 v49 v50 v51 v52 v53 v54 v55 v56 v57 v58 v59 v60 v61 v62 v63 v64 v65 v66 v67 v68 v69 v70 v71 v72 v73 v74 v75 v76 v77 v78 v79 v80 v81 v82 v83 v84 v85 v86 v87 v88 v89 v90 v91 v92 v93 v94 v95 v96 v97 v98 v99 v100 v101 v102 v103 v104 v105 v106 v107 v108 v109 v110 wr => ∃ i : Nat, i + g = ms.length ∧ v8 = .int .i64 i ∧ BoxT w w1.heap.size (runF s0 (ms.take i)) wr ∧ Rd encV 3 wr D ms)
    case atStart => exact ⟨0, by omega, rfl, H2.out.1, H2.out.2.1⟩
    case round =>
      obtain ⟨i, hi, rfl, hbx, hrv⟩ := hrel
      by_cases hlt : i < ms.length
      · have hb1 : decide (i < ms.length) = true := decide_eq_true hlt
        have hre : Reach (runF s0 (ms.take i)) := HM.out.2.2.run _
        have hst : runF s0 (ms.take (i + 1)) = goF (runF s0 (ms.take i)) ms[i] := by
          rw [List.take_succ_eq_append_getElem hlt]; unfold runF; rw [List.foldl_append]; rfl
        have hre2 := hre.go ms[i]
        have hone : ∃ n, playF (runF s0 (ms.take i)) [ms[i]] = (goF (runF s0 (ms.take i)) ms[i], n, 0) := playF_one _ _ hre.fine
        obtain ⟨D0, rfl, _⟩ := rd_mov hrv i hlt
        have hrm := rd_one hrv i hlt
        rw [← hst] at hre2 hone
        generalize ms[i] = m at hone hrm
        generalize hs2 : runF s0 (ms.take (i + 1)) = s2 at *
        generalize runF s0 (ms.take i) = s1 at *
        obtain ⟨np, hone⟩ := hone
        have HB := Lib.hid (And.intro hbx (And.intro hrv (And.intro hrm (And.intro hre (And.intro hre2 (And.intro hone (And.intro hi hs2)))))))
        obtain ⟨hlo, A2, c2, B2, d2, hrow, hrd⟩ := hbx
        have hcap : i + 1 ≤ dc := by have := H2.out.2.2.1; omega
        have HR := Lib.hid (And.intro hrow hrd)
        obtain ⟨z0, z1, z2, z3, z4, z5, z6, z7, z8⟩ := nine hrow
        clear hlo hrow hrd hrv hrm hre hre2 hone hst hi hs2
        go_upto_region 10 with fail
        go_cut [6] (fun s6 wc => s6 = .int .i64 0 ∧ BoxT w w1.heap.size s2 wc ∧ Rd encV 3 wc (some D0) ms)
        case first =>
          have hbl : w1.heap.size < wr.heap.size := (Array.getElem?_eq_some_iff.1 HR.out.1).1
          have hlm : (D0.add (i * 3)).block < wr.drew.heap.size := by
            obtain ⟨a, ha, hc, _⟩ := rd_mov HB.out.2.2.1 0 (by simp)
            cases ha
            have := World.block_lt_of_cell? _ _ hc
            have e0 : ∀ x : Addr, (x.add 0).block = x.block := fun x => by unfold Addr.add; split <;> rfl
            simpa [e0] using this
          have hp : Calls Try.prog 9 #[s1.v A2 c2 B2 d2, .slice (some (D0.add (i * 3))) 1 (dc - i)] wr.drew (PPost wr.drew (playF s1 [m])) := play_calls s1 A2 c2 B2 d2 [m] (some (D0.add (i * 3))) (dc - i) wr.drew ⟨HR.out.2.ms.drew, HR.out.2.fl.drew⟩ HB.out.2.2.1.drew (fun a ha => by cases ha; exact hlm)
          rw [HB.out.2.2.2.2.2.1] at hp
          have HP := Lib.hid (And.intro hp hbl)
          have k1 : IntKind.i64.wrap ((i : Int) + 1) = (i : Int) + 1 := by have := HM.out.2.1; rw [IntKind.wrap_i64]; omega
          have k2 : (i : Int) + 1 ≤ (dc : Int) := by omega
          have k3 : (0 : Int) ≤ (i : Int) + 1 := by omega
          have k4 : ((i : Int) + 1).toNat = i + 1 := by omega
          have k5 : (dc = i) = False := by simp; omega
          clear hp hbl hlm
          go_region_with (go_at_call 9; (with_reducible refine (HP.out.1).mono ?_); rintro e w5 ⟨A3, c3, B3, d3, rfl, hrd5, hb5, hfA, hfB⟩; have hrow5 := (hb5.block _ HP.out.2).trans HR.out.1; obtain ⟨y0, y1, y2, y3, y4, y5, y6, y7, y8⟩ := nine hrow5; obtain ⟨f0, f1, f2, f3, f4, f5, f6, f7, f8⟩ := nineF hrow5; have HO := Lib.hid (And.intro hrd5 (And.intro hb5 (And.intro hfA hfB))); clear hrd5 hb5 hfA hfB hrow5)
          all_goals (go_wp2_with fail; go_meet)
          all_goals (
            have hkx := fill_kx w.heap.size w1.heap.size HW.out.2.2.2 w5 (.slice A3 s2.ms.length c3) (.slice B3 s2.fl.length d3) (.int .i64 s2.wn) (.int .i64 s2.ws) (.int .i64 s2.wr) (.int .i64 s2.ls) (.int .i64 s2.lr) (.int .i64 s2.wv) (.bool s2.told)
            have hbw : Below wr.heap.size wr w5 := ⟨HO.out.2.1.os, HO.out.2.1.tape, HO.out.2.1.output, HO.out.2.1.size, HO.out.2.1.block⟩
            exact ⟨rfl, HB.out.1.fill HW.out.2.2.2 hbw c3 d3 HO.out.1 HO.out.2.2.1 HO.out.2.2.2, (HB.out.2.1.below hbw).kx hkx.1 (fun a ha e => by have := H2.out.2.2.2 a ha; omega)⟩)
        case rest =>
          obtain ⟨rfl, hbx, hrv⟩ := hcut
          have hre2 := HB.out.2.2.2.2.1
          have hi := HB.out.2.2.2.2.2.2.1
          have hs2 := HB.out.2.2.2.2.2.2.2
          have hfi := (check_iff s2).2 hre2.fine
          have hck := check_calls s2
          have hq := quiet_calls s2
          have hn := naive_calls s2
          have e1 : quietF s2 = (quietB s2, 0) := by unfold quietF; rw [if_pos hfi]
          have e2 : naiveF s2 = (netM s2.ms == 0, 0) := by unfold naiveF; rw [if_pos hfi]
          rw [hfi] at hck
          rw [e1] at hq
          rw [e2] at hn
          have HF := Lib.hid (And.intro hck (And.intro hq (And.intro hn (And.intro hre2 (And.intro hi hs2)))))
          have HX := Lib.hid (And.intro hbx hrv)
          obtain ⟨hlo, A3, c3, B3, d3, hrow, hrd⟩ := hbx
          clear z0 z1 z2 z3 z4 z5 z6 z7 z8 HR HB
          obtain ⟨z0, z1, z2, z3, z4, z5, z6, z7, z8⟩ := nine hrow
          have HR := Lib.hid (And.intro hrow hrd)
          clear hck hq hn e1 e2 hre2 hi hs2 hfi hlo hrow hrd hrv
          go_wp2_with fail
          (with_reducible refine (HF.out.1 A3 c3 B3 d3 wc HR.out.2).mono ?_); rintro e w5 ⟨rfl, hb5⟩
          have HX5 := Lib.hid (And.intro (HX.out.1.below hb5) (HX.out.2.below hb5))
          have hrow5 := (hb5.block _ (Array.getElem?_eq_some_iff.1 HR.out.1).1).trans HR.out.1
          have hrd5 := HR.out.2.below hb5
          clear z0 z1 z2 z3 z4 z5 z6 z7 z8 HR HX hb5
          obtain ⟨z0, z1, z2, z3, z4, z5, z6, z7, z8⟩ := nine hrow5
          have HR := Lib.hid (And.intro hrow5 hrd5)
          clear hrow5 hrd5
          go_upto_region 13 with fail
          go_wp2_with fail
          (with_reducible refine (HF.out.2.1 A3 c3 B3 d3 w5 HR.out.2).mono ?_); rintro e w6 ⟨rfl, hb6⟩
          have HX6 := Lib.hid (And.intro (HX5.out.1.below hb6) (HX5.out.2.below hb6))
          have hrow6 := (hb6.block _ (Array.getElem?_eq_some_iff.1 HR.out.1).1).trans HR.out.1
          have y6 := (nine hrow6).2.2.2.2.2.2.2.2
          clear z0 z1 z2 z3 z4 z5 z6 z7 z8 HR HX5 hb6 hrow6
          go_upto_region 14 with fail
          go_cut [9, 68] (fun s9 s68 wx => s68 = .bool false ∧ wx = w6)
          case first =>
            cases ht : s2.told with
            | false =>
              rw [ht] at y6
              clear ht
              go_wp2_with fail
              go_meet
              exact ⟨rfl, rfl⟩
            | true =>
              have hqq := HF.out.2.2.2.1.told ht
              rw [ht] at y6
              rw [hqq]
              clear ht
              go_wp2_with fail
              go_meet
              exact ⟨rfl, rfl⟩
          case rest =>
            obtain ⟨rfl, rfl⟩ := hcut
            clear y6
            go_wp2_with fail
            go_loopg [11, 12, 69, 70, 71, 72, 73, 74, 75, 76, 77, 78, 79, 80, 81, 82, 83, 84, 85, 86, 87, 88, 89, 90] (s2.ms.length) (fun g v11 v12 v69 v70 v71 v72 v73 v74 v75 v76 v77 v78 v79 v80 v81 v82 v83 v84 v85 v86 v87 v88 v89 v90 wr => ∃ k : Nat, k + g = s2.ms.length ∧ v12 = .int .i64 k ∧ v11 = .int .i64 (netM (s2.ms.take k)) ∧ BoxT w w1.heap.size s2 wr ∧ Rd encV 3 wr (some D0) ms)
            case atStart => exact ⟨0, by omega, rfl, rfl, HX6.out.1, HX6.out.2⟩
            case round =>
              obtain ⟨k, hk, rfl, rfl, hbx, hrv⟩ := hrel
              have HX := Lib.hid (And.intro hbx hrv)
              obtain ⟨hlo, A4, c4, B4, d4, hrow, hrd⟩ := hbx
              have hml := HF.out.2.2.2.1.fine.n1
              have z0 := (nine hrow).1
              have HR := Lib.hid (And.intro hrow hrd)
              clear hlo hrow hrd hrv
              by_cases hkl : k < s2.ms.length
              · obtain ⟨a4, rfl, q0, q1, q2⟩ := HR.out.2.ms.mem k hkl
                have hmem := HF.out.2.2.2.1.fine.mem _ (List.getElem_mem hkl)
                have hbd := netM_bound (s2.ms.take k) (fun x hx => HF.out.2.2.2.1.fine.mem x (List.mem_of_mem_take hx))
                rw [List.length_take, Nat.min_eq_left (by omega)] at hbd
                have hst : netM (s2.ms.take (k + 1)) = netM (s2.ms.take k) + (s2.ms[k].sent - s2.ms[k].recv) := by rw [netM_take _ _ hkl]; omega
                have HS := Lib.hid hst
                generalize netM (s2.ms.take k) = nk at *
                generalize s2.ms[k].sent = xs at *
                generalize s2.ms[k].recv = xr at *
                have b1 : IntKind.i64.wrap (xs - xr) = xs - xr := by rw [IntKind.wrap_i64]; omega
                have b2 : IntKind.i64.wrap (nk + (xs - xr)) = nk + (xs - xr) := by rw [IntKind.wrap_i64]; omega
                have b3 : decide (k < s2.ms.length) = true := decide_eq_true hkl
                clear hst hmem hbd
                go_upto_region 20 with fail
                go_region
                all_goals go_wp2_with fail
                all_goals go_roundg (gk - 1)
                all_goals first | omega | exact ⟨k + 1, by omega, by go_num, by rw [HS.out], HX.out.1.drew, HX.out.2.drew⟩
              · have b3 : decide (k < s2.ms.length) = false := decide_eq_false hkl
                obtain rfl : k = s2.ms.length := by omega
                rw [List.take_length]
                have z1 := (nine HR.out.1).2.1
                obtain ⟨z0, z1, z2, z3, z4, z5, z6, z7, z8⟩ := nine HR.out.1
                have hnet := HF.out.2.2.2.1.net
                have n1 : (netM s2.ms != (s2.fl.length : Int)) = false := by rw [bne_eq_false_iff_eq]; exact hnet
                have HN := Lib.hid (And.intro n1 hnet)
                clear n1 hnet hk hml hkl
                go_upto_region 21 with fail
                go_wp2_with fail
                (with_reducible refine (HF.out.2.2.1 A4 c4 B4 d4 wr HR.out.2 (fun _ => ⟨HF.out.2.2.2.1.fine.n1, HF.out.2.2.2.1.fine.mem⟩)).mono ?_); rintro e w8 ⟨rfl, hb8⟩
                have HX8 := Lib.hid (And.intro (HX.out.1.below hb8) (HX.out.2.below hb8))
                have hrow8 := (hb8.block _ (Array.getElem?_eq_some_iff.1 HR.out.1).1).trans HR.out.1
                have y1 := (nine hrow8).2.1
                have n1 := HN.out.1
                clear z0 z1 z2 z3 z4 z5 z6 z7 z8 HR HX hb8 hrow8
                generalize netM s2.ms = nn at n1
                go_wp2_with fail
                all_goals go_roundg (ms.length - (i + 1))
                all_goals first | (have := HF.out.2.2.2.2.1; omega) | exact ⟨i + 1, by have := HF.out.2.2.2.2.1; omega, by have := HM.out.2.1; go_num, by rw [HF.out.2.2.2.2.2]; exact HX8.out.1, HX8.out.2⟩
      · have hb1 : decide (i < ms.length) = false := decide_eq_false hlt
        have HB := Lib.hid hbx
        clear hbx hrv hi
        go_wp2_with fail
        refine (HAE.out _).mono ?_
        rintro e w6 ⟨rfl, hb6⟩
        have HB6 := Lib.hid hb6
        clear hb6
        go_wp2_with fail
        go_ret
        exact ⟨rfl, HB.out.lo.trans (HB6.out.mono HB.out.lo.size)⟩
  · have hb1 : decide (150 < ms.length) = true := decide_eq_true (by omega)
    clear hM
    go_enter Try.func6, Try.ntmps6
    go_wp2_with fail
    refine (HAE.out _).mono ?_
    rintro e w6 ⟨rfl, hb6⟩
    have HB6 := Lib.hid hb6
    clear hb6
    go_wp2_with fail
    go_ret
    exact ⟨rfl, HB6.out⟩
end Go.Proofs.Ythpcipfloofbcaa
