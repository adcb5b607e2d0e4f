import Derived.Test.YthpcipfloofbcaaAA
import Derived.Deep.DeepCutAuto
namespace Go.Proofs.Ythpcipfloofbcaa
open Go.RowKit
set_option maxHeartbeats 4000000
set_option maxRecDepth 100000
set_option linter.unusedSimpArgs false
set_option linter.unusedVariables false

theorem round1 {s : St} {k : Int} {i : Nat} (hr : Reach s) (hb : Bd k s) (hk : k ≤ 1000) (hi : i < s.ms.length) (ha : s.ms[i].act = true) (hp : ∀ (j : Nat) (x : Mem), j < i → s.ms[j]? = some x → x.act = false) :
    ∃ s2, stepF s ⟨2, i, 0⟩ = (s2, 0) ∧ Reach s2 ∧ Bd (k + 1) s2 ∧ s2.ms.length = s.ms.length ∧ ∀ (j : Nat) (x : Mem), j < i + 1 → s2.ms[j]? = some x → x.act = false := by
  have hx : s.ms[i]? = some s.ms[i] := List.getElem?_eq_getElem hi
  have hst := idle_step hr.fine hx ha
  have hw := Went.idle (s := s) i _ hx ha
  refine ⟨_, hst, hr.went hw, hb.went hk hw, by simp, fun j x hj h => ?_⟩
  rcases set_get hx j x h with ⟨rfl, rfl⟩ | ⟨hne, h⟩
  · rfl
  · exact hp j x (by omega) h

theorem round2 {s : St} {k : Int} {q : Int} {rest : List Int} (hr : Reach s) (hb : Bd k s) (hk : k ≤ 900) (hp : Passive s) (hf : s.fl = q :: rest) :
    0 ≤ q ∧ q < s.ms.length ∧ ∃ s2 s3, stepF s ⟨3, 0, 0⟩ = (s2, 0) ∧ s2.fl = rest ∧ stepF s2 ⟨2, q, 0⟩ = (s3, 0) ∧ s3.fl = rest ∧ Reach s3 ∧ Passive s3 ∧ Bd (k + 2) s3 ∧ s3.ms.length = s.ms.length := by
  have hrec : ∀ x ∈ s.ms, x.recv < 1000000 := fun x hx => by have := hb.mem x hx; omega
  obtain ⟨h0, h1, x, hx, hst⟩ := arrive_step hr.fine hf hrec
  have hw := Went.arrive (s := s) 0 q.toNat x (by rw [hf]; simp) hx (hrec x (List.mem_of_getElem? hx))
  rw [show s.fl.eraseIdx 0 = rest by rw [hf]; rfl] at hw
  have hr2 := hr.went hw
  have hb2 := hb.went (by omega) hw
  generalize hs2 : ({ s with ms := s.ms.set q.toNat { x with recv := x.recv + 1, act := true }, fl := rest } : St) = s2 at *
  have hlt : q.toNat < s.ms.length := by omega
  have hx2 : s2.ms[q.toNat]? = some { x with recv := x.recv + 1, act := true } := by rw [← hs2]; simp [hlt]
  have hst2 := idle_step hr2.fine hx2 rfl
  have hw2 := Went.idle (s := s2) q.toNat _ hx2 rfl
  rw [show ((q.toNat : Nat) : Int) = q by omega] at hst2
  refine ⟨h0, h1, s2, _, hst, by rw [← hs2], hst2, by rw [← hs2], hr2.went hw2, fun j y hy => ?_, by have := hb2.went (by omega) hw2; rw [show k + 2 = k + 1 + 1 by omega]; exact this, by rw [← hs2]; simp⟩
  rcases set_get hx2 j y hy with ⟨rfl, rfl⟩ | ⟨hne, h⟩
  · rfl
  · rw [← hs2] at h
    rcases set_get hx j y h with ⟨rfl, rfl⟩ | ⟨hne, h⟩
    · exact absurd rfl hne
    · exact hp j y h

theorem ends_calls (a : Int) (ha0 : 0 ≤ a) (ha1 : a < 256) (M : Option Addr) (ms : List Mov) (cm : Nat) (w : World) (hM : Rd encV 3 w M ms) :
    Calls Try.prog 7 #[.int .u8 a, .slice M ms.length cm] w fun e w' => e = .returned (.bool true) ∧ Below w.heap.size w w' := by
  have hae := awake_calls
  have HAE := Lib.hid hae
  clear hae
  by_cases hlen : ms.length ≤ 100
  · have hb1 : decide (100 < ms.length) = false := decide_eq_false (by omega)
    obtain ⟨N, hN⟩ : ∃ N : Nat, a.tmod 10 = (N : Int) - 1 := ⟨(a.tmod 10 + 1).toNat, by have := Int.tmod_nonneg 10 ha0; omega⟩
    have h1 : 1 ≤ N := by have := Int.tmod_nonneg 10 ha0; omega
    have h2 : N ≤ 10 := by have := Int.tmod_lt_of_pos a (show (0 : Int) < 10 by omega); omega
    have hnew := new_ok N h1 h2 w
    have hre := newS_reach N h1 h2
    have hbd := run_bd (newS_bd N) hre ms (by omega)
    have hre1 := hre.run ms
    obtain ⟨np, hpl⟩ := play_run hre.fine ms
    generalize newS N = s0 at *
    generalize runF s0 ms = s1 at *
    have H1 := Lib.hid hnew
    have HM := Lib.hid (And.intro hM (And.intro hlen (And.intro hre1 (And.intro (hbd.mono (show (0 : Int) + ms.length ≤ 100 by omega)) hpl))))
    clear hnew hM hre hbd hre1 hpl
    go_enter Try.func7, Try.ntmps7
    go_wp2_with fail
    rw [show (1 : Int) + ((N : Int) - 1) = N by omega]
    (with_reducible refine (H1.out).mono ?_); rintro e w1 ⟨A, c, B, d, rfl, hrd, hb, hfA, hfB⟩
    obtain ⟨W1, hW1⟩ : ∃ W1, w1.alloc (.cells (cellsS s0 (.slice A s0.ms.length c) (.slice B s0.fl.length d)) 27) = W1 := ⟨_, rfl⟩
    have hb1 : Below w1.heap.size w1 W1 := by rw [← hW1]; exact (Below.refl _ _).alloc (Nat.le_refl _) _
    have hr1 : W1.heap[w1.heap.size]? = some (.cells (cellsS s0 (.slice A s0.ms.length c) (.slice B s0.fl.length d)) 27 (0, 0)) := by rw [← hW1]; exact heap_alloc_new w1 _
    have hs1 : w1.heap.size < W1.heap.size := (Array.getElem?_eq_some_iff.1 hr1).1
    have hcall := moves_calls M ms cm W1.drew ((HM.out.1.below hb).below hb1).drew (by have := HM.out.2.1; omega)
    have hbx : BoxT w w1.heap.size s0 W1.drew := (show BoxT w w1.heap.size s0 W1 from ⟨hb.trans (hb1.mono hb.size), A, c, B, d, hr1, hrd.below hb1⟩).drew
    obtain ⟨z0, z1, z2, z3, z4, z5, z6, z7, z8⟩ := nine hr1
    have hrd1 : RdS W1.drew A B s0 := ⟨(hrd.below hb1).ms.drew, (hrd.below hb1).fl.drew⟩
    have HC := Lib.hid hcall
    have HW := Lib.hid (And.intro hW1 (And.intro hbx (And.intro (show w1.heap.size < W1.drew.heap.size from hs1) (And.intro hb.size (And.intro (show W1.drew.heap[w1.heap.size]? = _ from hr1) hrd1)))))
    clear hcall hW1 hbx hs1 hrd hb hb1 hfA hfB hr1 hrd1
    go_upto_region 6 with fail
    rw [HW.out.1]
    go_cut [6] (fun s6 wc => s6 = .int .i64 0 ∧ BoxT w w1.heap.size s1 wc)
    case first =>
      go_region_with (first | (go_at_call 14; (with_reducible refine (HC.out).mono ?_); rintro e w2 ⟨v, rfl, hown, hb2⟩; obtain ⟨D, dc, rfl, hdc, hrv, hD⟩ := hown.form lenV; have hrow2 := (hb2.block _ HW.out.2.2.1).trans HW.out.2.2.2.2.1; obtain ⟨y0, y1, y2, y3, y4, y5, y6, y7, y8⟩ := nine hrow2; have hpc := play_calls s0 A c B d ms D dc w2 (HW.out.2.2.2.2.2.below hb2) hrv (fun a ha => (hD a ha).2); rw [HM.out.2.2.2.2] at hpc; have H2 := Lib.hid (And.intro hb2 (And.intro hrow2 hpc)); clear hown hb2 hdc hrv hD hrow2 hpc) | (go_at_call 9; (with_reducible refine (H2.out.2.2).mono ?_); rintro e w5 ⟨A3, c3, B3, d3, rfl, hrd5, hb5, hfA, hfB⟩; have hrow5 := (hb5.block _ (Array.getElem?_eq_some_iff.1 H2.out.2.1).1).trans H2.out.2.1; obtain ⟨x0, x1, x2, x3, x4, x5, x6, x7, x8⟩ := nine hrow5; obtain ⟨f0, f1, f2, f3, f4, f5, f6, f7, f8⟩ := nineF hrow5; have HO := Lib.hid (And.intro hrd5 (And.intro hb5 (And.intro hfA hfB))); clear hrd5 hb5 hfA hfB hrow5))
      all_goals (go_wp2_with fail; go_meet)
      all_goals exact ⟨rfl, (HW.out.2.1.below H2.out.1).fill HW.out.2.2.2.1 HO.out.2.1 c3 d3 HO.out.1 HO.out.2.2.1 HO.out.2.2.2⟩
    case rest =>
      obtain ⟨rfl, hbx1⟩ := hcut
      have HX := Lib.hid hbx1
      obtain ⟨hlo, A2, c2, B2, d2, hrow, hrd⟩ := hbx1
      clear z0 z1 z2 z3 z4 z5 z6 z7 z8
      clear hlo hrow hrd
      go_upto_region 9 with fail
      go_wp2_with fail
      go_loopg [4, 6, 7, 38, 39, 40, 41, 42, 43, 44, 45, 46, 47, 48, 49, 50, 51, 52, 53, 54, 55, 56, 57, 58, 59] (s1.ms.length) (fun g v4 v6 v7 v38 v39 v40 v41 v42 v43 v44 v45 v46 v47 v48 v49 v50 v51 v52 v53 v54 v55 v56 v57 v58 v59 wr => ∃ (i : Nat) (s' : St), i + g = s1.ms.length ∧ v7 = .int .i64 i ∧ BoxT w w1.heap.size s' wr ∧ Reach s' ∧ Bd (100 + i) s' ∧ s'.ms.length = s1.ms.length ∧ ∀ (j : Nat) (x : Mem), j < i → s'.ms[j]? = some x → x.act = false)
      case atStart => exact ⟨0, s1, by omega, rfl, HX.out, HM.out.2.2.1, HM.out.2.2.2.1, rfl, fun j x hj => by omega⟩
      case round =>
        obtain ⟨i, s', hi, rfl, hbx, hre, hbd, hl, hpas⟩ := hrel
        have hn1 := hre.fine.n1
        have HB := Lib.hid (And.intro hbx (And.intro hre (And.intro hbd (And.intro hl hpas))))
        obtain ⟨hlo, A4, c4, B4, d4, hrow, hrd⟩ := hbx
        have HR := Lib.hid (And.intro hrow hrd)
        obtain ⟨z0, z1, z2, z3, z4, z5, z6, z7, z8⟩ := nine hrow
        clear hlo hrow hrd hre hbd hl hpas
        by_cases hlt : i < s'.ms.length
        · have hbb : decide (i < s'.ms.length) = true := decide_eq_true hlt
          obtain ⟨a4, rfl, q0, q1, q2⟩ := HR.out.2.ms.mem i hlt
          have HI := Lib.hid hi
          clear hi q1 q2
          cases ha : s'.ms[i].act with
          | false =>
            rw [ha] at q0
            have HAC := Lib.hid ha
            clear ha
            go_wp2_with fail
            go_roundg (gk - 1)
            case measure => have := HI.out; have := HB.out.2.2.2.1; omega
            case rel =>
              refine ⟨i + 1, s', by have := HI.out; have := HB.out.2.2.2.1; omega, by go_num, HB.out.1, HB.out.2.1, HB.out.2.2.1.mono (by omega), HB.out.2.2.2.1, fun j x hj hx => ?_⟩
              by_cases e : j = i
              · subst e
                rw [List.getElem?_eq_getElem hlt] at hx
                cases hx
                exact HAC.out
              · exact HB.out.2.2.2.2 j x (by omega) hx
          | true =>
            rw [ha] at q0
            obtain ⟨s2, hst, hr2, hb2, hl2, hp2⟩ := round1 HB.out.2.1 HB.out.2.2.1 (by omega) hlt ha HB.out.2.2.2.2
            have hcall := step_calls s' (some a4) c4 B4 d4 ⟨2, i, 0⟩ wr HR.out.2
            rw [hst] at hcall
            have HCA := Lib.hid hcall
            have H2 := Lib.hid (And.intro hr2 (And.intro hb2 (And.intro hl2 hp2)))
            clear ha hcall hst hr2 hb2 hl2 hp2
            go_wp2_with fail
            (with_reducible refine (HCA.out).mono ?_); rintro e w5 ⟨A5, c5, B5, d5, rfl, hrd5, hb5, hfA, hfB⟩
            have hrow5 := (hb5.block _ (Array.getElem?_eq_some_iff.1 HR.out.1).1).trans HR.out.1
            have hfl := HB.out.1.fill HW.out.2.2.2.1 hb5 c5 d5 hrd5 hfA hfB
            obtain ⟨W6, hW6⟩ : ∃ W6, fill9 w5 w1.heap.size s2 A5 c5 B5 d5 = W6 := ⟨_, rfl⟩
            rw [hW6] at hfl
            unfold fill9 at hW6
            have H6 := Lib.hid (And.intro hW6 hfl)
            clear z0 z1 z2 z3 z4 z5 z6 z7 z8 q0
            obtain ⟨z0, z1, z2, z3, z4, z5, z6, z7, z8⟩ := nine hrow5
            obtain ⟨f0, f1, f2, f3, f4, f5, f6, f7, f8⟩ := nineF hrow5
            clear hW6 hfl hrd5 hb5 hfA hfB hrow5
            go_upto_region 14 with fail
            rw [H6.out.1]
            clear z0 z1 z2 z3 z4 z5 z6 z7 z8 f0 f1 f2 f3 f4 f5 f6 f7 f8
            go_wp2_with fail
            go_roundg (gk - 1)
            case measure => have := HI.out; have := HB.out.2.2.2.1; omega
            case rel => exact ⟨i + 1, s2, by have := HI.out; have := HB.out.2.2.2.1; omega, by go_num, H6.out.2, H2.out.1, by rw [show (100 + ((i + 1 : Nat) : Int)) = 100 + i + 1 by omega]; exact H2.out.2.1, H2.out.2.2.1.trans HB.out.2.2.2.1, H2.out.2.2.2⟩
        · have hbb : decide (i < s'.ms.length) = false := decide_eq_false hlt
          have hpas : Passive s' := fun j x hx => HB.out.2.2.2.2 j x (by have := (List.getElem?_eq_some_iff.1 hx).1; omega) hx
          have hbd : Bd 110 s' := HB.out.2.2.1.mono (by have := HB.out.2.2.2.1; omega)
          have HP := Lib.hid (And.intro HB.out.2.1 (And.intro hpas hbd))
          clear hpas hbd hi
          go_upto_if 63 with fail
          go_cut [8, 9] (fun s8 s9 wc => BoxT w w1.heap.size s' wc)
          case first =>
            by_cases hz : s'.fl.length = 0
            · have hzb : ¬ (0 < s'.fl.length) := by omega
              clear hz
              go_wp2_with fail
              go_meet
              exact HB.out.1
            · have hzb : 0 < s'.fl.length := by omega
              have hwv1 := HP.out.2.2.wv
              obtain ⟨t1, t2⟩ := detF_before HP.out.1 HP.out.2.1 (HP.out.2.2.bs (by omega)) (by omega) (fun e => hz (by rw [e]; rfl))
              have hcall := detect_calls s' A4 c4 B4 d4 3 wr HR.out.2
              generalize detF s' 3 = r at t1 t2 hcall
              obtain ⟨st, kt⟩ := r
              simp only at t1 t2
              subst t1
              have HCA := Lib.hid hcall
              have HT := Lib.hid t2
              clear hcall t2 hz hwv1
              go_wp2_with fail
              (with_reducible refine (HCA.out).mono ?_); rintro e w5 ⟨A5, c5, B5, d5, rfl, hrd5, hb5, hfA, hfB⟩
              obtain ⟨W6, hW6⟩ : ∃ W6, w5.alloc (.cells (cellsS st (.slice A5 st.ms.length c5) (.slice B5 st.fl.length d5)) 27) = W6 := ⟨_, rfl⟩
              have hb6 : Below w5.heap.size w5 W6 := by rw [← hW6]; exact (Below.refl _ _).alloc (Nat.le_refl _) _
              have hr6 : W6.heap[w5.heap.size]? = some (.cells (cellsS st (.slice A5 st.ms.length c5) (.slice B5 st.fl.length d5)) 27 (0, 0)) := by rw [← hW6]; exact heap_alloc_new w5 _
              have x8 := (nine hr6).2.2.2.2.2.2.2.2
              rw [HT.out] at x8
              have H6 := Lib.hid (And.intro hW6 (HB.out.1.below (hb5.trans (hb6.mono hb5.size))))
              clear z0 z1 z2 z3 z4 z5 z6 z7 z8 hW6 hb6 hr6 hrd5 hb5 hfA hfB
              go_upto_region 18 with fail
              rw [H6.out.1]
              go_wp2_with fail
              go_meet
              exact H6.out.2
          case rest =>
            have HX2 := Lib.hid hcut
            clear hcut z0 z1 z2 z3 z4 z5 z6 z7 z8
            go_wp2_with fail
            go_loopg [4, 6, 10, 11, 75, 76, 77, 78, 79, 80, 81, 82, 83, 84, 85, 86, 87, 88, 89, 90, 91, 92, 93, 94, 95, 96, 97, 98, 99, 100, 101, 102, 103, 104, 105, 106, 107, 108, 109, 110, 111, 112, 113, 114, 115, 116, 117, 118, 119] (s'.fl.length) (fun g v4 v6 v10 v11 v75 v76 v77 v78 v79 v80 v81 v82 v83 v84 v85 v86 v87 v88 v89 v90 v91 v92 v93 v94 v95 v96 v97 v98 v99 v100 v101 v102 v103 v104 v105 v106 v107 v108 v109 v110 v111 v112 v113 v114 v115 v116 v117 v118 v119 wr => ∃ (s3 : St), s3.fl.length = g ∧ BoxT w w1.heap.size s3 wr ∧ Reach s3 ∧ Passive s3 ∧ Bd (110 + 2 * (100 - (g : Int))) s3)
            case atStart => exact ⟨s', rfl, HX2.out, HP.out.1, HP.out.2.1, HP.out.2.2.mono (by have := HP.out.1.fine.fl; omega)⟩
            case round =>
              obtain ⟨s3, hg, hbx, hre, hpas, hbd⟩ := hrel
              have HB3 := Lib.hid (And.intro hg (And.intro hbx (And.intro hre (And.intro hpas hbd))))
              obtain ⟨hlo, A5, c5, B5, d5, hrow, hrd⟩ := hbx
              have HR3 := Lib.hid (And.intro hrow hrd)
              obtain ⟨z0, z1, z2, z3, z4, z5, z6, z7, z8⟩ := nine hrow
              clear hlo hrow hrd hre hpas hbd hg
              cases hfl : s3.fl with
              | nil =>
                have hzl : s3.fl.length = 0 := by rw [hfl]; rfl
                have hzb : decide (0 < s3.fl.length) = false := decide_eq_false (by omega)
                have HZ := Lib.hid (And.intro hzl hfl)
                have hq := quiet_of HB3.out.2.2.2.1 hfl
                have hqf : quietF s3 = (true, 0) := by unfold quietF; rw [if_pos ((check_iff s3).2 HB3.out.2.2.1.fine), hq]
                have hb3 := HB3.out.2.2.2.2
                obtain ⟨t1, t2⟩ := detF_tells HB3.out.2.2.1 hq (hb3.bs (by omega)) (by have := hb3.wv; omega)
                have hqc := quiet_calls s3 A5 c5 B5 d5 wr HR3.out.2
                rw [hqf] at hqc
                have hdc := fun w9 (hw9 : Below wr.heap.size wr w9) => detect_calls s3 A5 c5 B5 d5 3 w9 (HR3.out.2.below hw9)
                generalize detF s3 3 = r at t1 t2 hdc
                obtain ⟨st, kt⟩ := r
                simp only at t1 t2
                subst t1
                have HQ := Lib.hid (And.intro hqc (And.intro hdc t2))
                clear hzl hfl hq hqf hb3 t2 hqc hdc
                go_upto_region 30 with fail
                go_wp2_with fail
                (with_reducible refine (HQ.out.1).mono ?_); rintro e w5 ⟨rfl, hb6⟩
                have hrow6 := (hb6.block _ (Array.getElem?_eq_some_iff.1 HR3.out.1).1).trans HR3.out.1
                clear z0 z1 z2 z3 z4 z5 z6 z7 z8
                obtain ⟨z0, z1, z2, z3, z4, z5, z6, z7, z8⟩ := nine hrow6
                have H6 := Lib.hid (And.intro hb6 hrow6)
                clear hb6 hrow6
                go_upto_region 31 with fail
                go_wp2_with fail
                (with_reducible refine (HQ.out.2.1 w5 H6.out.1).mono ?_); rintro e w7 ⟨A8, c8, B8, d8, rfl, hrd8, hb8, hfA, hfB⟩
                have hrow8 := (hb8.block _ (Array.getElem?_eq_some_iff.1 H6.out.2).1).trans H6.out.2
                have hfl8 := (HB3.out.2.1.below H6.out.1).fill HW.out.2.2.2.1 hb8 c8 d8 hrd8 hfA hfB
                obtain ⟨W8, hW8⟩ : ∃ W8, fill9 w7 w1.heap.size st A8 c8 B8 d8 = W8 := ⟨_, rfl⟩
                rw [hW8] at hfl8
                unfold fill9 at hW8
                have H8 := Lib.hid (And.intro hW8 hfl8)
                clear z0 z1 z2 z3 z4 z5 z6 z7 z8
                obtain ⟨z0, z1, z2, z3, z4, z5, z6, z7, z8⟩ := nine hrow8
                obtain ⟨f0, f1, f2, f3, f4, f5, f6, f7, f8⟩ := nineF hrow8
                clear hW8 hfl8 hrd8 hb8 hfA hfB hrow8
                go_upto_region 32 with fail
                rw [H8.out.1]
                clear z0 z1 z2 z3 z4 z5 z6 z7 z8 f0 f1 f2 f3 f4 f5 f6 f7 f8
                obtain ⟨hlo9, A9, c9, B9, d9, hrow9, hrd9⟩ := H8.out.2
                have z8 := (nine hrow9).2.2.2.2.2.2.2.2
                rw [HQ.out.2.2] at z8
                clear hlo9 hrow9 hrd9
                go_wp2_with fail
                refine (HAE.out _).mono ?_
                rintro e w6 ⟨rfl, hb6⟩
                have HB6 := Lib.hid hb6
                clear hb6
                go_wp2_with fail
                go_ret
                exact ⟨rfl, H8.out.2.lo.trans (HB6.out.mono H8.out.2.lo.size)⟩
              | cons q rest =>
                have hzl : s3.fl.length = rest.length + 1 := by rw [hfl]; rfl
                have hzb : decide (0 < s3.fl.length) = true := decide_eq_true (by omega)
                have hzp : 0 < s3.fl.length := by omega
                obtain ⟨b5, rfl, q0⟩ := HR3.out.2.fl.int 0 (by omega)
                have hq0 : s3.fl[0] = q := by simp [hfl]
                rw [hq0, show b5.add 0 = b5 by simp [Addr.add]] at q0
                obtain ⟨h0, h1, s4, s5, hs4, hf4, hs5, hf5, hr5, hp5, hb5, hl5⟩ := round2 HB3.out.2.2.1 HB3.out.2.2.2.2 (by have := HB3.out.1; omega) HB3.out.2.2.2.1 hfl
                have h0b : decide (q < 0) = false := decide_eq_false (by omega)
                have h1b : decide ((s3.ms.length : Int) ≤ q) = false := decide_eq_false (by omega)
                have hcall := step_calls s3 A5 c5 (some b5) d5 ⟨3, 0, 0⟩ wr.drew ⟨HR3.out.2.ms.drew, HR3.out.2.fl.drew⟩
                rw [hs4] at hcall
                have hfl3 := HB3.out.2.2.1.fine.fl
                have HCA := Lib.hid hcall
                have H5 := Lib.hid (And.intro hfl (And.intro hs5 (And.intro hf5 (And.intro hr5 (And.intro hp5 (And.intro hb5 (And.intro hl5 (And.intro h0 h1))))))))
                have H4 := Lib.hid (And.intro hf4 hzl)
                clear hcall hfl hs4 hf4 hs5 hf5 hr5 hp5 hb5 hl5 h0 h1 hq0 hzl
                go_upto_region 21 with fail
                go_cut [10, 11] (fun s10 s11 wx => s10 = .int .i64 q ∧ s11 = .int .i64 (s3.fl.length : Int) ∧ wr.drew = wx)
                case first =>
                  go_region
                  all_goals (go_wp2_with fail; go_meet; exact ⟨rfl, rfl, rfl⟩)
                case rest =>
                  obtain ⟨rfl, rfl, rfl⟩ := hcut
                  clear q0
                  go_wp2_with fail
                  (with_reducible refine (HCA.out).mono ?_); rintro e w5 ⟨A6, c6, B6, d6, rfl, hrd6, hb6, hfA, hfB⟩
                  have hrow6 := (hb6.block _ (Array.getElem?_eq_some_iff.1 (show wr.drew.heap[w1.heap.size]? = _ from HR3.out.1)).1).trans HR3.out.1
                  have hfl6 := HB3.out.2.1.drew.fill HW.out.2.2.2.1 hb6 c6 d6 hrd6 hfA hfB
                  obtain ⟨W6, hW6⟩ : ∃ W6, fill9 w5 w1.heap.size s4 A6 c6 B6 d6 = W6 := ⟨_, rfl⟩
                  rw [hW6] at hfl6
                  unfold fill9 at hW6
                  have H6 := Lib.hid (And.intro hW6 hfl6)
                  clear z0 z1 z2 z3 z4 z5 z6 z7 z8
                  obtain ⟨z0, z1, z2, z3, z4, z5, z6, z7, z8⟩ := nine hrow6
                  obtain ⟨f0, f1, f2, f3, f4, f5, f6, f7, f8⟩ := nineF hrow6
                  clear hW6 hfl6 hrd6 hb6 hfA hfB hrow6
                  go_upto_region 25 with fail
                  rw [H6.out.1]
                  clear z0 z1 z2 z3 z4 z5 z6 z7 z8 f0 f1 f2 f3 f4 f5 f6 f7 f8
                  obtain ⟨hlo6, A7, c7, B7, d7, hrow7, hrd7⟩ := H6.out.2
                  obtain ⟨z0, z1, z2, z3, z4, z5, z6, z7, z8⟩ := nine hrow7
                  have hcall2 := step_calls s4 A7 c7 B7 d7 ⟨2, q, 0⟩ W6 hrd7
                  rw [H5.out.2.1] at hcall2
                  have HCB := Lib.hid hcall2
                  have HR6 := Lib.hid (And.intro hrow7 hrd7)
                  have hsub : IntKind.i64.wrap ((s3.fl.length : Int) - 1) = (s3.fl.length : Int) - 1 := by rw [IntKind.wrap_i64]; omega
                  have hne : ((s4.fl.length : Int) != (s3.fl.length : Int) - 1) = false := by rw [bne_eq_false_iff_eq, H4.out.1, H4.out.2]; omega
                  clear hlo6 hrow7 hrd7 hcall2
                  go_wp2_with fail
                  (with_reducible refine (HCB.out).mono ?_); rintro e w7 ⟨A8, c8, B8, d8, rfl, hrd8, hb8, hfA, hfB⟩
                  have hrow8 := (hb8.block _ (Array.getElem?_eq_some_iff.1 HR6.out.1).1).trans HR6.out.1
                  have hfl8 := H6.out.2.fill HW.out.2.2.2.1 hb8 c8 d8 hrd8 hfA hfB
                  obtain ⟨W8, hW8⟩ : ∃ W8, fill9 w7 w1.heap.size s5 A8 c8 B8 d8 = W8 := ⟨_, rfl⟩
                  rw [hW8] at hfl8
                  unfold fill9 at hW8
                  have H8 := Lib.hid (And.intro hW8 hfl8)
                  clear z0 z1 z2 z3 z4 z5 z6 z7 z8
                  obtain ⟨z0, z1, z2, z3, z4, z5, z6, z7, z8⟩ := nine hrow8
                  obtain ⟨f0, f1, f2, f3, f4, f5, f6, f7, f8⟩ := nineF hrow8
                  clear hW8 hfl8 hrd8 hb8 hfA hfB hrow8 hsub hne
                  go_upto_region 28 with fail
                  rw [H8.out.1]
                  clear z0 z1 z2 z3 z4 z5 z6 z7 z8 f0 f1 f2 f3 f4 f5 f6 f7 f8
                  go_wp2_with fail
                  go_roundg rest.length
                  case measure => have := HB3.out.1; have := H4.out.2; omega
                  case rel => exact ⟨s5, by rw [H5.out.2.2.1], H8.out.2, H5.out.2.2.2.1, H5.out.2.2.2.2.1, H5.out.2.2.2.2.2.1.mono (by have := HB3.out.1; have := H4.out.2; omega)⟩
  · have hb1 : decide (100 < ms.length) = true := decide_eq_true (by omega)
    clear hM
    go_enter Try.func7, Try.ntmps7
    go_wp2_with fail
    refine (HAE.out _).mono ?_
    rintro e w6 ⟨rfl, hb6⟩
    have HB6 := Lib.hid hb6
    clear hb6
    go_wp2_with fail
    go_ret
    exact ⟨rfl, HB6.out⟩
end Go.Proofs.Ythpcipfloofbcaa
