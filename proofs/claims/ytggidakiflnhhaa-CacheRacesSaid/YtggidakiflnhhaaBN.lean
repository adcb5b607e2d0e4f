import Derived.Test.YtggidakiflnhhaaBL
import Derived.Test.YtggidakiflnhhaaBF
namespace Go.Proofs.Ytggidakiflnhhaa
open Go.RowKit
set_option maxHeartbeats 8000000
set_option maxRecDepth 100000
set_option linter.unusedSimpArgs false
set_option linter.unusedVariables false

theorem rcL_sorted (s : Fo) (o : Op) : (rcL s o).Pairwise (· < ·) := by
  unfold rcL
  split
  · exact List.Pairwise.filter _ (List.pairwise_lt_range)
  · exact List.Pairwise.nil
theorem rcAt_first {l : List Op} (hl : ∀ o ∈ l, gdO o) {i j : Nat} (hij : i < j) (hj : j < l.length) (hi : racP l i j) (hn : ∀ k, k < i → ¬ racP l k j) : (rcAt l j).head? = some i := by
  have hm := (rcAt_iff hl hij hj).2 hi
  have hs : (rcAt l j).Pairwise (· < ·) := rcL_sorted _ _
  cases h : rcAt l j with
  | nil => rw [h] at hm; cases hm
  | cons a t =>
    rw [h] at hm hs
    have ha : a ∈ rcAt l j := by rw [h]; exact List.mem_cons_self
    have haj := rcAt_lt (by omega) ha
    rcases List.mem_cons.1 hm with rfl | hm
    · rfl
    · have hlt := (List.pairwise_cons.1 hs).1 i hm
      exact absurd ((rcAt_iff hl haj hj).1 ha) (hn a hlt)
theorem rcAt_none {l : List Op} (hl : ∀ o ∈ l, gdO o) {j : Nat} (hj : j < l.length) (hn : ∀ k, k < j → ¬ racP l k j) : rcAt l j = [] := by
  cases h : rcAt l j with
  | nil => rfl
  | cons a t =>
    have ha : a ∈ rcAt l j := by rw [h]; exact List.mem_cons_self
    have haj := rcAt_lt (by omega) ha
    exact absurd ((rcAt_iff hl haj hj).1 ha) (hn a haj)
theorem race23_results (tmps : Array Value) (X : World) (v4 v5 v6 v7 : Value) (h4 : tmps[4]?.getD undef = v4) (h5 : tmps[5]?.getD undef = v5) (h6 : tmps[6]?.getD undef = v6) (h7 : tmps[7]?.getD undef = v7) : (results Try.f23 tmps).run Try.prog X = .ok (.tuple #[v4, v5, v6, v7]) X := by
  simp [results, Try.results23, go_sem, h4, h5, h6, h7]
theorem race23_calls (c : Cf) (l : List Op) (A : Option Addr) (cp : Nat) (w : World) (hA : Rd encP 4 w A l) :
    Calls Try.prog 23 #[c.val, .slice A l.length cp] w (RacePost c l w) := by
  have hsm := hA.small
  obtain ⟨W, hW⟩ : ∃ W, w.alloc (.cells c.cells 23) = W := ⟨_, rfl⟩
  have hb : Below w.heap.size w W := by rw [← hW]; exact (Below.refl _ _).alloc (Nat.le_refl _) _
  have hcf : W.heap[w.heap.size]? = some (.cells c.cells 23 (0, 0)) := by rw [← hW]; exact Go.heap_alloc_new w _
  obtain ⟨n0, hn0⟩ : ∃ n, w.heap.size = n := ⟨_, rfl⟩
  have hck := checkR_calls c l A cp W (hA.below hb)
  rw [hn0] at hcf
  have x0 : W.cell? ⟨n0, 0, none⟩ = some (.int .i64 c.L) := by rw [cell_of_row _ _ _ _ _ _ hcf]; rfl
  have x1 : W.cell? ⟨n0, 1, none⟩ = some (.int .i64 c.W) := by rw [cell_of_row _ _ _ _ _ _ hcf]; rfl
  have x2 : W.cell? ⟨n0, 2, none⟩ = some (.int .i64 c.N) := by rw [cell_of_row _ _ _ _ _ _ hcf]; rfl
  have x3 : W.cell? ⟨n0, 3, none⟩ = some (.int .i64 c.H) := by rw [cell_of_row _ _ _ _ _ _ hcf]; rfl
  have HC := Lib.hid hck
  have HW := Lib.hid (And.intro hW hn0)
  have HX := Lib.hid (And.intro hb hA)
  have HO := Lib.hid (fun (u : World) (hu : Below w.heap.size w u) => hA.below hu)
  clear hck hW hn0 hb hcf hA
  go_enter Try.func23, Try.ntmps23
  go_upto_region 1 with fail
  rw [HW.out.1]
  try rw [HW.out.2]
  by_cases hk : chkF c l = 0
  · have hkc : (chkF c l != 0) = false := by rw [bne_eq_false_iff_eq]; exact hk
    obtain ⟨hcfk, hops⟩ := chk_parts hk
    have HG := Lib.hid (show ∀ o ∈ l, gdO o from fun o ho => op_gd hcfk (hops o ho))
    have HK := Lib.hid hk
    clear hk hcfk hops
    go_upto_block 0 with ((with_reducible refine (HC.out).mono ?_); rintro e w1 ⟨rfl, hb1⟩; have H1 := Lib.hid (HX.out.1.trans (hb1.mono HX.out.1.size)); clear hb1)
    clear x0 x1 x2 x3
    go_wp2_with fail
    go_loopg [9, 10, 17, 18, 19, 20, 21, 22, 23, 24, 25, 26, 27, 28, 29, 30, 31, 32, 33] l.length (fun gk v9 v10 v17 v18 v19 v20 v21 v22 v23 v24 v25 v26 v27 v28 v29 v30 v31 v32 v33 wr => ∃ j : Nat, j + gk = l.length ∧ v9 = .int .i64 (j : Int) ∧ rcR l j = none ∧ Below w.heap.size w wr)
    case atStart => exact ⟨0, by omega, rfl, rfl, H1.out⟩
    case round =>
      obtain ⟨j, hj, rfl, hn, hb⟩ := hrel
      by_cases hlt : j < l.length
      · have hd : decide (j < l.length) = true := decide_eq_true hlt
        have hjI : (j : Int) < (l.length : Int) := by omega
        have HN := Lib.hid (And.intro hn hb)
        clear hn hb
        have hz : (0 : Int) ≤ (j : Int) := by omega
        go_wp2_with fail
        go_loopg [10, 23, 24, 25, 26, 27, 28, 29, 30, 31, 32, 33] j (fun gk v10 v23 v24 v25 v26 v27 v28 v29 v30 v31 v32 v33 wr => ∃ i : Nat, i + gk = j ∧ v10 = .int .i64 (i : Int) ∧ (∀ k, k < i → ¬ racP l k j) ∧ Below w.heap.size w wr)
        case atStart => exact ⟨0, by omega, rfl, (fun k hk => by omega), HN.out.2⟩
        case round =>
          obtain ⟨i, hi, rfl, hno, hb⟩ := hrel
          by_cases hil : i < j
          · have hd2 : decide (i < j) = true := decide_eq_true hil
            have hiI : (i : Int) < (j : Int) := by omega
            have hr := racesR_calls l i j hil hlt A cp wr (HO.out wr hb)
            have HR := Lib.hid hr
            have HI := Lib.hid (And.intro hno hb)
            clear hr hno hb
            cases hrb : racB l i j with
            | true =>
              have he : raceT c l = ((i : Int), (j : Int), true, 0) := by
                unfold raceT
                rw [if_pos HK.out, rcR_stay (n := j + 1) (x := (i, j)) ?_ _ (by omega)]
                rw [rcR_succ, HN.out.1]
                show (rcAt l j).head?.map _ = _
                rw [rcAt_first HG.out hil hlt (racB_iff.1 hrb) HI.out.1]; rfl
              rw [hrb] at HR
              have HE := Lib.hid he
              clear he hrb
              go_wp2_with ((with_reducible refine (HR.out).mono ?_); rintro e w2 ⟨rfl, hb2⟩; have H2 := Lib.hid (HI.out.2.trans (hb2.mono HI.out.2.size)); clear hb2)
              refine bodyPost_ret (race23_results _ _ _ _ _ _ rfl rfl rfl rfl) rfl ?_
              refine ⟨?_, H2.out⟩
              rw [HE.out]; rfl
            | false =>
              have hno2 : ∀ k, k < i + 1 → ¬ racP l k j := fun k hk => by
                by_cases h : k < i
                · exact HI.out.1 k h
                · obtain rfl : k = i := by omega
                  intro hp
                  rw [racB_iff.2 hp] at hrb; cases hrb
              rw [hrb] at HR
              have HE := Lib.hid hno2
              clear hno2 hrb
              go_wp2_with ((with_reducible refine (HR.out).mono ?_); rintro e w2 ⟨rfl, hb2⟩; have H2 := Lib.hid (HI.out.2.trans (hb2.mono HI.out.2.size)); clear hb2)
              go_roundg (j - (i + 1))
              case measure => omega
              case rel => exact ⟨i + 1, by omega, by go_num, HE.out, H2.out⟩
          · have hd2 : decide (i < j) = false := decide_eq_false hil
            obtain rfl : i = j := by omega
            have he : rcR l (i + 1) = none := by
              rw [rcR_succ, HN.out.1]
              show (rcAt l i).head?.map _ = _
              rw [rcAt_none HG.out hlt hno]; rfl
            have HE := Lib.hid (And.intro he hb)
            clear he hno hb
            go_wp2_with fail
            go_roundg (l.length - (i + 1))
            case measure => omega
            case rel => exact ⟨i + 1, by omega, by go_num, HE.out.1, HE.out.2⟩
      · have hd : decide (j < l.length) = false := decide_eq_false hlt
        obtain rfl : j = l.length := by omega
        have he : raceT c l = (0, 0, false, 0) := by unfold raceT; rw [if_pos HK.out, hn]
        have HE := Lib.hid (And.intro he hb)
        clear he hn hb
        go_wp2_with fail
        refine bodyPost_ret (race23_results _ _ _ _ _ _ rfl rfl rfl rfl) rfl ?_
        refine ⟨?_, HE.out.2⟩
        rw [HE.out.1]; rfl
  · have hkc : (chkF c l != 0) = true := by rw [bne_iff_ne]; exact hk
    have he : raceT c l = (0, 0, false, chkF c l) := by unfold raceT; rw [if_neg hk]
    have HE := Lib.hid he
    clear hk he
    go_wp2_with ((with_reducible refine (HC.out).mono ?_); rintro e w1 ⟨rfl, hb1⟩; have H1 := Lib.hid (HX.out.1.trans (hb1.mono HX.out.1.size)); clear hb1)
    refine bodyPost_ret (race23_results _ _ _ _ _ _ rfl rfl rfl rfl) rfl ?_
    refine ⟨?_, H1.out⟩
    rw [HE.out]; rfl
end Go.Proofs.Ytggidakiflnhhaa
