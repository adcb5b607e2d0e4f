import Derived.Test.YthebembnlmddoaaBH
import Derived.Test.YthebembnlmddoaaAY
namespace Go.Proofs.Ythebembnlmddoaa
open Go.RowKit
set_option maxHeartbeats 8000000
set_option maxRecDepth 100000
set_option linter.unusedSimpArgs false
set_option linter.unusedVariables false

theorem info93 : (Try.prog.info? 93).map (fun i => (i.zero, i.size, i.bytes)) = some (some (.agg #[.int .i64 0, .int .i64 0, .int .i64 0, .int .i64 0, .int .i64 0, .int .i64 0, .int .i64 0, .int .i64 0, .int .i64 0, .int .i64 0, .int .i64 0]), 11, 88) := by kernel_rfl
theorem reorderR_chk (l : List Ev) (hk0 : chkF l ≠ 0) (n : Nat) (A : Option Addr) (c : Nat) (S : Option Addr) (cO : Nat) (w : World) (hA : Rd encE 11 w A l) :
    Calls Try.prog 27 #[.slice A l.length c, .slice S n cO] w (ErPost (chkF l) w) := by
  have hck := checkR_calls l A c w hA
  have hsm := hA.small
  have hkc : (chkF l != 0) = true := by simp [hk0]
  generalize chkF l = m at *
  have HC := Lib.hid hck
  clear hA hk0 hck
  go_enter Try.func27, Try.ntmps27
  go_upto_region 1 with fail
  go_wp2_with fail
  (with_reducible refine (HC.out).mono ?_); rintro e w2 ⟨rfl, hb2⟩
  have H2 := Lib.hid hb2
  clear hb2
  go_wp2_with fail
  go_ret2
  exact ⟨rfl, H2.out⟩
theorem reorderR_len (l : List Ev) (hk0 : chkF l = 0) (n : Nat) (hn : n ≤ 9223372036854775807) (hlen : n ≠ l.length) (A : Option Addr) (c : Nat) (S : Option Addr) (cO : Nat) (w : World) (hA : Rd encE 11 w A l) :
    Calls Try.prog 27 #[.slice A l.length c, .slice S n cO] w (ErPost 5 w) := by
  have hck := checkR_calls l A c w hA
  have hsm := hA.small
  rw [hk0] at hck
  have hle : (n != l.length) = true := by simp [hlen]
  have hlz : ((n : Int) != (l.length : Int)) = true := by simp; omega
  have HC := Lib.hid hck
  clear hA hk0 hck hlen
  go_enter Try.func27, Try.ntmps27
  go_upto_region 1 with fail
  go_wp2_with fail
  (with_reducible refine (HC.out).mono ?_); rintro e w2 ⟨rfl, hb2⟩
  have H2 := Lib.hid hb2
  clear hb2
  go_wp2_with fail
  go_ret2
  exact ⟨rfl, H2.out⟩
/-- what the reference's Reorder answers -/
def RrdPost (l : List Ev) (o : List Int) (w : World) (e : Ending) (w' : World) : Prop := (¬ ordI l.length o → ErPost 1 w e w') ∧ ∀ p : List Nat, p.map (fun (j : Nat) => (j : Int)) = o → p.Nodup → (∀ j ∈ p, j < l.length) → ∃ v, e = .returned (.tuple #[v, .int .i64 (if pmA l p = true then 0 else 231)]) ∧ Own encE 11 93 w' w.heap.size v (if pmA l p = true then p.map (evA l) else []) ∧ Below w.heap.size w w'
theorem castN_inj (p q : List Nat) (h : p.map (fun (j : Nat) => (j : Int)) = q.map (fun (j : Nat) => (j : Int))) : p = q := by
  induction p generalizing q with
  | nil => cases q with
    | nil => rfl
    | cons y q => simp at h
  | cons x p ih => cases q with
    | nil => simp at h
    | cons y q =>
      simp only [List.map_cons, List.cons.injEq] at h
      rw [ih q h.2, show x = y by omega]
theorem RrdPost.bad {l : List Ev} {o : List Int} {w w' : World} {e : Ending} (hn : ¬ ordI l.length o) (h : ErPost 1 w e w') : RrdPost l o w e w' :=
  ⟨fun _ => h, fun p hp hd hl => absurd ⟨fun x hx => by
    rw [← hp] at hx
    obtain ⟨j, hj, rfl⟩ := List.mem_map.1 hx
    have := hl j hj
    omega, by rw [← hp]; exact List.Pairwise.map _ (fun a b h e => h (by omega)) hd⟩ hn⟩
theorem RrdPost.good {l : List Ev} {o : List Int} {w w' : World} {e : Ending} (p : List Nat) (hp : p.map (fun (j : Nat) => (j : Int)) = o) (hd : p.Nodup) (hl : ∀ j ∈ p, j < l.length) (h : ∃ v, e = .returned (.tuple #[v, .int .i64 (if pmA l p = true then 0 else 231)]) ∧ Own encE 11 93 w' w.heap.size v (if pmA l p = true then p.map (evA l) else []) ∧ Below w.heap.size w w') : RrdPost l o w e w' :=
  ⟨fun hn => absurd ⟨fun x hx => by
    rw [← hp] at hx
    obtain ⟨j, hj, rfl⟩ := List.mem_map.1 hx
    have := hl j hj
    omega, by rw [← hp]; exact List.Pairwise.map _ (fun a b h e => h (by omega)) hd⟩ hn, fun q hq _ _ => by
    rw [castN_inj q p (by rw [hq, hp])]
    exact h⟩
theorem reorderR_calls (l : List Ev) (hk0 : chkF l = 0) (hl80 : l.length ≤ 80) (o : List Int) (hlen : o.length = l.length) (A : Option Addr) (c : Nat) (S : Option Addr) (cO : Nat) (hcap : o.length ≤ cO) (w : World) (hA : Rd encE 11 w A l) (hO : Rd encI 1 w S o) :
    Calls Try.prog 27 #[.slice A l.length c, .slice S o.length cO] w (RrdPost l o w) := by
  have hsm := hA.small
  have hz := chk_zero l hk0
  have hck := checkR_calls l A c w hA
  rw [hk0] at hck
  have HC := Lib.hid hck
  have HR := Lib.hid (And.intro hA (And.intro hO hz))
  have hle : (o.length != l.length) = false := by simp [hlen]
  have hlz : ((o.length : Int) != (l.length : Int)) = false := by simp [hlen]
  have HL := Lib.hid hlen
  have hso : o.length ≤ 9223372036854775807 := by omega
  clear hA hO hz hk0 hck hlen
  go_enter Try.func27, Try.ntmps27
  go_upto_region 1 with fail
  go_wp2_with fail
  (with_reducible refine (HC.out).mono ?_); rintro e w2 ⟨rfl, hb2⟩
  obtain ⟨i1, hi1, hz1, hs1, hbb1⟩ := info_parts info3
  obtain ⟨W3, hmk, hown3, hg3⟩ := run_makeSlice_full (P := Try.prog) (w := w2) w2.heap.size 33 3 i1 _ 1 Try.underlying33 hi1 hz1 hs1 .i64 .i64 l.length (by omega) (by rw [hbb1]; omega) (by simp [maxLen]; omega) (Nat.le_refl _)
  rw [made_int] at hown3
  have b23 : Below w2.heap.size w2 W3 := (Below.refl _ w2).grown hg3 (Nat.le_refl _) (fun b hb => by cases hb)
  have hT3 : Own encI 1 3 W3 w2.heap.size (.slice (some ⟨w2.heap.size, 0, none⟩) l.length l.length) (plF l.length []) := by
    unfold Own
    rw [plF_len, plF_nil]; exact hown3
  have hmk' : (Instr.makeSlice 33 (.int .i64 (l.length : Int)) (.int .i64 (l.length : Int))).run Try.prog w2 = .ok (.slice (some ⟨w2.heap.size, 0, none⟩) l.length l.length) W3 := hmk
  obtain ⟨tb, htb⟩ : ∃ tb, w2.heap.size = tb := ⟨_, rfl⟩
  have H3 := Lib.hid (And.intro hb2 (And.intro (show Below w2.heap.size w2 W3 from b23) (And.intro hT3 htb)))
  rw [htb] at hmk'
  clear hb2 hi1 hz1 hs1 hbb1 hmk hown3 hg3 b23 hT3 htb i1
  go_upto_region 7 with fail
  clear hmk'
  go_upto_region 8 with fail
  have hb23 : Below tb w2 W3 := by rw [← H3.out.2.2.2]; exact H3.out.2.1
  have hT3 : Own encI 1 3 W3 tb (.slice (some ⟨tb, 0, none⟩) l.length l.length) (plF l.length []) := by
    have := H3.out.2.2.1
    rw [H3.out.2.2.2] at this
    exact this
  have H4 := Lib.hid (And.intro hb23 hT3)
  clear hb23 hT3
  go_loopg [8, 28, 29, 30, 31, 32, 33, 34, 35, 36, 37, 38, 39, 40, 41, 42, 43, 44, 45, 46, 47, 48, 49, 50, 51, 52, 53, 54, 55] o.length (fun gk v8 v28 v29 v30 v31 v32 v33 v34 v35 v36 v37 v38 v39 v40 v41 v42 v43 v44 v45 v46 v47 v48 v49 v50 v51 v52 v53 v54 v55 wr => ∃ (k : Nat) (p : List Nat), k + gk = o.length ∧ v8 = .int .i64 (k : Int) ∧ p.length = k ∧ p.map (fun (j : Nat) => (j : Int)) = o.take k ∧ (∀ j ∈ p, j < l.length) ∧ Own encI 1 3 wr tb (.slice (some ⟨tb, 0, none⟩) l.length l.length) (plF l.length p) ∧ Below tb w2 wr)
  case atStart => exact ⟨0, [], by omega, rfl, rfl, rfl, fun j hj => by simp at hj, H4.out.2, H4.out.1⟩
  case round =>
    obtain ⟨k, p, hk, rfl, hpk, hp, hpl, hT, hbl⟩ := hrel
    obtain ⟨wo, hwo⟩ : ∃ wo, wo = wr := ⟨_, rfl⟩
    subst hwo
    have hlw : Below w.heap.size w wo := by
      refine H3.out.1.trans (hbl.mono ?_)
      rw [← H3.out.2.2.2]
      exact H3.out.1.size
    by_cases hkl : k < o.length
    · have hd : decide (k < o.length) = true := decide_eq_true hkl
      obtain ⟨sa, rfl, hsc⟩ := (HR.out.2.1.below hlw).cell k hkl
      have hsv := hsc 0 _ rfl
      rw [Nat.mul_one, Nat.add_zero] at hsv
      have hsn : o.take (k + 1) = o.take k ++ [o[k]] := List.take_succ_eq_append_getElem hkl
      have hxm : o[k] ∈ o := List.getElem_mem hkl
      generalize o[k] = x at *
      have HLW := Lib.hid (And.intro hlw hxm)
      have hkc : (k : Int) ≤ (cO : Int) := by omega
      clear hlw hsc hxm
      by_cases hx0 : x < 0
      · have d1 : decide (x < 0) = true := decide_eq_true hx0
        have HX := Lib.hid hx0
        clear hp hpl hT hbl hsn hpk hx0
        go_wp2_with fail
        go_ret2
        exact RrdPost.bad (fun h => by have := h.1 x HLW.out.2; have := HX.out; omega) ⟨rfl, HLW.out.1⟩
      · have d1 : decide (x < 0) = false := decide_eq_false hx0
        by_cases hxl : (l.length : Int) ≤ x
        · have d2 : decide ((l.length : Int) ≤ x) = true := decide_eq_true hxl
          have HX := Lib.hid hxl
          clear hp hpl hT hbl hsn hpk hx0 hxl
          go_wp2_with fail
          go_ret2
          exact RrdPost.bad (fun h => by have := h.1 x HLW.out.2; have := HX.out; omega) ⟨rfl, HLW.out.1⟩
        · obtain ⟨j, rfl⟩ := Int.eq_ofNat_of_zero_le (show 0 ≤ x by omega)
          have hjl : j < l.length := by omega
          have d2 : decide (l.length ≤ j) = false := decide_eq_false (by omega)
          have hjj : (j : Int) < (l.length : Int) := by omega
          obtain ⟨tc0, tf⟩ := hT.cell lenI (plF_len _ _) j (by rw [plF_len]; exact hjl) 0 _ rfl
          have hTs := hT.set lenI (plF_len _ _) j (by rw [plF_len]; exact hjl) 0 (by decide) (.int .i64 ((k : Int) + 1)) ((k : Int) + 1) rfl
          simp only [Nat.mul_one, Nat.add_zero] at tc0 tf hTs
          rw [show (k : Int) + 1 = (p.length : Int) + 1 by rw [hpk], ← plF_snoc] at hTs
          obtain ⟨v0, tc⟩ : ∃ v0, wo.cell? ⟨tb, j, none⟩ = some v0 := ⟨_, tc0⟩
          have hTs1 := hTs.1
          rw [hpk] at hTs1
          have HT := Lib.hid (And.intro hTs1 (And.intro (hbl.setCell (p := ⟨tb, j, none⟩) (Nat.le_refl _) (.int .i64 ((k : Int) + 1))) (And.intro hp (And.intro hpl (And.intro hsn hpk)))))
          clear hTs hTs1 hT hbl hp hpl hsn hpk tc0
          go_wp2_with fail
          go_roundg (gk - 1)
          case measure => omega
          case rel =>
            obtain ⟨t1, t2, t3, t4, t5, t6⟩ := HT.out
            refine ⟨k + 1, p ++ [j], by omega, by go_num, by simp [t6], ?_, ?_, t1, t2⟩
            · rw [List.map_append, t3, t5]; rfl
            · intro i hi
              rcases List.mem_append.1 hi with h | h
              · exact t4 i h
              · simp at h; omega
    · have hd : decide (k < o.length) = false := decide_eq_false hkl
      have hke : k = o.length := by omega
      subst hke
      rw [List.take_length] at hp
      have HP := Lib.hid (And.intro hp (And.intro hpl (And.intro hpk (And.intro hT (And.intro hbl hlw)))))
      clear hp hpl hpk hT hbl hlw
      go_upto_region 14 with fail
      go_loopg [9, 56, 57, 58, 59, 60, 61, 62, 63, 64, 65, 66] l.length (fun gk v9 v56 v57 v58 v59 v60 v61 v62 v63 v64 v65 v66 wr => ∃ (k : Nat), k + gk = l.length ∧ v9 = .int .i64 (k : Int) ∧ (∀ q, q < k → q ∈ p) ∧ wo = wr)
      case atStart => exact ⟨0, by omega, rfl, fun q hq => by omega, rfl⟩
      case round =>
        obtain ⟨k, hk, rfl, hall, rfl⟩ := hrel
        by_cases hkl2 : k < l.length
        · have hd2 : decide (k < l.length) = true := decide_eq_true hkl2
          obtain ⟨tc, tf⟩ := HP.out.2.2.2.1.cell lenI (plF_len _ _) k (by rw [plF_len]; exact hkl2) 0 _ rfl
          simp only [Nat.mul_one, Nat.add_zero] at tc tf
          have hzz := plF_zero l.length p k hkl2
          rw [List.getElem?_eq_getElem (by rw [plF_len]; exact hkl2), Option.getD_some] at hzz
          generalize (plF l.length p)[k]'_ = y at *
          have hkk : (k : Int) < (l.length : Int) := by omega
          by_cases hy : y = 0
          · have dy : (y == 0) = true := by simp [hy]
            have HN := Lib.hid (hzz.1 hy)
            have HK := Lib.hid hkl2
            clear hzz hall hy
            go_wp2_with fail
            go_ret2
            refine RrdPost.bad (fun h => HN.out (all_of_nodup l.length p (by rw [HP.out.2.2.1]; exact HL.out) ?_ HP.out.2.1 k HK.out)) ⟨rfl, HP.out.2.2.2.2.2⟩
            have h2 := h.2
            rw [← HP.out.1] at h2
            exact List.Pairwise.of_map _ (fun a b h e => h (by rw [e])) h2
          · have dy : (y == 0) = false := by simp [hy]
            have HN := Lib.hid (And.intro hall (show k ∈ p from Decidable.byContradiction fun h => hy (hzz.2 h)))
            clear hzz hall hy
            go_wp2_with fail
            go_roundg (gk - 1)
            case measure => omega
            case rel =>
              refine ⟨k + 1, by omega, by go_num, fun q hq => ?_, rfl⟩
              by_cases e : q = k
              · rw [e]; exact HN.out.2
              · exact HN.out.1 q (by omega)
        · have hd2 : decide (k < l.length) = false := decide_eq_false hkl2
          have hnd : p.Nodup := nodup_of_all l.length p (by rw [HP.out.2.2.1]; exact HL.out) (fun i hi => hall i (by omega))
          have hpA := pmA_pmR l p (by rw [HP.out.2.2.1]; exact HL.out) hnd HP.out.2.1
          have HD := Lib.hid (And.intro hnd hpA)
          have hah := ahead_calls l HR.out.2.2.2 HR.out.2.2.1 A c wo (HR.out.1.below HP.out.2.2.2.2.2)
          have HAH := Lib.hid hah
          clear hah hnd hpA hall
          go_wp2_with fail
          (with_reducible refine (HAH.out).mono ?_); rintro e w5 ⟨ST, cT, rfl, htab, hb5⟩
          have hT5 := HP.out.2.2.2.1.rest hb5
          have hlo5 := HP.out.2.2.2.2.2.trans (hb5.mono HP.out.2.2.2.2.2.size)
          have H5 := Lib.hid (And.intro htab (And.intro hT5 hlo5))
          clear htab hT5 hb5 hlo5
          go_upto_region 20 with fail
          go_loopg [11, 12, 69, 70, 71, 72, 73, 74, 75, 76, 77, 78, 79, 80, 81, 82, 83, 84, 85, 86, 87, 88, 89, 90, 91, 92, 93, 94, 95, 96, 97] l.length (fun gk v11 v12 v69 v70 v71 v72 v73 v74 v75 v76 v77 v78 v79 v80 v81 v82 v83 v84 v85 v86 v87 v88 v89 v90 v91 v92 v93 v94 v95 v96 v97 wr => ∃ (j : Nat), j + gk = l.length ∧ v11 = .int .i64 (j : Int) ∧ (∀ x y, x < j → y < x → pmR l p x y = false) ∧ Below w5.heap.size w5 wr)
          case atStart => exact ⟨0, by omega, rfl, fun x y hx => by omega, Below.refl _ _⟩
          case round =>
            obtain ⟨j, hj, rfl, hall, hbv⟩ := hrel
            obtain ⟨g1, hg1⟩ : ∃ g1, g1 = gk := ⟨_, rfl⟩
            subst hg1
            obtain ⟨wv, hwv⟩ : ∃ wv, wv = wr := ⟨_, rfl⟩
            subst hwv
            by_cases hjl : j < l.length
            · have hd3 : decide (j < l.length) = true := decide_eq_true hjl
              have hjj : (j : Int) < (l.length : Int) := by omega
              have HALL := Lib.hid (And.intro hall hbv)
              clear hall hbv
              go_upto_region 23 with fail
              go_loopg [12, 75, 76, 77, 78, 79, 80, 81, 82, 83, 84, 85, 86, 87, 88, 89, 90, 91, 92, 93, 94, 95, 96, 97] j (fun gi v12 v75 v76 v77 v78 v79 v80 v81 v82 v83 v84 v85 v86 v87 v88 v89 v90 v91 v92 v93 v94 v95 v96 v97 wr => ∃ (i : Nat), i + gi = j ∧ v12 = .int .i64 (i : Int) ∧ (∀ y, y < i → pmR l p j y = false) ∧ Below w5.heap.size w5 wr)
              case atStart => exact ⟨0, by omega, rfl, fun y hy => by omega, HALL.out.2⟩
              case round =>
                obtain ⟨i, hi, rfl, hal2, hbi⟩ := hrel
                obtain ⟨wi, hwi⟩ : ∃ wi, wi = wr := ⟨_, rfl⟩
                subst hwi
                by_cases hij : i < j
                · have hd4 : decide (i < j) = true := decide_eq_true hij
                  have hii : (i : Int) < (l.length : Int) := by omega
                  obtain ⟨aT, g, cc, rfl, t1, t2⟩ := (H5.out.1.below hbi) j hjl
                  have s1 := t2 i (by omega)
                  obtain ⟨ti, _⟩ := (H5.out.2.1.rest hbi).cell lenI (plF_len _ _) i (by rw [plF_len]; omega) 0 _ rfl
                  obtain ⟨tj, _⟩ := (H5.out.2.1.rest hbi).cell lenI (plF_len _ _) j (by rw [plF_len]; omega) 0 _ rfl
                  simp only [Nat.mul_one, Nat.add_zero] at ti tj
                  have hpm : pmR l p j i = (bfB l i j && decide ((plF l.length p)[j]'(by rw [plF_len]; omega) < (plF l.length p)[i]'(by rw [plF_len]; omega))) := by
                    unfold pmR
                    rw [List.getElem?_eq_getElem (by rw [plF_len]; omega), List.getElem?_eq_getElem (by rw [plF_len]; omega)]; rfl
                  generalize (plF l.length p)[i]'_ = yi at *
                  generalize (plF l.length p)[j]'_ = yj at *
                  obtain ⟨b, hb⟩ : ∃ b, bfB l i j = b := ⟨_, rfl⟩
                  rw [hb] at s1 hpm
                  have HBI := Lib.hid hbi
                  have HA2 := Lib.hid hal2
                  clear hal2 t2 hb hbi
                  have hnext : pmR l p j i = false → ∀ y, y < i + 1 → pmR l p j y = false := fun h y hy => by
                    by_cases e : y = i
                    · rw [e]; exact h
                    · exact HA2.out y (by omega)
                  have HNX := Lib.hid hnext
                  clear hnext
                  cases b with
                  | false =>
                    have HPM := Lib.hid (show pmR l p j i = false from hpm)
                    clear hpm
                    go_upto_region 25 with fail
                    go_quiet (fail)
                    go_wp2_with fail
                    go_roundg (gk - 1)
                    case measure => omega
                    case rel => exact ⟨i + 1, by omega, by go_num, HNX.out HPM.out, drewN_below HBI.out _⟩
                  | true =>
                    by_cases hlt : yj < yi
                    · have hd5 : decide (yj < yi) = true := decide_eq_true hlt
                      have HPM := Lib.hid (show pmR l p j i = true by rw [hpm, hd5]; rfl)
                      clear hpm hlt
                      go_upto_region 25 with fail
                      go_quiet (fail)
                      go_wp2_with fail
                      go_ret2
                      have hf : pmA l p = false := by
                        rw [← Bool.not_eq_true]
                        intro h
                        have := HD.out.2.1 h j i hjl hij
                        rw [HPM.out] at this
                        cases this
                      refine RrdPost.good p HP.out.1 HD.out.1 HP.out.2.1 ⟨_, by rw [hf]; rfl, ?_, drewN_below (H5.out.2.2.trans (HBI.out.mono H5.out.2.2.size)) _⟩
                      rw [hf]
                      exact World.ownsRow_nil _ _ _ _
                    · have hd5 : decide (yj < yi) = false := decide_eq_false hlt
                      have HPM := Lib.hid (show pmR l p j i = false by rw [hpm, hd5]; rfl)
                      clear hpm hlt
                      go_upto_region 25 with fail
                      go_quiet (fail)
                      go_wp2_with fail
                      go_roundg (gk - 1)
                      case measure => omega
                      case rel => exact ⟨i + 1, by omega, by go_num, HNX.out HPM.out, drewN_below HBI.out _⟩
                · have hd4 : decide (i < j) = false := decide_eq_false hij
                  obtain rfl : i = j := by omega
                  have HA2 := Lib.hid (And.intro hal2 hbi)
                  clear hal2 hbi
                  go_wp2_with fail
                  go_roundg (g1 - 1)
                  case measure => omega
                  case rel =>
                    refine ⟨i + 1, by omega, by go_num, fun x y hx hy => ?_, HA2.out.2⟩
                    by_cases e : x = i
                    · rw [e] at hy ⊢; exact HA2.out.1 y hy
                    · exact HALL.out.1 x y (by omega) hy
            · have hd3 : decide (j < l.length) = false := decide_eq_false hjl
              have HV := Lib.hid (H5.out.2.2.trans (hbv.mono H5.out.2.2.size))
              have htrue : pmA l p = true := HD.out.2.2 (fun x y hx hxy => hall x y (by omega) hxy)
              obtain ⟨W6, hW6⟩ : ∃ W6, wv.alloc (.cells #[] 93) = W6 := ⟨_, rfl⟩
              have hb6 : Below wv.heap.size wv W6 := by rw [← hW6]; exact (Below.refl _ _).alloc (Nat.le_refl _) _
              have ho6 := Own.empty encE 11 93 wv wv.heap.size (Nat.le_refl _)
              rw [hW6] at ho6
              obtain ⟨B5, hB5⟩ : ∃ B5, wv.heap.size = B5 := ⟨_, rfl⟩
              rw [hB5] at ho6 hb6
              have HW6 := Lib.hid (And.intro hW6 hB5)
              have H6 := Lib.hid (And.intro htrue (And.intro hb6 ho6))
              clear htrue hb6 ho6 hW6 hB5 hall hbv
              go_upto_region 28 with fail
              rw [HW6.out.1]
              try rw [HW6.out.2]
              go_upto_region 29 with fail
              go_loopg [13, 14, 99, 100, 101, 102, 103, 104, 105, 106, 107, 108, 109, 110, 111, 112, 113, 114] o.length (fun gk v13 v14 v99 v100 v101 v102 v103 v104 v105 v106 v107 v108 v109 v110 v111 v112 v113 v114 wr => ∃ (k : Nat) (S2 : Option Addr) (c2 : Nat), k + gk = o.length ∧ v14 = .int .i64 (k : Int) ∧ v13 = .slice S2 k c2 ∧ Own encE 11 93 wr B5 (.slice S2 k c2) ((p.take k).map (evA l)) ∧ Below B5 wv wr)
              case atStart => exact ⟨0, some ⟨B5, 0, none⟩, 0, by omega, rfl, rfl, H6.out.2.2, H6.out.2.1⟩
              case round =>
                obtain ⟨k, S2, c2, hk, rfl, rfl, hown, hbl⟩ := hrel
                obtain ⟨wq, hwq⟩ : ∃ wq, wq = wr := ⟨_, rfl⟩
                subst hwq
                have hlw : Below w.heap.size w wq := HV.out.trans (hbl.mono (by rw [← HW6.out.2]; exact HV.out.size))
                by_cases hkl : k < o.length
                · have hd : decide (k < o.length) = true := decide_eq_true hkl
                  have hkp : k < p.length := by have := HP.out.2.2.1; omega
                  have hAq := HR.out.1.below hlw
                  obtain ⟨sa, rfl, hsc⟩ := (HR.out.2.1.below hlw).cell k hkl
                  have hsv := hsc 0 _ rfl
                  rw [Nat.mul_one, Nat.add_zero] at hsv
                  have hox : o[k] = ((p[k]'hkp : Nat) : Int) := (List.getElem_of_eq HP.out.1.symm hkl).trans (List.getElem_map _)
                  rw [hox] at hsv
                  have hxl := HP.out.2.1 _ (List.getElem_mem hkp)
                  have hsn : (p.take (k + 1)).map (evA l) = (p.take k).map (evA l) ++ [evA l p[k]] := by rw [take_snoc p k hkp, List.map_append]; rfl
                  have hev := evA_eq l p[k] hxl
                  obtain ⟨a, rfl, _⟩ := hAq.cell p[k] hxl
                  have hcs := ev_cells hAq p[k] hxl
                  rw [← hev] at hcs
                  have hjj : (p[k] : Int) < (l.length : Int) := by omega
                  have hln : ((p.take k).map (evA l)).length = k := by rw [List.length_map, List.length_take]; omega
                  have hkc : (k : Int) ≤ (cO : Int) := by omega
                  generalize evA l p[k] = e at *
                  generalize p[k] = x at *
                  have hb10 : Below wq.heap.size wq (wq.alloc (.cells e.cells 93)) := (Below.refl _ _).alloc (Nat.le_refl _) _
                  have hszq : B5 ≤ wq.heap.size := by have := hbl.size; have := HW6.out.2; omega
                  have HY := Lib.hid (And.intro hcs (And.intro (hown.rest hb10) (And.intro (hbl.trans (hb10.mono hszq)) (And.intro (show (k + 1) * 88 ≤ 140737488355328 by have := HL.out; omega) (And.intro hln (And.intro hsn hszq))))))
                  clear hcs hown hb10 hbl hln hsn hox hszq hlw hsc hev
                  go_wp2_with (first | (refine wpList_load_ev rfl _ 93 (Or.inr rfl) rfl (a.add (x * 11)) e rfl HY.out.1 ?_) | (at_builtin; go_must (refine wpList_append_told lenE oneE _ rfl (.tmp 105) (.tmp 113) 22 rfl B5 93 _ 88 Try.underlying22 info93 rfl (by decide) (by decide) (.slice S2 k c2) ((p.take k).map (evA l)) k HY.out.2.2.2.2.1 rfl HY.out.2.1 ⟨wq.heap.size, 0, none⟩ 1 1 [e] rfl rfl (by decide) (rd_one encE 11 _ e 93 _ rfl _ rfl) HY.out.2.2.2.1 (Nat.le_trans HY.out.2.2.2.2.2.2 (by simp)) ?_); intro g1 cap1 w10 hown10 hgr10 hl10; have HG := Lib.hid (And.intro hown10 hgr10); clear hown10 hgr10 hl10))
                  go_roundg (gk - 1)
                  case measure => omega
                  case rel =>
                    refine ⟨k + 1, _, _, by omega, by go_num, rfl, ?_, HY.out.2.2.1.grown HG.out.2 (by have h1 := HY.out.2.2.1.size; have h2 := HW6.out.2; omega) (fun b hb => (HY.out.2.1.blk b hb).1)⟩
                    rw [HY.out.2.2.2.2.2.1]; exact HG.out.1
                · have hd : decide (k < o.length) = false := decide_eq_false hkl
                  obtain rfl : k = o.length := by omega
                  have hpo : p.take o.length = p := by rw [← HP.out.2.2.1]; exact List.take_length
                  rw [hpo] at hown
                  have HE := Lib.hid (And.intro (hown.down (by rw [← HW6.out.2]; exact HV.out.size)) hlw)
                  clear hown hbl hlw hpo
                  go_wp2_with fail
                  go_ret2
                  refine RrdPost.good p HP.out.1 HD.out.1 HP.out.2.1 ⟨_, by rw [H6.out.1]; rfl, ?_, HE.out.2⟩
                  rw [H6.out.1]
                  exact HE.out.1
end Go.Proofs.Ythebembnlmddoaa
