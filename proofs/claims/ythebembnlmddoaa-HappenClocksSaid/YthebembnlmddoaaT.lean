import Derived.Test.YthebembnlmddoaaS
namespace Go.Proofs.Ythebembnlmddoaa
open Go.RowKit
set_option maxHeartbeats 16000000
set_option maxRecDepth 100000
set_option linter.unusedSimpArgs false
set_option linter.unusedVariables false

/-- is the event at i an access that writes to the place of the one at j -/
def hitE (x y : Ev) : Bool := decide (x.k = 1) && spB x y && !decide (x.m = 1)
def hitB (l : List Ev) (i j : Nat) : Bool := match l[i]?, l[j]? with | some x, some y => hitE x y | _, _ => false
theorem hitB_eq (l : List Ev) (i j : Nat) (hi : i < l.length) (hj : j < l.length) : hitB l i j = hitE l[i] l[j] := by
  unfold hitB
  rw [List.getElem?_eq_getElem hi, List.getElem?_eq_getElem hj]
def lsE (l : List Ev) (j : Nat) (xs : List Nat) : Int := xs.foldl (fun acc i => if hitB l i j = true then (i : Int) else acc) (-1)
theorem lsE_snoc (l : List Ev) (j : Nat) (xs : List Nat) (i : Nat) : lsE l j (xs ++ [i]) = if hitB l i j = true then (i : Int) else lsE l j xs := by
  unfold lsE
  rw [List.foldl_append]
  rfl
def LsPost (l : List Ev) (o : List Nat) (w : World) (e : Ending) (w' : World) : Prop := ∃ (out : List Int) (v : Value), e = .returned v ∧ Own encI 1 3 w' w.heap.size v out ∧ out.length = l.length ∧ (∀ k (h : k < o.length), out.getD o[k] 0 = lsE l o[k] (o.take k)) ∧ Below w.heap.size w w'
theorem run_eq37 (e f : Ev) (w : World) : (binOp .eql 37 e.pl f.pl).run Try.prog w = .ok (.bool (spB e f)) w := by
  rw [run_eql_struct, eq37 9998]
  simp only [Result.andThen_ok]
  congr 2
  unfold spB
  by_cases e1 : e.p = f.p <;> by_cases e2 : e.q = f.q <;> by_cases e3 : e.r = f.r <;> simp [e1, e2, e3]
theorem last_calls (l : List Ev) (hl40 : l.length ≤ 40) (o : List Nat) (ho : ∀ j ∈ o, j < l.length) (hnd : o.Nodup) (A : Option Addr) (c : Nat) (S : Option Addr) (cO : Nat) (hcap : o.length ≤ cO) (w : World) (hA : Rd encE 11 w A l) (hO : Rd encN 1 w S o) :
    Calls Try.prog 14 #[.slice A l.length c, .slice S o.length cO] w (LsPost l o w) := by
  have hsm := hA.small
  have hso := hO.small
  obtain ⟨i1, hi1, hz1, hs1, hbb1⟩ := info_parts info3
  obtain ⟨W0, hmk, hown0, hg0⟩ := run_makeSlice_full (P := Try.prog) (w := w) w.heap.size 33 3 i1 _ 1 Try.underlying33 hi1 hz1 hs1 .i64 .i64 l.length (by omega) (by rw [hbb1]; omega) (by simp [maxLen]; omega) (Nat.le_refl _)
  rw [made_int] at hown0
  have b0 : Below w.heap.size w W0 := (Below.refl _ w).grown hg0 (Nat.le_refl _) (fun b hb => by cases hb)
  have hT0 : Own encI 1 3 W0 w.heap.size (.slice (some ⟨w.heap.size, 0, none⟩) l.length l.length) (List.replicate l.length 0) := by
    unfold Own
    rw [List.length_replicate]; exact hown0
  have hmk' : (Instr.makeSlice 33 (.int .i64 (l.length : Int)) (.int .i64 (l.length : Int))).run Try.prog w = .ok (.slice (some ⟨w.heap.size, 0, none⟩) l.length l.length) W0 := hmk
  have HR := Lib.hid (And.intro hA (And.intro hO (And.intro ho hnd)))
  have H0 := Lib.hid (And.intro b0 hT0)
  obtain ⟨tb, htb⟩ : ∃ tb, w.heap.size = tb := ⟨_, rfl⟩
  rw [htb] at hmk' H0
  have HTB := Lib.hid htb
  clear hA hO ho hnd b0 hT0 hown0 hg0 hmk hi1 hz1 hs1 hbb1 i1 htb
  have hcap2 : (o.length : Int) ≤ (cO : Int) := by omega
  go_enter Try.func14, Try.ntmps14
  go_upto_region 2 with fail
  go_wp2_with fail
  go_loopg [6, 7, 9, 15, 16, 17, 18, 19, 20, 21, 22, 23, 24, 25, 26, 27, 28, 29, 30, 31, 32, 33, 34, 35, 36, 37, 38, 39, 40, 41, 42, 43, 44, 45, 46, 47, 48, 49, 50, 51, 52, 53, 54, 55, 56, 57, 58, 59, 60, 61, 62, 63, 64, 65, 66] o.length (fun gk v6 v7 v9 v15 v16 v17 v18 v19 v20 v21 v22 v23 v24 v25 v26 v27 v28 v29 v30 v31 v32 v33 v34 v35 v36 v37 v38 v39 v40 v41 v42 v43 v44 v45 v46 v47 v48 v49 v50 v51 v52 v53 v54 v55 v56 v57 v58 v59 v60 v61 v62 v63 v64 v65 v66 wr => ∃ (k : Nat) (out : List Int), k + gk = o.length ∧ v15 = .int .i64 (k : Int) ∧ out.length = l.length ∧ Own encI 1 3 wr tb (.slice (some ⟨tb, 0, none⟩) l.length l.length) out ∧ (∀ x (h : x < o.length), x < k → out.getD o[x] 0 = lsE l o[x] (o.take x)) ∧ Below tb w wr)
  case atStart => exact ⟨0, _, by omega, rfl, by simp, H0.out.2, fun x h hx => by omega, H0.out.1⟩
  case round =>
    obtain ⟨k, out, hk, rfl, hol, hown, hall, hbl⟩ := hrel
    obtain ⟨g1, hg1⟩ : ∃ g1, g1 = gk := ⟨_, rfl⟩
    subst hg1
    obtain ⟨wo, hwo⟩ : ∃ wo, wo = wr := ⟨_, rfl⟩
    subst hwo
    clear H0 hmk'
    by_cases hkl : k < o.length
    · have hd : decide (k < o.length) = true := decide_eq_true hkl
      obtain ⟨sa, rfl, hsc⟩ := (HR.out.2.1.below (by rw [HTB.out]; exact hbl)).cell k hkl
      have hsv := hsc 0 _ rfl
      rw [Nat.mul_one, Nat.add_zero] at hsv
      have hjl := HR.out.2.2.1 _ (List.getElem_mem hkl)
      have HJ := Lib.hid (show ∃ j, o[k] = j from ⟨_, rfl⟩)
      obtain ⟨j, hj⟩ := HJ.out
      rw [hj] at hsv hjl
      have hjj : (j : Int) < (l.length : Int) := by omega
      obtain ⟨tc0, tf⟩ := hown.cell lenI hol j (by rw [hol]; exact hjl) 0 _ rfl
      have hst := hown.set lenI hol j (by rw [hol]; exact hjl) 0 (by decide) (.int .i64 (-1)) (-1) rfl
      simp only [Nat.mul_one, Nat.add_zero] at tc0 tf hst
      obtain ⟨v0, tc⟩ : ∃ v0, wo.cell? ⟨tb, j, none⟩ = some v0 := ⟨_, tc0⟩
      obtain ⟨W6, hW6⟩ : ∃ W6, wo.setCell ⟨tb, j, none⟩ (.int .i64 (-1)) = W6 := ⟨_, rfl⟩
      have hb6 : Below tb w W6 := by rw [← hW6]; exact hbl.setCell (Nat.le_refl _) _
      rw [hW6] at hst
      have HK := Lib.hid (And.intro hol (And.intro hall (And.intro hj (And.intro hst.1 hb6))))
      have hkc : (k : Int) ≤ (cO : Int) := by omega
      clear tc0 HJ hj hsc hol hown hall hbl hst hb6
      go_upto_region 6 with fail
      try rw [hW6]
      clear hW6 hsv tf tc
      go_wp2_with fail
      go_loopg [9, 27, 28, 29, 30, 31, 32, 33, 34, 35, 36, 37, 38, 39, 40, 41, 42, 43, 44, 45, 46, 47, 48, 49, 50, 51, 52, 53, 54, 55, 56, 57, 58, 59, 60, 61, 62, 63, 64, 65] k (fun gk v9 v27 v28 v29 v30 v31 v32 v33 v34 v35 v36 v37 v38 v39 v40 v41 v42 v43 v44 v45 v46 v47 v48 v49 v50 v51 v52 v53 v54 v55 v56 v57 v58 v59 v60 v61 v62 v63 v64 v65 wq => ∃ (i : Nat), i + gk = k ∧ v27 = .int .i64 (i : Int) ∧ Own encI 1 3 wq tb (.slice (some ⟨tb, 0, none⟩) l.length l.length) (out.set j (lsE l j (o.take i))) ∧ Below tb w wq)
      case atStart => exact ⟨0, by omega, rfl, HK.out.2.2.2.1, HK.out.2.2.2.2⟩
      case round =>
        obtain ⟨i, hi, rfl, hown, hbl⟩ := hrel
        obtain ⟨wq, hwq⟩ : ∃ wq, wq = wr := ⟨_, rfl⟩
        subst hwq
        by_cases hil : i < k
        · have hd2 : decide (i < k) = true := decide_eq_true hil
          obtain ⟨p, hp⟩ : ∃ p, o[i]'(by omega) = p := ⟨_, rfl⟩
          have hpl := HR.out.2.2.1 _ (List.getElem_mem (show i < o.length by omega))
          have hO2 := HR.out.2.1.below (show Below w.heap.size w wq by rw [HTB.out]; exact hbl)
          obtain ⟨_, hsa, hsc⟩ := hO2.cell i (by omega)
          cases hsa
          have hpv := hsc 0 _ rfl
          rw [hp] at hpv hpl
          rw [Nat.mul_one, Nat.add_zero] at hpv
          have hRA := HR.out.1.below (show Below w.heap.size w wq by rw [HTB.out]; exact hbl)
          obtain ⟨a, rfl, hca⟩ := hRA.cell p hpl
          obtain ⟨_, ha2, hcb⟩ := hRA.cell j hjl
          cases ha2
          have hhit := hitB_eq l p j hpl hjl
          have hsn := take_snoc o i (by omega)
          rw [hp] at hsn
          have hls := lsE_snoc l j (o.take i) p
          rw [← hsn] at hls
          have x0 := hca 0 _ rfl
          have x2 := hca 2 _ rfl
          have x3 := hca 3 _ rfl
          have x4 := hca 4 _ rfl
          have x5 := hca 5 _ rfl
          have y2 := hcb 2 _ rfl
          have y3 := hcb 3 _ rfl
          have y4 := hcb 4 _ rfl
          rw [Nat.add_zero] at x0
          rw [add_field _ _ _ (by decide)] at x2 x3 x4 x5 y2 y3 y4
          have heq := run_eq37 l[p] l[j]
          have hpp : (p : Int) < (l.length : Int) := by omega
          have HQ := Lib.hid (And.intro hown (And.intro hbl (And.intro hhit hls)))
          generalize l[p] = ep at *
          generalize l[j] = ej at *
          have hsal : (i : Int) < (k : Int) := by omega
          clear hp hO2 hsc hRA hca hcb hhit hsn hls hown hbl
          have heq3 : ∀ w, (binOp .eql 37 (.agg #[.int .i64 ep.p, .int .i64 ep.q, .int .i64 ep.r]) (.agg #[.int .i64 ej.p, .int .i64 ej.q, .int .i64 ej.r])).run Try.prog w = .ok (.bool (spB ep ej)) w := fun w => run_eq37 ep ej w
          clear heq
          by_cases h1 : ep.k = 1
          · have k1 : (ep.k == 1) = true := by simpa using h1
            cases hsp : spB ep ej with
            | false =>
              have HH := Lib.hid (show hitE ep ej = false by simp [hitE, hsp])
              rw [hsp] at heq3
              clear hsp h1
              go_upto_region 9 with fail
              go_quiet (fail)
              go_wp2_with fail
              go_roundg (gk - 1)
              case measure => omega
              case rel =>
                have h3 := HQ.out.2.2.2
                rw [HQ.out.2.2.1, HH.out, if_neg (by simp)] at h3
                exact ⟨i + 1, by omega, by go_num, by rw [h3]; exact HQ.out.1.rest (drewN_below (Below.refl _ _) _), drewN_below HQ.out.2.1 _⟩
            | true =>
              rw [hsp] at heq3
              by_cases hm1 : ep.m = 1
              · have k2 : (ep.m != 1) = false := by simpa using hm1
                have HH := Lib.hid (show hitE ep ej = false by simp [hitE, hm1])
                clear hsp h1 hm1
                go_upto_region 9 with fail
                go_quiet (fail)
                go_wp2_with fail
                go_roundg (gk - 1)
                case measure => omega
                case rel =>
                  have h3 := HQ.out.2.2.2
                  rw [HQ.out.2.2.1, HH.out, if_neg (by simp)] at h3
                  exact ⟨i + 1, by omega, by go_num, by rw [h3]; exact HQ.out.1.rest (drewN_below (Below.refl _ _) _), drewN_below HQ.out.2.1 _⟩
              · have k2 : (ep.m != 1) = true := by simpa using hm1
                have HH := Lib.hid (show hitE ep ej = true by simp [hitE, hm1, hsp, h1])
                clear hsp h1 hm1
                go_upto_region 9 with fail
                go_quiet (fail)
                obtain ⟨Wd, hWd⟩ : ∃ Wd, wq.drewN nq = Wd := ⟨_, rfl⟩
                have hod : Own encI 1 3 Wd tb (.slice (some ⟨tb, 0, none⟩) l.length l.length) (out.set j (lsE l j (o.take i))) := by rw [← hWd]; exact HQ.out.1.rest (drewN_below (Below.refl _ _) _)
                have hbd : Below tb w Wd := by rw [← hWd]; exact drewN_below HQ.out.2.1 _
                have hlen : (out.set j (lsE l j (o.take i))).length = l.length := by rw [List.length_set, HK.out.1]
                obtain ⟨tc0, tf⟩ := hod.cell lenI hlen j (by rw [hlen]; exact hjl) 0 _ rfl
                have hst := hod.set lenI hlen j (by rw [hlen]; exact hjl) 0 (by decide) (.int .i64 (p : Int)) (p : Int) rfl
                simp only [Nat.mul_one, Nat.add_zero, List.set_set] at tc0 tf hst
                obtain ⟨v0, tc⟩ : ∃ v0, Wd.cell? ⟨tb, j, none⟩ = some v0 := ⟨_, tc0⟩
                have HS := Lib.hid (And.intro hst.1 (hbd.setCell (p := ⟨tb, j, none⟩) (Nat.le_refl _) (.int .i64 (p : Int))))
                rw [hWd]
                clear hWd tc0 hst hlen hod hbd
                go_wp2_with fail
                go_roundg (gk - 1)
                case measure => omega
                case rel =>
                  have h3 := HQ.out.2.2.2
                  rw [HQ.out.2.2.1, HH.out, if_pos rfl] at h3
                  exact ⟨i + 1, by omega, by go_num, by rw [h3]; exact HS.out.1, HS.out.2⟩
          · have k1 : (ep.k == 1) = false := by simpa using h1
            have HH := Lib.hid (show hitE ep ej = false by simp [hitE, h1])
            clear h1 heq3
            go_upto_region 9 with fail
            go_quiet (fail)
            go_wp2_with fail
            go_roundg (gk - 1)
            case measure => omega
            case rel =>
              have h3 := HQ.out.2.2.2
              rw [HQ.out.2.2.1, HH.out, if_neg (by simp)] at h3
              exact ⟨i + 1, by omega, by go_num, by rw [h3]; exact HQ.out.1.rest (drewN_below (Below.refl _ _) _), drewN_below HQ.out.2.1 _⟩
        · have hd2 : decide (i < k) = false := decide_eq_false hil
          obtain rfl : i = k := by omega
          have HQ := Lib.hid (And.intro hown hbl)
          clear hown hbl
          go_wp2_with fail
          go_roundg (g1 - 1)
          case measure => omega
          case rel =>
            refine ⟨i + 1, _, by omega, by go_num, by rw [List.length_set, HK.out.1], HQ.out.1, fun x hx hxk => ?_, HQ.out.2⟩
            have hjx := HK.out.2.2.1
            by_cases e : x = i
            · subst e
              rw [hjx, List.getD_eq_getElem?_getD, List.getElem?_set_self (by rw [HK.out.1]; exact hjl)]
              rfl
            · have hne : j ≠ o[x] := fun h => e ((List.getElem_inj HR.out.2.2.2).1 (h.symm.trans hjx.symm))
              rw [List.getD_eq_getElem?_getD, List.getElem?_set_ne hne, ← List.getD_eq_getElem?_getD]
              exact HK.out.2.1 x hx (by omega)
    · have hd : decide (k < o.length) = false := decide_eq_false hkl
      have HE := Lib.hid (And.intro hown (And.intro hall (And.intro hol hbl)))
      clear hown hall hol hbl
      go_wp2_with fail
      go_ret
      exact ⟨out, _, rfl, by rw [HTB.out]; exact HE.out.1, HE.out.2.2.1, fun x hx => HE.out.2.1 x hx (by omega), by rw [HTB.out]; exact HE.out.2.2.2⟩
end Go.Proofs.Ythebembnlmddoaa
