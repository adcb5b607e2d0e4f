import Derived.Test.YthebembnlmddoaaR
namespace Go.Proofs.Ythebembnlmddoaa
open Go.RowKit
set_option maxHeartbeats 16000000
set_option maxRecDepth 100000
set_option linter.unusedSimpArgs false
set_option linter.unusedVariables false

def PmPost (l : List Ev) (w : World) (e : Ending) (w' : World) : Prop := ∃ o v, e = .returned (.tuple #[v, .bool true]) ∧ Own encN 1 3 w' w.heap.size v o ∧ PermI l o ∧ o.length = l.length ∧ Below w.heap.size w w'
theorem permitted_calls (l : List Ev) (hok : ∀ e ∈ l, e.ok) (hk0 : chkF l = 0) (hl40 : l.length ≤ 40) (A : Option Addr) (c : Nat) (cs : List Nat) (hcs : ∀ x ∈ cs, x ≤ 255) (C : Option Addr) (cc : Nat) (w : World) (hA : Rd encE 11 w A l) (hC : Rd enc8 1 w C cs) :
    Calls Try.prog 13 #[.slice A l.length c, .slice C cs.length cc] w (PmPost l w) := by
  have hsm := hA.small
  have hsc := hC.small
  obtain ⟨i1, hi1, hz1, hs1, hbb1⟩ := info_parts info4
  obtain ⟨W0, hmk, hown0, hg0⟩ := run_makeSlice_full (P := Try.prog) (w := w) w.heap.size 71 4 i1 _ 1 Try.underlying71 hi1 hz1 hs1 .i64 .i64 l.length (by omega) (by rw [hbb1]; omega) (by simp [maxLen]; omega) (Nat.le_refl _)
  rw [made_bool] at hown0
  have b0 : Below w.heap.size w W0 := (Below.refl _ w).grown hg0 (Nat.le_refl _) (fun b hb => by cases hb)
  have hT0 : Own encB 1 4 W0 w.heap.size (.slice (some ⟨w.heap.size, 0, none⟩) l.length l.length) (tkO l.length []) := by
    unfold Own
    rw [tkO_len, tkO_nil]; exact hown0
  have hts : w.heap.size < W0.heap.size := (hT0.blk w.heap.size rfl).2.1
  have hmk' : (Instr.makeSlice 71 (.int .i64 (l.length : Int)) (.int .i64 (l.length : Int))).run Try.prog w = .ok (.slice (some ⟨w.heap.size, 0, none⟩) l.length l.length) W0 := hmk
  have HR := Lib.hid (And.intro hA (And.intro hC (And.intro hok (And.intro hk0 hcs))))
  have H0 := Lib.hid (And.intro b0 (And.intro hT0 hts))
  obtain ⟨tb, htb⟩ : ∃ tb, w.heap.size = tb := ⟨_, rfl⟩
  rw [htb] at hmk' H0
  have HTB := Lib.hid htb
  clear hA hC hok hk0 hcs b0 hT0 hts hown0 hg0 hmk hi1 hz1 hs1 hbb1 i1 htb
  go_enter Try.func13, Try.ntmps13
  go_upto_region 4 with fail
  go_wp2_with fail
  go_loopg [7, 9, 10, 11, 12, 13, 14, 15, 16, 17, 23, 24, 25, 26, 27, 28, 29, 30, 31, 32, 33, 34, 35, 36, 37, 38, 39, 40, 41, 42, 43, 44, 45, 46, 47, 48, 49, 50, 51, 52, 53, 54, 55, 56, 57, 58, 59, 60, 61, 62, 63, 64, 65, 66, 67, 68, 69, 70, 71, 72, 73, 74, 75, 76, 77, 78, 79, 80, 81, 82, 83, 84, 85, 86, 87, 88, 89, 90] l.length (fun gk v7 v9 v10 v11 v12 v13 v14 v15 v16 v17 v23 v24 v25 v26 v27 v28 v29 v30 v31 v32 v33 v34 v35 v36 v37 v38 v39 v40 v41 v42 v43 v44 v45 v46 v47 v48 v49 v50 v51 v52 v53 v54 v55 v56 v57 v58 v59 v60 v61 v62 v63 v64 v65 v66 v67 v68 v69 v70 v71 v72 v73 v74 v75 v76 v77 v78 v79 v80 v81 v82 v83 v84 v85 v86 v87 v88 v89 v90 wr => ∃ (k : Nat) (o : List Nat) (S : Option Addr) (cp : Nat), k + gk = l.length ∧ v23 = .int .i64 (k : Int) ∧ o.length = k ∧ PermI l o ∧ v7 = .slice S k cp ∧ Own encN 1 3 wr (tb + 1) (.slice S k cp) o ∧ Own encB 1 4 wr tb (.slice (some ⟨tb, 0, none⟩) l.length l.length) (tkO l.length o) ∧ Below tb w wr ∧ tb < wr.heap.size)
  case atStart => exact ⟨0, [], none, 0, by omega, rfl, rfl, PermI.nil l, rfl, World.ownsRow_nil _ _ _ _, H0.out.2.1, H0.out.1, H0.out.2.2⟩
  case round =>
    obtain ⟨k, o, S, cp, hk, rfl, hol, hpi, rfl, hown, hT, hbl, hts⟩ := hrel
    have HK := Lib.hid (And.intro hol (And.intro hpi (And.intro hown (And.intro hT (And.intro hbl hts)))))
    clear H0 hmk'
    obtain ⟨g1, hg1⟩ : ∃ g1, g1 = gk := ⟨_, rfl⟩
    subst hg1
    obtain ⟨wo, hwo⟩ : ∃ wo, wo = wr := ⟨_, rfl⟩
    subst hwo
    by_cases hkl : k < l.length
    · have hd : decide (k < l.length) = true := decide_eq_true hkl
      have hfp := frF_pos l o hpi (by omega)
      have HF := Lib.hid hfp
      clear hol hpi hown hT hbl hts hfp
      go_upto_region 8 with fail
      go_wp2_with fail
      go_loopg [10, 11, 12, 13, 14, 15, 27, 28, 29, 30, 31, 32, 33, 34, 35, 36, 37, 38, 39, 40, 41, 42, 43, 44, 45, 46, 47, 48, 49, 50, 51, 52, 53, 54, 55, 56, 57, 58, 59, 60, 61, 62, 63] l.length (fun gk v10 v11 v12 v13 v14 v15 v27 v28 v29 v30 v31 v32 v33 v34 v35 v36 v37 v38 v39 v40 v41 v42 v43 v44 v45 v46 v47 v48 v49 v50 v51 v52 v53 v54 v55 v56 v57 v58 v59 v60 v61 v62 v63 wq => ∃ (j : Nat) (F : Option Addr) (cf : Nat), j + gk = l.length ∧ v27 = .int .i64 (j : Int) ∧ v10 = .slice F (frF l o j).length cf ∧ Own encN 1 3 wq wo.heap.size (.slice F (frF l o j).length cf) (frF l o j) ∧ Below wo.heap.size wo wq)
      case atStart => exact ⟨0, none, 0, by omega, rfl, rfl, World.ownsRow_nil _ _ _ _, Below.refl _ _⟩
      case round =>
        obtain ⟨j, F, cf, hj, rfl, rfl, hF, hbq⟩ := hrel
        obtain ⟨g2, hg2⟩ : ∃ g2, g2 = gk := ⟨_, rfl⟩
        subst hg2
        obtain ⟨wq, hwq⟩ : ∃ wq, wq = wr := ⟨_, rfl⟩
        subst hwq
        have hfl := frF_len l o j
        have hfs := frF_snoc l o j
        by_cases hjl : j < l.length
        · have hd2 : decide (j < l.length) = true := decide_eq_true hjl
          have hTq := (HK.out.2.2.2.1.rest hbq)
          obtain ⟨tc, tf⟩ := hTq.cell lenB (tkO_len _ _) j (by rw [tkO_len]; exact hjl) 0 _ rfl
          simp only [Nat.mul_one, Nat.add_zero, tkO_get] at tc
          have HQ := Lib.hid (And.intro hF (And.intro hbq (And.intro hfl hfs)))
          clear hF hbq hTq tf hfl hfs
          cases hjo : decide (j ∈ o) with
          | true =>
            rw [hjo] at tc
            have hfr : frP l o j = false := by unfold frP; rw [hjo]; rfl
            have HFR := Lib.hid hfr
            clear hfr hjo
            go_wp2_with fail
            go_roundg (g2 - 1)
            case measure => omega
            case rel =>
              have h3 := HQ.out.2.2.2
              rw [HFR.out, if_neg (by simp)] at h3
              exact ⟨j + 1, F, cf, by omega, by go_num, by rw [h3], by rw [h3]; exact HQ.out.1, HQ.out.2.1⟩
          | false =>
            rw [hjo] at tc
            have HJO := Lib.hid hjo
            clear hjo
            go_upto_region 13 with fail
            clear tc
            go_wp2_with fail
            go_loopg [12, 13, 14, 15, 35, 36, 37, 38, 39, 40, 41, 42, 43, 44, 45, 46, 47, 48, 49, 50, 51, 52, 53, 54, 55, 56, 57] l.length (fun gk v12 v13 v14 v15 v35 v36 v37 v38 v39 v40 v41 v42 v43 v44 v45 v46 v47 v48 v49 v50 v51 v52 v53 v54 v55 v56 v57 wp => ∃ (i : Nat), i + gk = l.length ∧ v35 = .int .i64 (i : Int) ∧ v12 = .bool true ∧ (∀ x, x < i → bfB l x j = true → x ∈ o) ∧ Below wq.heap.size wq wp)
            case atStart => exact ⟨0, by omega, rfl, rfl, fun x hx => by omega, Below.refl _ _⟩
            case round =>
              obtain ⟨i, hi, rfl, rfl, hall, hbp⟩ := hrel
              obtain ⟨wp, hwp⟩ : ∃ wp, wp = wr := ⟨_, rfl⟩
              subst hwp
              by_cases hil : i < l.length
              · have hd3 : decide (i < l.length) = true := decide_eq_true hil
                have hlw : Below tb w wp := HK.out.2.2.2.2.1.trans ((HQ.out.2.1.trans (hbp.mono HQ.out.2.1.size)).mono (Nat.le_of_lt HK.out.2.2.2.2.2))
                have hbc := Before_calls l HR.out.2.2.1 HR.out.2.2.2.1 i j hil hjl A c wp (HR.out.1.below (by rw [HTB.out]; exact hlw))
                have HB := Lib.hid hbc
                have HP := Lib.hid (And.intro hall hbp)
                clear hall hbp hbc hlw
                go_upto_region 17 with ((with_reducible refine (HB.out).mono ?_); rintro e w5 ⟨rfl, hb5⟩; have H5 := Lib.hid hb5; clear hb5)
                have h5 := HP.out.2.trans (H5.out.mono HP.out.2.size)
                obtain ⟨tc, tf⟩ := (HK.out.2.2.2.1.rest (HQ.out.2.1.trans (h5.mono HQ.out.2.1.size))).cell lenB (tkO_len _ _) i (by rw [tkO_len]; exact hil) 0 _ rfl
                simp only [Nat.mul_one, Nat.add_zero, tkO_get] at tc
                have HB5 := Lib.hid h5
                clear h5 tf
                cases hbf : bfB l i j with
                | false =>
                  have HBF := Lib.hid hbf
                  clear hbf
                  go_wp2_with fail
                  go_roundg (gk - 1)
                  case measure => omega
                  case rel => exact ⟨i + 1, by omega, by go_num, rfl, fun x hx hb => by
                    by_cases e : x = i
                    · subst e; rw [HBF.out] at hb; cases hb
                    · exact HP.out.1 x (by omega) hb, HB5.out⟩
                | true =>
                  have HBF := Lib.hid hbf
                  clear hbf
                  cases hio : decide (i ∈ o) with
                  | true =>
                    rw [hio] at tc
                    have HIO := Lib.hid (of_decide_eq_true hio)
                    clear hio
                    go_wp2_with fail
                    go_roundg (gk - 1)
                    case measure => omega
                    case rel => exact ⟨i + 1, by omega, by go_num, rfl, fun x hx hb => by
                      by_cases e : x = i
                      · subst e; exact HIO.out
                      · exact HP.out.1 x (by omega) hb, HB5.out⟩
                  | false =>
                    rw [hio] at tc
                    have hrd : frP l o j = false := by
                      unfold frP
                      rw [Bool.and_eq_false_iff]
                      right
                      rw [Bool.eq_false_iff]
                      intro h
                      exact of_decide_eq_false hio ((rdB_iff l o j).1 h i hil HBF.out)
                    have HRD := Lib.hid hrd
                    clear hio hrd
                    go_wp2_with fail
                    go_roundg (g2 - 1)
                    case measure => omega
                    case rel =>
                      have h3 := HQ.out.2.2.2
                      rw [HRD.out, if_neg (by simp)] at h3
                      exact ⟨j + 1, F, cf, by omega, by go_num, by rw [h3], by rw [h3]; exact HQ.out.1.rest HB5.out, HQ.out.2.1.trans (HB5.out.mono HQ.out.2.1.size)⟩
              · have hd3 : decide (i < l.length) = false := decide_eq_false hil
                have hrd : frP l o j = true := by
                  unfold frP
                  rw [HJO.out, Bool.not_false, Bool.true_and, rdB_iff]
                  exact fun x hx hb => hall x (by omega) hb
                have hFp := HQ.out.1.rest hbp
                have hq2 := HQ.out.2.1.trans (hbp.mono HQ.out.2.1.size)
                have hfl := HQ.out.2.2.1
                have hb6 : Below wp.heap.size wp (wp.alloc (.cells #[.int .i64 (j : Int)] 3)) := (Below.refl _ _).alloc (Nat.le_refl _) _
                have HU := Lib.hid (And.intro (hFp.rest hb6) (And.intro (hq2.trans (hb6.mono hq2.size)) (And.intro hrd (show ((frF l o j).length + 1) * 8 ≤ 140737488355328 by omega))))
                clear hrd hall hbp hFp hq2 hb6 hfl
                go_wp2_with (at_builtin; refine wpList_append_told lenN oneN _ rfl (.tmp 59) (.tmp 61) 33 rfl wo.heap.size 3 _ 8 Try.underlying33 info3 rfl (by decide) (by decide) (.slice F (frF l o j).length cf) (frF l o j) _ rfl rfl HU.out.1 ⟨wp.heap.size, 0, none⟩ 1 1 [j] rfl rfl (by decide) (rd_one encN 1 _ j 3 _ rfl _ rfl) HU.out.2.2.2 (HU.out.2.1.size) ?_; intro g3 cap3 w6 hown6 hgr6 hl6; have HG := Lib.hid (And.intro hown6 hgr6); clear hown6 hgr6 hl6)
                go_roundg (g2 - 1)
                case measure => omega
                case rel =>
                  have h3 := HQ.out.2.2.2
                  rw [HU.out.2.2.1, if_pos rfl] at h3
                  refine ⟨j + 1, some ⟨g3, 0, none⟩, cap3, by omega, by go_num, ?_, ?_, ?_⟩
                  · rw [h3, List.length_append]; rfl
                  · rw [h3, List.length_append]; exact HG.out.1
                  · exact HU.out.2.1.grown HG.out.2 HU.out.2.1.size (fun b hb => (HU.out.1.blk b hb).1)
        · have hd2 : decide (j < l.length) = false := decide_eq_false hjl
          obtain rfl : j = l.length := by omega
          obtain ⟨m, hm⟩ : ∃ m, (frF l o l.length).length = m := ⟨_, rfl⟩
          rw [hm] at hF
          have hm0 : 0 < m := by rw [← hm]; exact HF.out
          have hmz : (m == 0) = false := by rw [beq_eq_false_iff_ne]; omega
          have hmz2 : ((m : Int) == 0) = false := by rw [beq_eq_false_iff_ne]; omega
          have HM := Lib.hid (And.intro hm (And.intro hF (And.intro hbq hfl)))
          clear hF hbq hfl hfs
          rw [HM.out.1]
          go_upto_if 70 with fail
          go_cut [16] from 71 to 75 (fun s16 wx => (∃ ch : Nat, s16 = .int .i64 (ch : Int) ∧ ch ≤ 255) ∧ wx = wq)
          case first =>
            by_cases hkc : k < cs.length
            · have hd4 : decide (k < cs.length) = true := decide_eq_true hkc
              have hlw : Below w.heap.size w wq := by
                rw [HTB.out]
                exact HK.out.2.2.2.2.1.trans (HM.out.2.2.1.mono (Nat.le_of_lt HK.out.2.2.2.2.2))
              obtain ⟨ca, rfl, hca⟩ := (HR.out.2.1.below hlw).cell k hkc
              have hcc := hca 0 _ rfl
              rw [Nat.mul_one, Nat.add_zero] at hcc
              have h255 := HR.out.2.2.2.2 _ (List.getElem_mem hkc)
              generalize cs[k] = ch at *
              clear hca hlw
              go_wp2_with fail
              go_meet
              exact ⟨⟨ch, by go_num, h255⟩, rfl⟩
            · have hd4 : decide (k < cs.length) = false := decide_eq_false hkc
              go_wp2_with fail
              go_meet
              exact ⟨⟨0, rfl, by omega⟩, rfl⟩
          case rest =>
            obtain ⟨⟨ch, rfl, hch⟩, rfl⟩ := hcut
            obtain ⟨A', c', hv, hrd⟩ := HM.out.2.1.rd lenN
            obtain ⟨rfl, hmx, rfl⟩ := Value.slice.inj hv
            clear hmx
            obtain ⟨r, hr⟩ : ∃ r, ch % m = r := ⟨_, rfl⟩
            have hrm : r < m := by rw [← hr]; exact Nat.mod_lt _ hm0
            have hri : (ch : Int) % (m : Int) = (r : Int) := by rw [← hr]; rfl
            have hrl : r < (frF l o l.length).length := by rw [hm]; exact hrm
            obtain ⟨fa, rfl, hfc⟩ := hrd.cell r hrl
            have hfv := hfc 0 _ rfl
            rw [Nat.mul_one, Nat.add_zero] at hfv
            have hjm := List.getElem_mem hrl
            have hpj := HK.out.2.1.step _ hjm
            generalize (frF l o l.length)[r] = j at *
            have hjl2 : j < l.length := by
              unfold frF at hjm
              rw [List.mem_filter] at hjm
              simpa using hjm.1
            have hb1 := HM.out.2.2.1
            have hTq := HK.out.2.2.2.1.rest hb1
            have hOq := HK.out.2.2.1.rest hb1
            obtain ⟨_, tf⟩ := hTq.cell lenB (tkO_len _ _) j (by rw [tkO_len]; exact hjl2) 0 _ rfl
            have hTs := hTq.set lenB (tkO_len _ _) j (by rw [tkO_len]; exact hjl2) 0 (by decide) (.bool true) true rfl
            simp only [Nat.mul_one, Nat.add_zero, tkO_set] at tf hTs
            obtain ⟨tc, _⟩ := hTq.cell lenB (tkO_len _ _) j (by rw [tkO_len]; exact hjl2) 0 _ rfl
            simp only [Nat.mul_one, Nat.add_zero] at tc
            have hOb : ∀ b, (Value.slice S k cp).ownBlock = some b → tb + 1 ≤ b := fun b hb => (hOq.blk b hb).1
            have hOs := hOq.grown hTs.2 (by
              cases hq : (Value.slice S k cp).ownBlock with
              | none => exact .inl rfl
              | some b => right; intro e; have := hOb b hq; cases e; omega)
            obtain ⟨W7, hW7⟩ : ∃ W7, wc.setCell ⟨tb, j, none⟩ (.bool true) = W7 := ⟨_, rfl⟩
            have hl7 : Below tb w W7 := by rw [← hW7]; exact (HK.out.2.2.2.2.1.trans (hb1.mono (Nat.le_of_lt HK.out.2.2.2.2.2))).setCell (Nat.le_refl _) _
            rw [hW7] at hTs hOs
            have hsz7 : tb < W7.heap.size := (hTs.1.blk tb rfl).2.1
            have hb8 : Below W7.heap.size W7 (W7.alloc (.cells #[.int .i64 (j : Int)] 3)) := (Below.refl _ _).alloc (Nat.le_refl _) _
            have HV := Lib.hid (And.intro hpj (And.intro (hTs.1.rest hb8) (And.intro (hOs.rest hb8) (And.intro (hl7.trans (hb8.mono (Nat.le_of_lt hsz7))) (And.intro (show (k + 1) * 8 ≤ 140737488355328 by omega) (And.intro hOb (And.intro hsz7 hb8)))))))
            have hjj : (j : Int) < (l.length : Int) := by omega
            clear hm hv hrd hr hrl hfc hjm hpj hb1 hTq hOq hTs hOs hl7 hb8 hOb hsz7
            go_upto_region 30 with fail
            try rw [hW7]
            clear hW7 tc tf
            go_wp2_with (at_builtin; refine wpList_append_told lenN oneN _ rfl (.tmp 86) (.tmp 88) 33 rfl (tb + 1) 3 _ 8 Try.underlying33 info3 rfl (by decide) (by decide) (.slice S k cp) o k HK.out.1 rfl HV.out.2.2.1 ⟨W7.heap.size, 0, none⟩ 1 1 [j] rfl rfl (by decide) (rd_one encN 1 _ j 3 _ rfl _ rfl) HV.out.2.2.2.2.1 (Nat.le_trans HV.out.2.2.2.2.2.2.1 HV.out.2.2.2.2.2.2.2.size) ?_; intro g3 cap3 w6 hown6 hgr6 hl6; have HG := Lib.hid (And.intro hown6 hgr6); clear hown6 hgr6 hl6)
            go_roundg (g1 - 1)
            case measure => omega
            case rel =>
              refine ⟨k + 1, o ++ [j], some ⟨g3, 0, none⟩, cap3, by omega, by go_num, by rw [List.length_append, HK.out.1]; rfl, HV.out.1, rfl, HG.out.1, ?_, ?_, ?_⟩
              · refine HV.out.2.1.grown HG.out.2 (.inr ?_)
                intro e
                have := HV.out.2.2.2.2.2.1 tb e.symm
                omega
              · exact HV.out.2.2.2.1.grown HG.out.2 (Nat.le_trans (Nat.le_of_lt HV.out.2.2.2.2.2.2.1) HV.out.2.2.2.2.2.2.2.size) (fun b hb => by have := HV.out.2.2.2.2.2.1 b hb; omega)
              · exact Nat.lt_of_lt_of_le HV.out.2.2.2.2.2.2.1 (Nat.le_trans HV.out.2.2.2.2.2.2.2.size HG.out.2.size)
    · have hd : decide (k < l.length) = false := decide_eq_false hkl
      obtain rfl : k = l.length := by omega
      have HE := Lib.hid (And.intro (hown.down (show tb ≤ tb + 1 by omega)) (And.intro hpi (And.intro hol hbl)))
      clear hown hT hol hpi hbl hts
      go_wp2_with fail
      go_ret2
      refine ⟨o, _, rfl, ?_, HE.out.2.1, HE.out.2.2.1, ?_⟩
      · rw [HTB.out]; exact HE.out.1
      · rw [HTB.out]; exact HE.out.2.2.2
end Go.Proofs.Ythebembnlmddoaa
