import Derived.Test.YthccnaemocdcbaaN
namespace Go.Proofs.Ythccnaemocdcbaa
open Go.RowKit Ieee
set_option maxHeartbeats 4000000
set_option maxRecDepth 100000
set_option linter.unusedSimpArgs false
set_option linter.unusedVariables false

/-- a row of complex numbers of the call's own -/
structure CI (w : World) (n g cap : Nat) (us : List Value) (F : Nat → G) (wr : World) : Prop where
  len : us.length = n
  own : Own encO 1 27 wr w.heap.size (.slice (some ⟨g, 0, none⟩) n cap) us
  low : Below w.heap.size w wr
  val : ∀ j (h : j < us.length), Cx .f64 us[j] (F j)
theorem CI.block {w : World} {n g cap : Nat} {us : List Value} {F : Nat → G} {wr : World} (h : CI w n g cap us F wr) : w.heap.size ≤ g ∧ g < wr.heap.size := by
  have := h.own.blk g rfl; omega
theorem CI.cell {w : World} {n g cap : Nat} {us : List Value} {F : Nat → G} {wr : World} (h : CI w n g cap us F wr) (i : Nat) (hi : i < us.length) : wr.cell? ⟨g, i, none⟩ = some us[i] ∧ wr.frozen? ⟨g, i, none⟩ = false := by
  have := h.own.cell lenO h.len i hi 0 us[i] rfl
  simpa using this
theorem CI.rest {w : World} {n g cap : Nat} {us : List Value} {F : Nat → G} {wr wx : World} (h : CI w n g cap us F wr) (hb : Below wr.heap.size wr wx) : CI w n g cap us F wx :=
  ⟨h.len, h.own.rest hb, h.low.trans (hb.mono h.low.size), h.val⟩
theorem CI.set {w : World} {n g cap : Nat} {us : List Value} {F F' : Nat → G} {wr : World} (h : CI w n g cap us F wr) (i : Nat) (hi : i < us.length) (v : Value) (hF : ∀ j, j < us.length → i ≠ j → F' j = F j) (hv : Cx .f64 v (F' i)) : CI w n g cap (us.set i v) F' (wr.setCell ⟨g, i, none⟩ v) ∧ wr.grownBy (wr.setCell ⟨g, i, none⟩ v) (some g) := by
  have hb := h.block
  have hs := h.own.set lenO h.len i hi 0 (by decide) v v rfl
  simp only [Nat.mul_one, Nat.add_zero] at hs
  refine ⟨⟨by rw [List.length_set]; exact h.len, hs.1, h.low.grown hs.2 h.low.size (fun b hb' => by cases hb'; omega), fun j hj => ?_⟩, hs.2⟩
  rw [List.length_set] at hj
  rw [List.getElem_set]
  split
  · rename_i e'; subst e'; exact hv
  · rename_i e'; rw [hF j hj e']; exact h.val j hj
theorem rd_far {wr wx : World} {g g2 : Nat} {zs : List G} (h : Rd (encG .f64) 1 wr (some ⟨g2, 0, none⟩) zs) (hg : wr.grownBy wx (some g)) (hne : g2 ≠ g) : Rd (encG .f64) 1 wx (some ⟨g2, 0, none⟩) zs :=
  ⟨h.small, fun k hk => by
    obtain ⟨a, ha, hc⟩ := h.cell k hk
    cases ha
    refine ⟨_, rfl, fun j v hv => hg.cell (hc j v hv) (fun e => hne ?_)⟩
    have := Option.some.inj e
    rw [← this]
    unfold Addr.add; split <;> rfl⟩
/-- the words of a number -/
def bitsOf (v : Value) : Nat × Nat := match v with | .complex _ r i => (r, i) | _ => (0, 0)
theorem bits_of {us : List Value} {F : Nat → G} (h : ∀ j (hj : j < us.length), Cx .f64 us[j] (F j)) : (us.map bitsOf).map mkB = us := by
  apply List.ext_getElem
  · simp
  · intro j h1 h2
    obtain ⟨r, i, e, _⟩ := h j h2
    simp [e, bitsOf]

theorem convolve_calls (a b cs : List G) (m : Nat) (hm : m ≤ 2) (ha : a.length = 4 ^ m) (hb : b.length = 4 ^ m) (hga : ∀ z ∈ a, gb 20 z) (hgb : ∀ z ∈ b, gb 20 z) (hcl : cs.length = 4 ^ m) (hgc : ∀ z ∈ cs, gb 12800 z)
    (hc : tr true m (prods (tr false m a) (tr false m b)) = cs.map (gsc ((4 ^ m : Nat) : Int))) (A B : Option Addr) (ca cb : Nat) (w : World) (hA : Rd (encG .f64) 1 w A a) (hB : Rd (encG .f64) 1 w B b) :
    Calls Try.prog 12 #[.slice A (4 ^ m : Nat) ca, .slice B (4 ^ m : Nat) cb] w (TPost .f64 27 cs w) := by
  have h16 : 4 ^ m ≤ 16 := by
    have : m = 0 ∨ m = 1 ∨ m = 2 := by omega
    rcases this with rfl | rfl | rfl <;> decide
  have hn0 : 0 < 4 ^ m := Nat.pow_pos (by decide)
  have h1 := length_calls m (by omega) (4 ^ m) rfl
  have h2 := wholes_calls A a ca 4636737291354636288 100 c100.1 c100.2 (fun z h => ⟨Nat.le_trans (hga z h).1 (by decide), Nat.le_trans (hga z h).2 (by decide)⟩) (by unfold small; decide) (by decide) w hA
  have h3 := fun w' (hb' : Below w.heap.size w w') => wholes_calls B b cb 4636737291354636288 100 c100.1 c100.2 (fun z h => ⟨Nat.le_trans (hgb z h).1 (by decide), Nat.le_trans (hgb z h).2 (by decide)⟩) (by unfold small; decide) (by decide) w' (hB.below hb')
  have h4 := fun w' (hb' : Below w.heap.size w w') => tr28_calls false a m (by omega) ha 20 (by omega) hga A ca w' (hA.below hb')
  have h5 := fun w' (hb' : Below w.heap.size w w') => tr28_calls false b m (by omega) hb 20 (by omega) hgb B cb w' (hB.below hb')
  have gta := gb_tr false m a 20 hga
  have gtb := gb_tr false m b 20 hgb
  have lta := tr_len false m a
  have ltb := tr_len false m b
  generalize tr false m a = ta at h4 gta lta hc
  generalize tr false m b = tb at h5 gtb ltb hc
  have lpr : (prods ta tb).length = 4 ^ m := by unfold prods; simp [lta, ltb]
  have hpz : ∀ j, j < 4 ^ m → zfun (prods ta tb) j = gmul (zfun ta j) (zfun tb j) := fun j hj => by
    simp [zfun, prods, lta, ltb, hj]
  have gpr : ∀ z ∈ prods ta tb, gb (2 * (320 * 320)) z := fun z hz => by
    obtain ⟨j, hj, rfl⟩ := List.mem_iff_getElem.1 hz
    have hj' : j < 4 ^ m := by rw [← lpr]; exact hj
    have q1 := gta ta[j] (List.getElem_mem (by rw [lta]; exact hj'))
    have q2 := gtb tb[j] (List.getElem_mem (by rw [ltb]; exact hj'))
    have e : (prods ta tb)[j] = gmul ta[j] tb[j] := by simp [prods]
    rw [e]
    exact gb_gmul ⟨Nat.le_trans q1.1 (by omega), Nat.le_trans q1.2 (by omega)⟩ ⟨Nat.le_trans q2.1 (by omega), Nat.le_trans q2.2 (by omega)⟩
  have h6 := fun w' bs (hbl : bs.length = (prods ta tb).length) (hcx : ∀ j (h : j < bs.length), Cx .f64 (.complex .f64 bs[j].1 bs[j].2) (zfun (prods ta tb) j)) A' c' (hx : Rd encB 1 w' A' bs) => trB28_calls true bs (prods ta tb) hbl hcx m (by omega) lpr (2 * (320 * 320)) (by omega) gpr A' c' w' hx
  rw [hc] at h6
  have gta' : ∀ j, gb 320 (zfun ta j) := zfun_gb (fun z hz => ⟨Nat.le_trans (gta z hz).1 (by omega), Nat.le_trans (gta z hz).2 (by omega)⟩)
  have gtb' : ∀ z ∈ tb, gb 320 z := fun z hz => ⟨Nat.le_trans (gtb z hz).1 (by omega), Nat.le_trans (gtb z hz).2 (by omega)⟩
  rw [ha] at h2
  simp only [hb] at h3
  obtain ⟨n, hn⟩ : ∃ n, 4 ^ m = n := ⟨_, rfl⟩
  simp only [hn] at h1 h2 h3 h4 h5 h6 h16 hn0 lta ltb lpr hpz hcl
  rw [hn]
  have H1 := Lib.hid h1
  have H2 := Lib.hid h2
  have H3 := Lib.hid h3
  have H4 := Lib.hid h4
  have H5 := Lib.hid h5
  have H6 := Lib.hid h6
  have HT := Lib.hid (And.intro lta (And.intro ltb (And.intro lpr (And.intro hpz (And.intro gta' (And.intro gtb' (And.intro hcl hgc)))))))
  clear h1 h2 h3 h4 h5 h6 gta gtb lta ltb lpr hpz gpr gta' gtb' hcl hgc hc hA hB hga hgb ha hb hn hm
  go_enter Try.func12, Try.ntmps12
  go_wp2_with fail
  (with_reducible refine (H1.out _).mono ?_); rintro e w1 ⟨rfl, rfl⟩
  go_wp2_with fail
  (with_reducible refine (H2.out).mono ?_); rintro e w2 ⟨rfl, hb2⟩
  have HB2 := Lib.hid hb2
  clear hb2
  go_wp2_with fail
  (with_reducible refine (H3.out w2 HB2.out).mono ?_); rintro e w3 ⟨rfl, hb3⟩
  have HB3 := Lib.hid (HB2.out.trans (hb3.mono HB2.out.size))
  clear hb3
  go_wp2_with fail
  (with_reducible refine (H4.out w3 HB3.out).mono ?_); rintro e w4 ⟨v1, rfl, hown1, hb4⟩
  have HB4 := Lib.hid (HB3.out.trans (hb4.mono HB3.out.size))
  have HO1 := Lib.hid hown1
  clear hb4 hown1
  go_wp2_with fail
  (with_reducible refine (H5.out w4 HB4.out).mono ?_); rintro e w5 ⟨v2, rfl, hown2, hb5⟩
  obtain ⟨g1, k1, rfl, hci⟩ : ∃ g k, v1 = .slice (some ⟨g, 0, none⟩) n k ∧ CI w n g k (ta.map (fun z => Value.complex .f64 (can .f64 z.1) (can .f64 z.2))) (zfun ta) w5 := by
    have h0 := HO1.out.rest hb5
    rcases h0.2 with ⟨_, hn0'⟩ | ⟨g, cap, cur, rfl, _⟩
    · have := HT.out.1; omega
    · refine ⟨g, cap, by rw [HT.out.1], ?_⟩
      have ho := h0.vals.base (b' := w.heap.size) HB3.out.size
      rw [HT.out.1] at ho
      refine ⟨by rw [List.length_map]; exact HT.out.1, ho, HB4.out.trans (hb5.mono HB4.out.size), fun j hj => ?_⟩
      rw [List.length_map] at hj
      have e : zfun ta j = ta[j] := by simp [zfun, hj]
      rw [e, List.getElem_map]
      exact Cx.can _ _
  obtain ⟨g2, k2, rfl, hne, hrd2⟩ : ∃ g k, v2 = .slice (some ⟨g, 0, none⟩) n k ∧ g ≠ g1 ∧ Rd (encG .f64) 1 w5 (some ⟨g, 0, none⟩) tb := by
    rcases hown2.2 with ⟨_, hn0'⟩ | ⟨g, cap, cur, rfl, hg, _⟩
    · have := HT.out.2.1; omega
    · obtain ⟨A', c', e, hr⟩ := hown2.rd lenG
      obtain ⟨rfl, hx0, rfl⟩ := Value.slice.inj e
      have hb1 := (HO1.out.blk g1 rfl).2.1
      exact ⟨g, cap, by rw [HT.out.2.1], by omega, hr⟩
  have HC := Lib.hid (And.intro hci (And.intro hne hrd2))
  clear hown2 hb5 hci hne hrd2
  go_wp2_with fail
  go_loopg [8, 38, 39, 40, 41, 42, 43, 44, 45, 46, 47, 48, 49, 50, 51] n (fun gk v8 v38 v39 v40 v41 v42 v43 v44 v45 v46 v47 v48 v49 v50 v51 wr => ∃ (i : Nat) (us : List Value), i + gk = n ∧ v38 = .int .i64 (i : Int) ∧ CI w n g1 k1 us (fun j => if j < i then zfun (prods ta tb) j else zfun ta j) wr ∧ Rd (encG .f64) 1 wr (some ⟨g2, 0, none⟩) tb)
  case atStart => exact ⟨0, _, by omega, rfl, by simpa using HC.out.1, HC.out.2.2⟩
  case round =>
    obtain ⟨i, us, hi, rfl, hci, hrd⟩ := hrel
    by_cases hin : i < n
    · have hb1 : decide (i < n) = true := decide_eq_true hin
      have hiu : i < us.length := by rw [hci.len]; exact hin
      have hit : i < tb.length := by rw [HT.out.2.1]; exact hin
      obtain ⟨q1, q2⟩ := hci.cell i hiu
      obtain ⟨a', ea, q3⟩ := hrd.g i hit
      cases ea
      rw [show (⟨g2, 0, none⟩ : Addr).add i = ⟨g2, i, none⟩ from add_at _ _] at q3
      have hv0 := hci.val i hiu
      rw [if_neg (by omega)] at hv0
      have e2 : zfun tb i = tb[i] := by simp [zfun, hit]
      obtain ⟨v, hv, hmul⟩ := run_cmul (M := 320) (N := 320) hv0 (Cx.can .f64 tb[i]) (HT.out.2.2.2.2.1 i) (HT.out.2.2.2.2.2.1 _ (List.getElem_mem hit)) (by decide) (by decide) (by decide) 27
      rw [← e2, ← HT.out.2.2.2.1 i hin] at hv
      obtain ⟨r1, m1, hr1, _⟩ := hv0
      obtain ⟨r2, m2, rfl, hf1, hf2⟩ := hv
      have hset := hci.set i hiu (.complex .f64 r2 m2) (F' := fun j => if j < i + 1 then zfun (prods ta tb) j else zfun ta j) (fun j _ hne => by
        by_cases h9 : j < i
        · rw [if_pos h9, if_pos (by omega)]
        · rw [if_neg h9, if_neg (by omega)]) (by rw [if_pos (by omega)]; exact ⟨r2, m2, rfl, hf1, hf2⟩)
      have hrd' := rd_far hrd hset.2 HC.out.2.1
      rw [hr1] at q1 hmul
      have HS := Lib.hid (And.intro hset.1 hrd')
      generalize can .f64 tb[i].1 = r3 at q3 hmul
      generalize can .f64 tb[i].2 = m3 at q3 hmul
      clear hset hrd' hci hrd hf1 hf2 e2 hr1
      go_upto_region 11 with fail
      go_region_with (fail)
      all_goals (
        go_wp2_with fail
        go_roundg (gk - 1)
        case measure => omega
        case rel => exact ⟨i + 1, _, by omega, by go_num, HS.out.1.rest (Below.refl _ _).drew, HS.out.2.below (Below.refl _ _).drew⟩)
    · have hb1 : decide (i < n) = false := decide_eq_false hin
      obtain rfl : i = n := by omega
      have hval : ∀ j (hj : j < us.length), Cx .f64 us[j] (zfun (prods ta tb) j) := fun j hj => by
        have := hci.val j hj
        rwa [if_pos (by rw [← hci.len]; exact hj)] at this
      have hbb := bits_of hval
      have hbs : Rd encB 1 wr (some ⟨g1, 0, none⟩) (us.map bitsOf) := by
        have ho := hci.own
        rw [← hbb] at ho
        have ho2 : Own encB 1 27 wr w.heap.size (.slice (some ⟨g1, 0, none⟩) i k1) (us.map bitsOf) := by
          unfold Own at ho ⊢
          rw [List.length_map, List.flatMap_map] at ho
          rw [List.length_map] at ho ⊢
          exact ho
        obtain ⟨A', c', e, hr⟩ := ho2.rd lenB
        obtain ⟨rfl, hx0, rfl⟩ := Value.slice.inj e
        exact hr
      have hcx : ∀ j (hj : j < (us.map bitsOf).length), Cx .f64 (.complex .f64 (us.map bitsOf)[j].1 (us.map bitsOf)[j].2) (zfun (prods ta tb) j) := fun j hj => by
        have hj' : j < us.length := by simpa using hj
        have h9 := hval j hj'
        obtain ⟨r, im, e, h10⟩ := h9
        refine ⟨r, im, ?_, h10⟩
        rw [List.getElem_map, e]; rfl
      have h6 := H6.out wr (us.map bitsOf) (by rw [List.length_map, hci.len, HT.out.2.2.1]) hcx _ k1 hbs
      have H7 := Lib.hid h6
      have HLW := Lib.hid hci.low
      clear hval hbb hbs hcx h6 hci hrd
      go_upto_region 13 with fail
      go_wp2_with fail
      (with_reducible refine (H7.out).mono ?_); rintro e w6 ⟨v3, rfl, hown3, hb6⟩
      obtain ⟨g3, k3, rfl, hci3⟩ : ∃ g k, v3 = .slice (some ⟨g, 0, none⟩) i k ∧ CI w i g k ((cs.map (gsc (i : Int))).map (fun z => Value.complex .f64 (can .f64 z.1) (can .f64 z.2))) (fun j => gsc (i : Int) (zfun cs j)) w6 := by
        have h0 := hown3
        rcases h0.2 with ⟨_, hn0'⟩ | ⟨g, cap, cur, rfl, _⟩
        · rw [List.length_map] at hn0'; have := HT.out.2.2.2.2.2.2.1; omega
        · refine ⟨g, cap, by rw [List.length_map, HT.out.2.2.2.2.2.2.1], ?_⟩
          have ho := h0.vals.base (b' := w.heap.size) HLW.out.size
          rw [List.length_map, HT.out.2.2.2.2.2.2.1] at ho
          refine ⟨by rw [List.length_map, List.length_map]; exact HT.out.2.2.2.2.2.2.1, ho, HLW.out.trans (hb6.mono HLW.out.size), fun j hj => ?_⟩
          rw [List.length_map, List.length_map] at hj
          have e : zfun cs j = cs[j] := by simp [zfun, hj]
          simp only [e, List.getElem_map]
          exact Cx.can _ _
      have HC3 := Lib.hid hci3
      clear hown3 hb6 hci3
      go_wp2_with fail
      go_loopg [9, 10, 11, 56, 57, 58, 59, 60, 61, 62, 63, 64, 65, 66, 67, 68, 69, 70, 71, 72, 73, 74, 75, 76] i (fun gk v9 v10 v11 v56 v57 v58 v59 v60 v61 v62 v63 v64 v65 v66 v67 v68 v69 v70 v71 v72 v73 v74 v75 v76 wx => ∃ (j : Nat) (us : List Value), j + gk = i ∧ v56 = .int .i64 (j : Int) ∧ CI w i g3 k3 us (fun q => if q < j then zfun cs q else gsc (i : Int) (zfun cs q)) wx)
      case atStart => exact ⟨0, _, by omega, rfl, by simpa using HC3.out⟩
      case round =>
        obtain ⟨j, us, hj, rfl, hci⟩ := hrel
        by_cases hji : j < i
        · have hb2 : decide (j < i) = true := decide_eq_true hji
          have hju : j < us.length := by rw [hci.len]; exact hji
          obtain ⟨q1, q2⟩ := hci.cell j hju
          have hv0 := hci.val j hju
          rw [if_neg (by omega)] at hv0
          obtain ⟨r1, m1, hr1, hf1, hf2⟩ := hv0
          rw [hr1] at q1
          have hgz : gb 12800 (zfun cs j) := zfun_gb HT.out.2.2.2.2.2.2.2 j
          have hp1 := abs_mul_le (x := (i : Int)) (M := 16) (by omega) hgz.1
          have hp2 := abs_mul_le (x := (i : Int)) (M := 16) (by omega) hgz.2
          obtain ⟨d1, hd1, hg1⟩ := Fc.div ok_double (by omega) hf1 (can_fc .f64 (i : Int)) (by have := hgz.1; unfold small; omega) (by unfold small; omega) (by unfold small; omega)
          obtain ⟨d2, hd2, hg2⟩ := Fc.div ok_double (by omega) hf2 (can_fc .f64 (i : Int)) (by have := hgz.2; unfold small; omega) (by unfold small; omega) (by unfold small; omega)
          have hd1' : FloatKind.f64.format.div r1 (floatOfInt .f64 (i : Int)) = some d1 := hd1
          have hd2' : FloatKind.f64.format.div m1 (floatOfInt .f64 (i : Int)) = some d2 := hd2
          have hrd1 := fun w => run_float_arith (P := Try.prog) w .quo 28 .f64 _ _ d1 hd1'
          have hrd2 := fun w => run_float_arith (P := Try.prog) w .quo 28 .f64 _ _ d2 hd2'
          have hset := hci.set j hju (.complex .f64 d1 d2) (F' := fun q => if q < j + 1 then zfun cs q else gsc (i : Int) (zfun cs q)) (fun q _ hne => by
            by_cases h9 : q < j
            · rw [if_pos h9, if_pos (by omega)]
            · rw [if_neg h9, if_neg (by omega)]) (by rw [if_pos (by omega)]; exact ⟨d1, d2, rfl, hg1, hg2⟩)
          have HS := Lib.hid hset.1
          clear hset hci hf1 hf2 hg1 hg2 hgz hp1 hp2 hr1 hd1 hd2
          go_wp2_with fail
          go_roundg (gk - 1)
          case measure => omega
          case rel => exact ⟨j + 1, _, by omega, by go_num, HS.out⟩
        · have hb2 : decide (j < i) = false := decide_eq_false hji
          have hps := positive33_calls us i hci.len (zfun cs) 12800 (by decide) (fun q hq => ⟨by
            have := hci.val q hq
            rwa [if_pos (by have := hci.len; omega)] at this, zfun_gb HT.out.2.2.2.2.2.2.2 q⟩) w.heap.size g3 k3 wr hci.own (by omega)
          have HPS := Lib.hid hps
          have HC4 := Lib.hid hci
          clear hps hci
          go_wp2_with fail
          (with_reducible refine (HPS.out).mono ?_); rintro e w9 ⟨rfl, hown, hg⟩
          have HO := Lib.hid (And.intro hown hg)
          clear hown hg
          go_wp2_with fail
          refine bodyPost_ret (by simp [results, Try.results12, go_sem]; try rfl) rfl ?_
          have hbk := HC4.out.block
          have el : (List.range i).map (zfun cs) = cs := by
            apply List.ext_getElem
            · rw [List.length_map, List.length_range]; exact HT.out.2.2.2.2.2.2.1.symm
            · intro q h1 h2
              rw [List.getElem_map, List.getElem_range]
              simp [zfun, h2]
          have ho := HO.out.1
          rw [el] at ho
          exact ⟨_, rfl, ho, HC4.out.low.grown HO.out.2 HC4.out.low.size (fun b hb => by cases hb; omega)⟩
end Go.Proofs.Ythccnaemocdcbaa
