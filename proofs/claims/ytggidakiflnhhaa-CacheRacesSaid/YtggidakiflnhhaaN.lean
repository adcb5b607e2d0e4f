import Derived.Test.YtggidakiflnhhaaM
namespace Go.Proofs.Ytggidakiflnhhaa
open Go.RowKit
set_option maxHeartbeats 8000000
set_option maxRecDepth 100000
set_option linter.unusedSimpArgs false
set_option linter.unusedVariables false

theorem home_calls (c : Cf) (hok : cfOk c) (x : Nat) (hx : x ≤ 100000) (w : World) : Calls Try.prog 33 #[c.val, .int .i64 (x : Int)] w fun y w' => y = .returned (.int .i64 (hmF c x)) ∧ Below w.heap.size w w' := by
  have hb : Below w.heap.size w (w.alloc (.cells c.cells 25)) := (Below.refl _ w).alloc (Nat.le_refl _) _
  have HB := Lib.hid hb
  obtain ⟨o1, o2, o3, o4, o5, o6, o7, o8, o9⟩ := hok
  have hq : (0 : Int) ≤ (x : Int) * c.L := Int.mul_nonneg (by omega) (by omega)
  have hq2 : (x : Int) * c.L ≤ 100000 * 8 := Int.mul_le_mul (by omega) (by omega) (by omega) (by omega)
  have w1 : IntKind.i64.wrap ((x : Int) * c.L) = (x : Int) * c.L := by rw [IntKind.wrap_i64]; omega
  have w2 : wrap64 ((x : Int) * c.L) = (x : Int) * c.L := wrap64_fit _ (by omega)
  have hd : 1 ≤ c.W / 4 := by omega
  have hd2 : c.W / 4 ≤ 64 := by omega
  have HE := Lib.hid (show hmF c x = (x : Int) * c.L / (c.W / 4) from rfl)
  clear hb
  generalize hm : (x : Int) * c.L = m at *
  go_enter Try.func33, Try.ntmps33
  go_wp2_with fail
  go_ret
  exact ⟨ret_int (by rw [HE.out]), HB.out⟩
theorem track {c : Cf} {xs ys : List Nat} {es1 es2 : List En} {p b : Nat} {e f : En} (h1 : es1.length = xs.length) (h2 : es2.length = ys.length) (hs : (ys.length : Int) + 1 < c.N) :
    ∃ xs' es1', evL c (xs ++ p :: ys) ++ [b] = xs' ++ p :: (ys ++ [b]) ∧ evL c (es1 ++ e :: es2) ++ [f] = es1' ++ e :: (es2 ++ [f]) ∧ es1'.length = xs'.length := by
  unfold evL
  by_cases hf : ((xs ++ p :: ys).length : Int) = c.N
  · have hf2 : ((es1 ++ e :: es2).length : Int) = c.N := by
      rw [← hf]; simp [h1, h2]
    rw [if_pos hf, if_pos hf2]
    cases xs with
    | nil => simp at hf; omega
    | cons a xs =>
      cases es1 with
      | nil => simp at h1
      | cons g es1 => exact ⟨xs, es1, by simp, by simp, by simpa using h1⟩
  · have hf2 : ¬ ((es1 ++ e :: es2).length : Int) = c.N := fun h => hf (by rw [← h]; simp [h1, h2])
    rw [if_neg hf, if_neg hf2]
    exact ⟨xs, es1, by simp, by simp, h1⟩
theorem entF_eq (c : Cf) (A : AS) (k : Nat) (es : List En) (x i : Nat) (hi : i = (evL c es).length) :
    ({ entA c A k es x with f := (entA c A k es x).f + 1, cs := (entA c A k es x).cs.set k ((evL c es ++ [newE x]).set i (ftE (entA c A k es x).m (newE x))) } : AS) = entF c A k es x := by
  subst hi
  have h1 := evA_f c A k es
  unfold entF entA
  simp only [List.set_set, h1]
  congr 2
  rw [List.set_append_right _ _ (Nat.le_refl _), Nat.sub_self]
  rfl
def AhPost (c : Cf) (bs bm bc base : Nat) (vv : Value) (A : AS) (k x : Nat) (p : Nat) (e : En) (w : World) (y : Ending) (w' : World) : Prop :=
  y = .returned (.tuple #[]) ∧ Bel base w w' ∧ ∃ sv ps xs ys es1 es2, Sys c bs bm bc base none sv vv ps (aheadA c k x A) w' ∧ ps[k]? = some (xs ++ p :: ys) ∧ (aheadA c k x A).cs[k]? = some (es1 ++ e :: es2) ∧ es1.length = xs.length
theorem ahead_calls {c : Cf} {bs bm bc base : Nat} {sv : List Value} {vv : Value} {ps : List (List Nat)} {A : AS} {w : World} (h : Sys c bs bm bc base none sv vv ps A w) (hA : Ok c A) (hn : cnt A ≤ 900000000)
    {k x p : Nat} {l : List Nat} {es : List En} {e : En} (hk : ps[k]? = some (l ++ [p])) (hc : A.cs[k]? = some (es ++ [e])) (hx : (x : Int) < c.W / 4) :
    Calls Try.prog 60 #[ptr bs, .int .i64 (k : Int), .int .i64 (x : Int)] w (AhPost c bs bm bc base vv A k x p e w) := by
  have hok := hA.cf
  obtain ⟨o1, o2, o3, o4, o5, o6, o7, o8, o9⟩ := hok
  have hle : es.length = l.length := by have := h.le _ _ _ hk hc; simpa using this
  have hN : (ahN c : Int) = min c.H (c.N - 1) := by unfold ahN; omega
  have hhm := fun x hx w => home_calls c hA.cf x hx w
  have HQ := Lib.hid (And.intro h (And.intro hA (And.intro hn (And.intro hk (And.intro hc (And.intro hle hhm))))))
  have HP := Lib.hid (And.intro hN hA.cf)
  clear h hA hn hk hc hle hN hhm
  go_enter Try.func60, Try.ntmps60
  go_wp2_with fail
  go_loopg [6, 7, 8, 9, 10, 11, 12, 13, 14, 15, 16, 17, 18, 19, 20, 21, 22, 23, 24, 25, 26, 27, 28, 29, 30, 31, 32, 33, 34, 35, 36, 37, 38, 39, 40, 41, 42, 43, 44, 45, 46, 47, 48, 49, 50, 51, 52, 53, 54, 55, 56, 57] (ahN c) (fun gk v6 v7 v8 v9 v10 v11 v12 v13 v14 v15 v16 v17 v18 v19 v20 v21 v22 v23 v24 v25 v26 v27 v28 v29 v30 v31 v32 v33 v34 v35 v36 v37 v38 v39 v40 v41 v42 v43 v44 v45 v46 v47 v48 v49 v50 v51 v52 v53 v54 v55 v56 v57 wr => ∃ (i : Nat) (sv : List Value) (ps : List (List Nat)) (Ai : AS) (xs ys : List Nat) (es1 es2 : List En), i + gk = ahN c ∧ v6 = .int .i64 ((i + 1 : Nat) : Int) ∧ Ai = (List.range i).foldl (ahS c k x) A ∧ Sys c bs bm bc base none sv vv ps Ai wr ∧ Ok c Ai ∧ cnt Ai ≤ cnt A + 2 * i ∧ ps[k]? = some (xs ++ p :: ys) ∧ Ai.cs[k]? = some (es1 ++ e :: es2) ∧ es1.length = xs.length ∧ ys.length ≤ i ∧ Bel base w wr)
  case atStart => exact ⟨0, sv, ps, A, l, [], es, [], by omega, by go_num, rfl, HQ.out.1, HQ.out.2.1, by omega, HQ.out.2.2.2.1, HQ.out.2.2.2.2.1, HQ.out.2.2.2.2.2.1, Nat.le_refl _, Bel.refl _ _⟩
  case round =>
    obtain ⟨i, sv, ps, Ai, xs, ys, es1, es2, hi, rfl, hAi, hs, hok, hcn, hps, hcs, hl1, hl2, hb⟩ := hrel
    obtain ⟨s0, s1, s2, s3, s4, s5, s6, s7, s8, s9, s10⟩ := hs.ten
    have hN := HP.out.1
    have HX := Lib.hid (And.intro hAi (And.intro hs (And.intro hok (And.intro hcn (And.intro hps (And.intro hcs (And.intro hl1 (And.intro hl2 hb))))))))
    clear hAi hs hok hcn hps hcs hl1 hl2 hb s4 s5 s6 s7 s8 s9 s10
    have hmin : (if c.N - 1 < c.H then c.N - 1 else c.H) = (ahN c : Int) := by rw [hN]; split <;> omega
    obtain ⟨n, hn⟩ : ∃ n, x + (i + 1) = n := ⟨_, rfl⟩
    have hn1 : (x : Int) + ((i : Int) + 1) = (n : Int) := by omega
    have hn2 : (x : Int) + ((i + 1 : Nat) : Int) = (n : Int) := by omega
    have HN := Lib.hid hn
    clear hn hN
    by_cases hlt : i < ahN c
    · have d1 : decide ((i : Int) + 1 ≤ (ahN c : Int)) = true := decide_eq_true (by omega)
      have d1' : (i : Int) + 1 ≤ (ahN c : Int) := by omega
      have HL := Lib.hid hlt
      clear hlt
      go_upto_region 1 with fail
      go_quiet (fail)
      by_cases hc1 : (n : Int) < c.W / 4
      · have d2 : decide ((n : Int) < c.W / 4) = true := decide_eq_true hc1
        have hn3 : n ≤ 100000 := by omega
        have HC := Lib.hid hc1
        clear hc1
        go_upto_region 4 with fail
        obtain ⟨Wq, hWq⟩ : ∃ W, wr.drewN nq = W := ⟨_, rfl⟩
        have hbq : Below wr.heap.size wr Wq := by rw [← hWq]; exact drewN_below (Below.refl _ _) _
        rw [hWq]
        have hsq := HX.out.2.1.rest hbq
        clear s0 s1 s2 s3 hWq
        obtain ⟨s0, s1, s2, s3, _⟩ := hsq.ten
        have hlq := HX.out.2.2.2.2.2.2.2.2.trans (Bel.of hbq HX.out.2.1.bp_size)
        have HW := Lib.hid (And.intro hsq hlq)
        have hH := fun w => HQ.out.2.2.2.2.2.2 n hn3 w
        have hrow : rowA Ai k = es1 ++ e :: es2 := rowA_some HX.out.2.2.2.2.2.1
        have HR := Lib.hid hrow
        have hF := fun w5 (h5 : Sys c bs bm bc base none sv vv ps Ai w5) => find_calls h5 HX.out.2.2.2.2.1 HX.out.2.2.2.2.2.1 n
        clear hbq hsq hlq hrow
        by_cases hc2 : hmF c n = (k : Int)
        · have HC2 := Lib.hid hc2
          rw [hc2] at hH
          have HH := Lib.hid hH
          clear hc2 hH hF
          go_wp2_with ((with_reducible refine (HH.out _).mono ?_); rintro y w5 ⟨rfl, hb5⟩; have HB5 := Lib.hid hb5; clear hb5)
          go_roundg (gk - 1)
          case measure => have := HL.out; omega
          case rel =>
            have e1 : ahS c k x Ai i = Ai := by unfold ahS; rw [HN.out, if_neg (fun h => h.2.1 HC2.out)]
            refine ⟨i + 1, sv, ps, Ai, xs, ys, es1, es2, by have := HL.out; omega, by go_num, ?_, HW.out.1.rest HB5.out, HX.out.2.2.1, by have := HX.out.2.2.2.1; omega, HX.out.2.2.2.2.1, HX.out.2.2.2.2.2.1, HX.out.2.2.2.2.2.2.1, by have := HX.out.2.2.2.2.2.2.2.1; omega, HW.out.2.trans (Bel.of HB5.out HW.out.1.bp_size)⟩
            rw [range_succ_foldl, ← HX.out.1, e1]
        · have hne : (hmF c n != (k : Int)) = true := by simpa using hc2
          have HC2 := Lib.hid hc2
          have HH := Lib.hid hH
          have HF := Lib.hid hF
          obtain ⟨hm, hhm⟩ : ∃ hm, hmF c n = hm := ⟨_, rfl⟩
          rw [hhm] at hne HH
          clear hc2 hH hF hhm
          cases hfi : fiF (es1 ++ e :: es2) n with
          | some j =>
            have HFI := Lib.hid hfi
            rw [hfi] at HF
            clear hfi
            go_wp2_with (first | ((with_reducible refine (HH.out _).mono ?_); rintro y w5 ⟨rfl, hb5⟩; have H5 := Lib.hid (And.intro (HW.out.1.rest hb5) (HW.out.2.trans (Bel.of hb5 HW.out.1.bp_size))); clear hb5) | ((with_reducible refine (HF.out _ H5.out.1).mono ?_); rintro y w6 ⟨rfl, hb6⟩; have H6 := Lib.hid (And.intro (H5.out.1.rest hb6) (H5.out.2.trans (Bel.of hb6 H5.out.1.bp_size))); clear hb6; simp only [fiV]))
            go_roundg (gk - 1)
            case measure => have := HL.out; omega
            case rel =>
              have e1 : ahS c k x Ai i = Ai := by unfold ahS; rw [HN.out, if_neg (fun h => by rw [HR.out, HFI.out] at h; cases h.2.2)]
              refine ⟨i + 1, sv, ps, Ai, xs, ys, es1, es2, by have := HL.out; omega, by go_num, ?_, H6.out.1, HX.out.2.2.1, by have := HX.out.2.2.2.1; omega, HX.out.2.2.2.2.1, HX.out.2.2.2.2.2.1, HX.out.2.2.2.2.2.2.1, by have := HX.out.2.2.2.2.2.2.2.1; omega, H6.out.2⟩
              rw [range_succ_foldl, ← HX.out.1, e1]
          | none =>
            have HFI := Lib.hid hfi
            rw [hfi] at HF
            clear hfi
            go_upto_region 5 with (first | ((with_reducible refine (HH.out _).mono ?_); rintro y w5 ⟨rfl, hb5⟩; have H5 := Lib.hid (And.intro (HW.out.1.rest hb5) (HW.out.2.trans (Bel.of hb5 HW.out.1.bp_size))); clear hb5) | ((with_reducible refine (HF.out _ H5.out.1).mono ?_); rintro y w6 ⟨rfl, hb6⟩; have H6 := Lib.hid (And.intro (H5.out.1.rest hb6) (H5.out.2.trans (Bel.of hb6 H5.out.1.bp_size))); clear hb6; simp only [fiV]))
            have hokc := HX.out.2.2.1.cf
            have hml := HX.out.2.2.1.ml
            have hlen := HX.out.2.2.1.len k _ HX.out.2.2.2.2.2.1
            have hll : (es1 ++ e :: es2).length = (xs ++ p :: ys).length := HX.out.2.1.le _ _ _ HX.out.2.2.2.2.1 HX.out.2.2.2.2.2.1
            have hcm : cnt Ai ≤ 900000100 := by have := HX.out.2.2.2.1; have := HQ.out.2.2.1; have := HP.out.1; have := HL.out; omega
            have hcw : Ai.wr ≤ cnt Ai ∧ Ai.f ≤ cnt Ai := by unfold cnt; omega
            have hm256 : Ai.m.length ≤ 256 := by omega
            have hn4 : n * 4 + 4 ≤ Ai.m.length := by have := HC.out; omega
            have hen := enter_calls H6.out.1 HX.out.2.2.2.2.1 HX.out.2.2.2.2.2.1 n hokc hm256 (fun f hf => HX.out.2.2.1.lin k _ f HX.out.2.2.2.2.2.1 hf) (by omega) (by omega)
            have hft : ∀ (b : Nat) (sv7 : List Value) (w7 : World), Sys c bs bm bc base none sv7 vv (ps.set k (evL c (xs ++ p :: ys) ++ [b])) (entA c Ai k (es1 ++ e :: es2) n) w7 → Calls Try.prog 59 #[ptr bs, ptr b] w7 (fun y w8 => y = .returned (.tuple #[]) ∧ Sys c bs bm bc base none sv7 vv (ps.set k (evL c (xs ++ p :: ys) ++ [b])) (entF c Ai k (es1 ++ e :: es2) n) w8 ∧ Bel base w7 w8) := fun b sv7 w7 h7 => by
              have hkl : k < ps.length := (List.getElem?_eq_some_iff.1 HX.out.2.2.2.2.1).1
              have hkc : k < Ai.cs.length := (List.getElem?_eq_some_iff.1 HX.out.2.2.2.2.2.1).1
              have hev := evL_len c (es1 ++ e :: es2) (xs ++ p :: ys) hll
              have hf := fetch_calls h7 (k := k) (i := (evL c (xs ++ p :: ys)).length) (List.getElem?_set_self hkl) (p := b) (by simp) (es := evL c (es1 ++ e :: es2) ++ [newE n]) (List.getElem?_set_self hkc) (e := newE n) (by rw [← hev]; simp) (by rw [show (entA c Ai k (es1 ++ e :: es2) n).m.length = Ai.m.length from evA_m _ _ _ _]; exact hm256) (by rw [show (entA c Ai k (es1 ++ e :: es2) n).m.length = Ai.m.length from evA_m _ _ _ _]; exact hn4) (by rw [show (entA c Ai k (es1 ++ e :: es2) n).f = Ai.f from evA_f _ _ _ _]; omega)
              unfold FtPost at hf
              rw [entF_eq c Ai k (es1 ++ e :: es2) n _ hev.symm] at hf
              exact hf
            have HE := Lib.hid hen
            have HT := Lib.hid hft
            have HM := Lib.hid (And.intro hll hn4)
            clear hokc hml hlen hll hcm hcw hm256 hn4 hen hft
            go_wp2_with (first | ((with_reducible refine (HE.out).mono ?_); rintro y w7 ⟨b, sv7, rfl, hs7, hb7, _⟩; have H7 := Lib.hid (And.intro hs7 (H6.out.2.trans hb7)); clear hs7 hb7) | ((with_reducible refine (HT.out _ _ _ H7.out.1).mono ?_); rintro y w8 ⟨rfl, hs8, hb8⟩; have H8 := Lib.hid (And.intro hs8 (H7.out.2.trans hb8)); clear hs8 hb8))
            go_roundg (gk - 1)
            case measure => have := HL.out; omega
            case rel =>
              have e1 : ahS c k x Ai i = entF c Ai k (es1 ++ e :: es2) n := by
                unfold ahS
                rw [HN.out, HR.out, if_pos ⟨HC.out, HC2.out, HFI.out⟩]
              obtain ⟨xs', es1', t1, t2, t3⟩ := track (c := c) (xs := xs) (ys := ys) (es1 := es1) (es2 := es2) (p := p) (b := b) (e := e) (f := ftE (evA c Ai k (es1 ++ e :: es2)).m (newE n)) HX.out.2.2.2.2.2.2.1 (by have h1 := HM.out.1; have h2 := HX.out.2.2.2.2.2.2.1; simp at h1; omega) (by have := HX.out.2.2.2.2.2.2.2.1; have := HL.out; have := HP.out.1; omega)
              refine ⟨i + 1, sv7, _, _, xs', ys ++ [b], es1', es2 ++ [ftE (evA c Ai k (es1 ++ e :: es2)).m (newE n)], by have := HL.out; omega, by go_num, ?_, H8.out.1, ?_, ?_, ?_, ?_, t3, by have := HX.out.2.2.2.2.2.2.2.1; simp; omega, H8.out.2⟩
              · rw [range_succ_foldl, ← HX.out.1, e1]
              · have := HX.out.2.2.1.entF (k := k) (x := n) (by rw [HR.out]; exact HFI.out) HM.out.2
                rw [HR.out] at this
                exact this
              · have := cnt_entF c Ai k (es1 ++ e :: es2) n
                have := HX.out.2.2.2.1
                omega
              · rw [List.getElem?_set_self (List.getElem?_eq_some_iff.1 HX.out.2.2.2.2.1).1, t1]
              · show (Ai.cs.set k _)[k]? = _
                rw [List.getElem?_set_self (List.getElem?_eq_some_iff.1 HX.out.2.2.2.2.2.1).1, t2]
      · have d2 : decide ((n : Int) < c.W / 4) = false := decide_eq_false hc1
        have HC := Lib.hid hc1
        clear hc1
        go_wp2_with fail
        go_roundg (gk - 1)
        case measure => have := HL.out; omega
        case rel =>
          have e1 : ahS c k x Ai i = Ai := by unfold ahS; rw [HN.out, if_neg (fun h => by have := HC.out; omega)]
          refine ⟨i + 1, sv, ps, Ai, xs, ys, es1, es2, by have := HL.out; omega, by go_num, ?_, HX.out.2.1.rest (drewN_below (Below.refl _ _) _), HX.out.2.2.1, by have := HX.out.2.2.2.1; omega, HX.out.2.2.2.2.1, HX.out.2.2.2.2.2.1, HX.out.2.2.2.2.2.2.1, by have := HX.out.2.2.2.2.2.2.2.1; omega, HX.out.2.2.2.2.2.2.2.2.trans (Bel.drewN _ _)⟩
          rw [range_succ_foldl, ← HX.out.1, e1]
    · have d1 : decide ((i : Int) + 1 ≤ (ahN c : Int)) = false := decide_eq_false (by omega)
      have d1' : ¬ (i : Int) + 1 ≤ (ahN c : Int) := by omega
      obtain ⟨I, hI⟩ : ∃ I, I = ahN c := ⟨_, rfl⟩
      have HI := Lib.hid (show i = ahN c by omega)
      go_upto_region 1 with fail
      go_quiet (fail)
      go_wp2_with fail
      (first | go_end0 | go_ret)
      refine ⟨rfl, HX.out.2.2.2.2.2.2.2.2.trans (Bel.drewN _ _), sv, ps, xs, ys, es1, es2, ?_, HX.out.2.2.2.2.1, ?_, HX.out.2.2.2.2.2.2.1⟩
      · have := HX.out.2.1.rest (drewN_below (Below.refl _ _) nq)
        rw [HX.out.1, HI.out] at this
        exact this
      · unfold aheadA
        rw [← HI.out, ← HX.out.1]; exact HX.out.2.2.2.2.2.1
end Go.Proofs.Ytggidakiflnhhaa
