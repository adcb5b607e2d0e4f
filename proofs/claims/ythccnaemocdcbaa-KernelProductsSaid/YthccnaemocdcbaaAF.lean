import Derived.Test.YthccnaemocdcbaaAE
namespace Go.Proofs.Ythccnaemocdcbaa
open Go.RowKit Go.Maps Go.WideMaps
set_option maxHeartbeats 4000000
set_option maxRecDepth 100000
set_option linter.unusedSimpArgs false
set_option linter.unusedVariables false

theorem prod_codes (R P : Nat) (hR : R ≤ 1024) (hP : 1 ≤ P) (hP16 : P ≤ 16) (m : List En) (v : List Int) (hm5 : m.length ≤ 5000) (hv1 : v.length ≤ 1024) :
    ((v.any (fun n => !wI 1000000 n) = true ∨ m.any (badN R v.length) = true) → prodC R m v P = 1) ∧
    ((v.any (fun n => !wI 1000000 n) = true ∨ m.any (badN R v.length) = true) → prodO R m v P = []) ∧
    ((v.any (fun n => !wI 1000000 n) = true ∨ m.any (badN R v.length) = true) → prodT R m v P = []) ∧
    ((v.any (fun n => !wI 1000000 n) = false ∧ m.any (badN R v.length) = false) → prodC R m v P = 0 ∧ prodO R m v P = outF R v m ∧ prodT R m v P = fetI R v.length P m m.length) := by
  have hc1 : (v.any (fun n => !wI 1000000 n) = true ∨ m.any (badN R v.length) = true) → prodC R m v P = 1 := by
    intro h
    unfold prodC
    rw [if_neg (by omega), if_neg (by omega), if_neg (by omega), if_pos h]
  have hc0 : (v.any (fun n => !wI 1000000 n) = false ∧ m.any (badN R v.length) = false) → prodC R m v P = 0 := by
    intro h
    unfold prodC
    rw [if_neg (by omega), if_neg (by omega), if_neg (by omega), if_neg]
    rw [h.1, h.2]
    simp
  refine ⟨hc1, fun h => ?_, fun h => ?_, fun h => ⟨hc0 h, ?_, ?_⟩⟩
  · unfold prodO; rw [hc1 h]; rfl
  · unfold prodT; rw [hc1 h]; rfl
  · unfold prodO; rw [hc0 h]; rfl
  · unfold prodT; rw [hc0 h]; rfl

def ProdRest (R P : Nat) (m : List En) (v : List Int) (w : World) : Prop :=
  v.any (fun n => !wI 1000000 n) = false ∧ m.any (badN R v.length) = false

theorem rproduct_calls1 (R P : Nat) (hR : R ≤ 1024) (hP : 1 ≤ P) (hP16 : P ≤ 16) (m : List En) (v : List Int) (hm5 : m.length ≤ 5000) (hv1 : v.length ≤ 1024)
    (A V : Option Addr) (ca cv : Nat) (w : World) (hA : Rd encN 3 w A m) (hV : Rd encI 1 w V v) :
    Calls Try.prog 17 #[.int .i64 (R : Int), .slice A m.length ca, .slice V v.length cv, .int .i64 (P : Int)] w (ProdPost (prodO R m v P) (prodT R m v P) (prodC R m v P) w) := by
  have HC := Lib.hid (prod_codes R P hR hP hP16 m v hm5 hv1)
  have hn0 : ∃ n, v.length = n := ⟨_, rfl⟩
  obtain ⟨n, hn⟩ := hn0
  have HI := Lib.hid (And.intro hA (And.intro hV hn))
  rw [hn] at hv1 ⊢
  clear hA hV hn
  go_enter Try.func17, Try.ntmps17
  go_wp2_with fail
  go_loop [8, 9, 10, 11, 41, 42, 43, 44, 45, 46, 47, 48, 49, 50, 51, 52, 53, 54, 55, 56, 57, 58] (fun v8 v9 v10 v11 v41 v42 v43 v44 v45 v46 v47 v48 v49 v50 v51 v52 v53 v54 v55 v56 v57 v58 => ∃ i : Nat, i ≤ n ∧ v11 = .int .i64 (i : Int) ∧ (∀ j (h : j < i) (h' : j < v.length), (!wI 1000000 v[j]) = false)) (fun _ _ _ v11 _ _ _ _ _ _ _ _ _ _ _ _ _ _ _ _ _ _ => n - (intOf v11).toNat)
  case atStart => exact ⟨0, by omega, rfl, fun j hj => by omega⟩
  case round =>
    obtain ⟨i, hi, rfl, hall⟩ := hrel
    by_cases hil : i < n
    · have hd : decide (i < n) = true := decide_eq_true hil
      have hil' : i < v.length := by rw [HI.out.2.2]; exact hil
      obtain ⟨a, rfl, q1⟩ := HI.out.2.1.int i hil'
      have hb := badV v[i]
      have hany : (!wI 1000000 v[i]) = true → (v.any (fun n => !wI 1000000 n) = true ∨ m.any (badN R v.length) = true) := by
        intro h
        left
        rw [List.any_eq_true]
        exact ⟨_, List.getElem_mem hil', h⟩
      have HH := Lib.hid (And.intro hall (And.intro hany hb))
      generalize hx : v[i] = x at *
      clear hb hall hany
      have HX := Lib.hid hx
      have HW := Lib.hid (Below.refl w.heap.size w)
      clear hx
      by_cases h1 : x < -1000000
      · have HB := Lib.hid (HH.out.2.1 (by rw [HH.out.2.2, decide_eq_true h1]; rfl))
        go_wp2_with fail
        refine bodyPost_ret (by simp [results, Try.results17, go_sem]; try rfl) rfl ?_
        rw [HC.out.1 HB.out, HC.out.2.1 HB.out, HC.out.2.2.1 HB.out]
        exact ProdPost.err HW.out
      · by_cases h2 : 1000000 < x
        · have HB := Lib.hid (HH.out.2.1 (by rw [HH.out.2.2, decide_eq_true h2]; simp))
          go_wp2_with fail
          refine bodyPost_ret (by simp [results, Try.results17, go_sem]; try rfl) rfl ?_
          rw [HC.out.1 HB.out, HC.out.2.1 HB.out, HC.out.2.2.1 HB.out]
          exact ProdPost.err HW.out
        · go_wp2_with fail
          go_round
          case rel => exact ⟨i + 1, by omega, by go_num, fun j h h' => by
            by_cases e : j = i
            · subst e; rw [HX.out, HH.out.2.2, decide_eq_false h1, decide_eq_false h2]; rfl
            · exact HH.out.1 j (by omega) h'⟩
          case measure => simp [intOf]; omega
    · have hd : decide (i < n) = false := decide_eq_false hil
      have hv0 : v.any (fun n => !wI 1000000 n) = false := by
        rw [List.any_eq_false]
        intro x hx
        obtain ⟨j, hj, rfl⟩ := List.mem_iff_getElem.1 hx
        rw [hall j (by have := HI.out.2.2; omega) hj]
        decide
      have HV0 := Lib.hid hv0
      clear hall hv0
      go_wp2_with fail
      go_loopg [8, 9, 10, 12, 13, 59, 60, 61, 62, 63, 64, 65, 66, 67, 68, 69, 70, 71, 72, 73, 74, 75, 76, 77, 78, 79, 80, 81, 82, 83, 84, 85, 86, 87, 88, 89, 90, 91, 92, 93, 94, 95, 96, 97, 98, 99] m.length (fun gk v8 v9 v10 v12 v13 v59 v60 v61 v62 v63 v64 v65 v66 v67 v68 v69 v70 v71 v72 v73 v74 v75 v76 v77 v78 v79 v80 v81 v82 v83 v84 v85 v86 v87 v88 v89 v90 v91 v92 v93 v94 v95 v96 v97 v98 v99 wr => ∃ i : Nat, i + gk = m.length ∧ v12 = .int .i64 (i : Int) ∧ (∀ j (h : j < i) (h' : j < m.length), badN R n m[j] = false) ∧ Below w.heap.size w wr)
      case atStart => exact ⟨0, by omega, rfl, fun j hj => by omega, Below.refl _ _⟩
      case round =>
        obtain ⟨i, hi, rfl, hall, hbl⟩ := hrel
        by_cases hil : i < m.length
        · have hd : decide (i < m.length) = true := decide_eq_true hil
          obtain ⟨a, rfl, e0, e1, e2⟩ := (HI.out.1.below hbl).ent i hil
          have hany : badN R n m[i] = true → (v.any (fun n => !wI 1000000 n) = true ∨ m.any (badN R v.length) = true) := by
            intro h
            right
            rw [List.any_eq_true]
            exact ⟨_, List.getElem_mem hil, by rw [HI.out.2.2]; exact h⟩
          have HX0 := Lib.hid hall
          generalize hx : m[i] = x at *
          have hdf : badN R n x = (decide (x.r < 0) || decide ((R : Int) ≤ x.r) || decide (x.c < 0) || decide ((n : Int) ≤ x.c) || (decide (x.v < -1000000) || decide (1000000 < x.v))) := by
            unfold badN
            rw [badV]
          have HX := Lib.hid (And.intro hx (And.intro hany hdf))
          obtain ⟨WA, hWA⟩ : ∃ WA, wr.alloc (.cells #[.int .i64 x.r, .int .i64 x.c, .int .i64 x.v] 83) = WA := ⟨_, rfl⟩
          have HW : Hid (Below w.heap.size w WA) := Lib.hid (by rw [← hWA]; exact hbl.alloc hbl.size _)
          have s0 : WA.cell? ⟨wr.heap.size, 0, none⟩ = some (.int .i64 x.r) := by rw [← hWA]; simp
          have s1 : WA.cell? ⟨wr.heap.size, 1, none⟩ = some (.int .i64 x.c) := by rw [← hWA]; simp
          have s2 : WA.cell? ⟨wr.heap.size, 2, none⟩ = some (.int .i64 x.v) := by rw [← hWA]; simp
          clear hall hany hdf hx hbl
          go_upto_region 16 with fail
          try rw [hWA]
          clear hWA
          by_cases t0 : x.r < 0
          · have HB := Lib.hid (HX.out.2.1 (by rw [HX.out.2.2]; simp [t0]))
            go_wp2_with fail
            refine bodyPost_ret (by simp [results, Try.results17, go_sem]; try rfl) rfl ?_
            rw [HC.out.1 HB.out, HC.out.2.1 HB.out, HC.out.2.2.1 HB.out]
            exact ProdPost.err HW.out
          · by_cases t1 : (R : Int) ≤ x.r
            · have HB := Lib.hid (HX.out.2.1 (by rw [HX.out.2.2]; simp [t1]))
              go_wp2_with fail
              refine bodyPost_ret (by simp [results, Try.results17, go_sem]; try rfl) rfl ?_
              rw [HC.out.1 HB.out, HC.out.2.1 HB.out, HC.out.2.2.1 HB.out]
              exact ProdPost.err HW.out
            · by_cases t2 : x.c < 0
              · have HB := Lib.hid (HX.out.2.1 (by rw [HX.out.2.2]; simp [t2]))
                go_wp2_with fail
                refine bodyPost_ret (by simp [results, Try.results17, go_sem]; try rfl) rfl ?_
                rw [HC.out.1 HB.out, HC.out.2.1 HB.out, HC.out.2.2.1 HB.out]
                exact ProdPost.err HW.out
              · by_cases t3 : (n : Int) ≤ x.c
                · have HB := Lib.hid (HX.out.2.1 (by rw [HX.out.2.2]; simp [t3]))
                  go_wp2_with fail
                  refine bodyPost_ret (by simp [results, Try.results17, go_sem]; try rfl) rfl ?_
                  rw [HC.out.1 HB.out, HC.out.2.1 HB.out, HC.out.2.2.1 HB.out]
                  exact ProdPost.err HW.out
                · by_cases t4 : x.v < -1000000
                  · have HB := Lib.hid (HX.out.2.1 (by rw [HX.out.2.2]; simp [t4]))
                    go_wp2_with fail
                    refine bodyPost_ret (by simp [results, Try.results17, go_sem]; try rfl) rfl ?_
                    rw [HC.out.1 HB.out, HC.out.2.1 HB.out, HC.out.2.2.1 HB.out]
                    exact ProdPost.err HW.out
                  · by_cases t5 : 1000000 < x.v
                    · have HB := Lib.hid (HX.out.2.1 (by rw [HX.out.2.2]; simp [t5]))
                      go_wp2_with fail
                      refine bodyPost_ret (by simp [results, Try.results17, go_sem]; try rfl) rfl ?_
                      rw [HC.out.1 HB.out, HC.out.2.1 HB.out, HC.out.2.2.1 HB.out]
                      exact ProdPost.err HW.out
                    · have hok : badN R n x = false := by
                        unfold badN
                        rw [badV, decide_eq_false t0, decide_eq_false t1, decide_eq_false t2, decide_eq_false t3, decide_eq_false t4, decide_eq_false t5]
                        rfl
                      have HOK := Lib.hid hok
                      clear hok
                      go_wp2_with fail
                      go_roundg (gk - 1)
                      case measure => omega
                      case rel => exact ⟨i + 1, by omega, by go_num, fun j h h' => by
                        by_cases e : j = i
                        · subst e; rw [HX.out.1]; exact HOK.out
                        · exact HX0.out j (by omega) h', HW.out⟩
        · have hd : decide (i < m.length) = false := decide_eq_false hil
          have hm0 : m.any (badN R v.length) = false := by
            rw [List.any_eq_false]
            intro x hx
            obtain ⟨j, hj, rfl⟩ := List.mem_iff_getElem.1 hx
            rw [HI.out.2.2, hall j (by omega) hj]
            decide
          have HM0 := Lib.hid hm0
          have HBL := Lib.hid hbl
          clear hall hm0 hbl
          go_upto_region 18 with fail
          have hfits : ∀ e ∈ m, Fit3 R n e := fun e he => fit3_of R n e (by
            have h' := HM0.out
            rw [HI.out.2.2, List.any_eq_false] at h'
            exact Bool.eq_false_iff.2 (h' e he))
          have hvb : ∀ x ∈ v, -1000000 ≤ x ∧ x ≤ 1000000 := fun x hx => by
            have h' := HV0.out
            rw [List.any_eq_false] at h'
            have := h' x hx
            simp [wI] at this
            exact this
          have hbd := fun ms (h : ∀ e ∈ ms, Fit3 R n e) => outF_bound R n v HI.out.2.2 hvb ms h
          have HF := Lib.hid (And.intro hfits (And.intro hvb hbd))
          obtain ⟨W1, W2, k1, k2, hpq⟩ := made_twice R P hR (by omega) w wr HBL.out
          have HP := Lib.hid hpq
          obtain ⟨g1, hg1⟩ : ∃ g1, wr.heap.size = g1 := ⟨_, rfl⟩
          obtain ⟨g2, hg2⟩ : ∃ g2, W1.heap.size = g2 := ⟨_, rfl⟩
          rw [hg1] at k1 HP
          rw [hg2] at k2 HP
          clear hfits hvb hbd hpq hg1 hg2
          go_wp2_with fail
          clear k1 k2
          go_loopg [16, 17, 18, 19, 20, 104, 105, 106, 107, 108, 109, 110, 111, 112, 113, 114, 115, 116, 117, 118, 119, 120, 121, 122, 123, 124, 125, 126, 127, 128, 129, 130, 131, 132, 133, 134, 135, 136, 137, 138, 139, 140, 141, 142, 143, 144, 145, 146, 147, 148, 149, 150, 151, 152, 153, 154, 155, 156, 157, 158, 159, 160, 161, 162, 163, 164, 165, 166, 167, 168, 169, 170, 171, 172, 173, 174, 175, 176, 177, 178, 179, 180] m.length (fun gk v16 v17 v18 v19 v20 v104 v105 v106 v107 v108 v109 v110 v111 v112 v113 v114 v115 v116 v117 v118 v119 v120 v121 v122 v123 v124 v125 v126 v127 v128 v129 v130 v131 v132 v133 v134 v135 v136 v137 v138 v139 v140 v141 v142 v143 v144 v145 v146 v147 v148 v149 v150 v151 v152 v153 v154 v155 v156 v157 v158 v159 v160 v161 v162 v163 v164 v165 v166 v167 v168 v169 v170 v171 v172 v173 v174 v175 v176 v177 v178 v179 v180 wr => ∃ i : Nat, i + gk = m.length ∧ v16 = .int .i64 (i : Int) ∧ PQ w g1 g2 R P R P (outF R v (m.take i)) (fetI R n P m i) wr)
          case atStart => exact ⟨0, by omega, rfl, HP.out⟩
          case round =>
            obtain ⟨i, hi, rfl, hps⟩ := hrel
            by_cases hil : i < m.length
            · have hb1 : decide (i < m.length) = true := decide_eq_true hil
              obtain ⟨a, rfl, e0, e1, e2⟩ := (HI.out.1.below hps.low).ent i hil
              obtain ⟨hf1, hf2, hf3, hf4, hf5, hf6⟩ := HF.out.1 m[i] (List.getElem_mem hil)
              obtain ⟨rn, hrn⟩ : ∃ rn : Nat, (m[i]).r = (rn : Int) := ⟨_, (Int.toNat_of_nonneg hf1).symm⟩
              obtain ⟨cn, hcn⟩ : ∃ cn : Nat, (m[i]).c = (cn : Int) := ⟨_, (Int.toNat_of_nonneg hf3).symm⟩
              have hrt : (m[i]).r.toNat = rn := by rw [hrn]; rfl
              have hct : (m[i]).c.toNat = cn := by rw [hcn]; rfl
              have hos : outF R v (m.take (i + 1)) = outS v (outF R v (m.take i)) m[i] := by rw [take_snoc m i hil, outF_snoc]
              unfold outS at hos
              rw [hrt, hct] at hos
              rw [hrt] at hf2
              rw [hct] at hf4
              have hcv : cn < v.length := by rw [HI.out.2.2]; exact hf4
              obtain ⟨W5, hW5⟩ : ∃ W5, wr.alloc (.cells #[.int .i64 (rn : Int), .int .i64 (cn : Int), .int .i64 (m[i]).v] 83) = W5 := ⟨_, rfl⟩
              have hb5 : Below wr.heap.size wr W5 := by rw [← hW5]; exact (Below.refl _ _).alloc (Nat.le_refl _) _
              have hps5 := hps.rest hb5
              have y0 : W5.cell? ⟨wr.heap.size, 0, none⟩ = some (.int .i64 (rn : Int)) := by rw [← hW5]; simp
              have y1 : W5.cell? ⟨wr.heap.size, 1, none⟩ = some (.int .i64 (cn : Int)) := by rw [← hW5]; simp
              have y2 : W5.cell? ⟨wr.heap.size, 2, none⟩ = some (.int .i64 (m[i]).v) := by rw [← hW5]; simp
              obtain ⟨av, rfl, ev⟩ := (HI.out.2.1.below hps5.low).int cn hcv
              have hgk1 := (hps.o1.blk g1 rfl).2.1
              have hgk2 := (hps.o2.blk g2 rfl).2.1
              rw [getD_in v cn hcv] at hos
              have hbnd := HF.out.2.2 (m.take i) (fun e he => HF.out.1 e (List.mem_of_mem_take he))
              have hlen := outF_len R v (m.take i)
              have hob := hbnd _ (List.getElem_mem (show rn < (outF R v (m.take i)).length by omega))
              have hti : (m.take i).length ≤ 5000 := by rw [List.length_take]; omega
              rw [← getD_in _ _ (by omega)] at hob
              have hxb := HF.out.2.1 v[cn] (List.getElem_mem hcv)
              have hmb := mul_bound (m[i]).v v[cn] ⟨hf5, hf6⟩ hxb
              have hst := hps5.set1 rn hf2 ((outF R v (m.take i)).getD rn 0 + (m[i]).v * v[cn])
              rw [← hos] at hst
              obtain ⟨q1, q2⟩ := hps5.cell1 rn hf2
              generalize hyv : (m[i]).v = y at *
              generalize v[cn] = x at *
              generalize hyx : y * x = yx at *
              generalize (outF R v (m.take i)).getD rn 0 = o at *
              generalize hsm : o + yx = sm at *
              have w1' : wrap64 yx = yx := wrap64_fit _ (by omega)
              have w2' : wrap64 sm = sm := wrap64_fit _ (by omega)
              have w3' : IntKind.i64.wrap yx = yx := by rw [IntKind.wrap_i64]; omega
              have w4' : IntKind.i64.wrap sm = sm := by rw [IntKind.wrap_i64]; omega
              obtain ⟨Z, hZ⟩ : ∃ Z, W5.setCell ⟨g1, rn, none⟩ (.int .i64 sm) = Z := ⟨_, rfl⟩
              rw [hZ] at hst
              have t0 : Z.cell? ⟨wr.heap.size, 0, none⟩ = some (.int .i64 (rn : Int)) := hst.2.cell y0 (fun e => by have := Option.some.inj e; simp at this; omega)
              have t1 : Z.cell? ⟨wr.heap.size, 1, none⟩ = some (.int .i64 (cn : Int)) := hst.2.cell y1 (fun e => by have := Option.some.inj e; simp at this; omega)
              have HZ := Lib.hid hZ
              have HT := Lib.hid (And.intro hst.1 (And.intro t0 t1))
              have HE := Lib.hid (And.intro hf2 (And.intro hf4 (And.intro hrt (And.intro hct (And.intro hrn hcn)))))
              have hRi : (rn : Int) < (R : Int) := by omega
              have hVi : (cn : Int) < (n : Int) := by omega
              clear hps hps5 hst t0 t1 hbnd hmb hxb hob hb5 hgk1 hgk2 hos hlen hti hf1 hf2 hf3 hf4 hf5 hf6 hZ hcv hrt hct
              rw [hrn] at e0
              rw [hcn] at e1
              go_upto_region 24 with fail
              try rw [hW5]
              clear hW5
              go_cut [131] (fun s131 wx => PQ w g1 g2 R P R P (outF R v (m.take (i + 1))) (fetI R n P m i) wx ∧ wx.cell? ⟨wr.heap.size, 0, none⟩ = some (.int .i64 (rn : Int)) ∧ wx.cell? ⟨wr.heap.size, 1, none⟩ = some (.int .i64 (cn : Int)))
              case first =>
                go_region
                all_goals (
                  go_wp2_with fail
                  go_meet
                  try rw [HZ.out]
                  first
                  | exact HT.out
                  | exact ⟨HT.out.1.rest (Below.refl _ _).drew, HT.out.2.1, HT.out.2.2⟩)
              case rest =>
                obtain ⟨hp5, t0, t1⟩ := hcut
                clear e0 e1 e2 y0 y1 y2 ev q1 q2 w1' w2' w3' w4'
                have hkp := ptF_lt R rn P HE.out.1 hP
                have hkc := ptF_lt n cn P HE.out.2.1 hP
                have c1 := fun w' => rpart_same R rn P hR HE.out.1 hP hP16 w'
                have c2 := fun w' => rpart_same n cn P hv1 HE.out.2.1 hP hP16 w'
                have hkn : knownB R n P (m.take i) m[i] = (decide (ptF n cn P = ptF R rn P) || (m.take i).any (fun x => x.c == (cn : Int) && ptF R x.r.toNat P == ptF R rn P)) := by
                  unfold knownB
                  rw [HE.out.2.2.1, HE.out.2.2.2.1, HE.out.2.2.2.2.2]
                have hfs := fetI_succ R n P m i hil
                unfold fetS at hfs
                rw [hkn, HE.out.2.2.1] at hfs
                generalize ptF R rn P = kp at *
                generalize ptF n cn P = kc at *
                have C1 := Lib.hid c1
                have C2 := Lib.hid c2
                have HP5 := Lib.hid hp5
                have hLB := World.block_lt_of_cell? _ _ t0
                have HL := Lib.hid hLB
                have hLB' : wr.heap.size < wc.heap.size := hLB
                have HLB := Lib.hid hLB'
                obtain ⟨b0, hb0⟩ : ∃ b, decide (kc = kp) = b := ⟨_, rfl⟩
                rw [hb0] at hfs
                have HFS := Lib.hid hfs
                have hbe : ((kc : Int) == (kp : Int)) = b0 := by
                  rw [← hb0, Bool.eq_iff_iff, beq_iff_eq, decide_eq_true_eq]
                  omega
                clear c1 c2 hkn hfs hp5 hLB hLB' hRi hVi hb0
                go_upto_region 27 with (first | ((with_reducible refine (C1.out _).mono ?_); rintro e w' ⟨rfl, rfl⟩) | ((with_reducible refine (C2.out _).mono ?_); rintro e w' ⟨rfl, rfl⟩))
                clear hbe
                obtain ⟨f, hf⟩ : ∃ f : En → Bool, f = fun x => x.c == (cn : Int) && ptF R x.r.toNat P == kp := ⟨_, rfl⟩
                have HFF := Lib.hid hf
                clear hf
                go_wp2_with fail
                obtain ⟨wo, hwo⟩ : ∃ wo : World, wo = wr := ⟨_, rfl⟩
                subst hwo
                obtain ⟨gg, hgg⟩ : ∃ gg : Nat, gg = gk := ⟨_, rfl⟩
                subst hgg
                go_loopg [19, 20, 145, 146, 147, 148, 149, 150, 151, 152, 153, 154, 155, 156, 157, 158, 159, 160, 161, 162, 163, 164, 165, 166, 167, 168, 169, 170, 171, 172] i (fun gk v19 v20 v145 v146 v147 v148 v149 v150 v151 v152 v153 v154 v155 v156 v157 v158 v159 v160 v161 v162 v163 v164 v165 v166 v167 v168 v169 v170 v171 v172 wx => ∃ k : Nat, k + gk = i ∧ v20 = .int .i64 (k : Int) ∧ v19 = .bool (b0 || (m.take k).any f) ∧ Below wc.heap.size wc wx)
                case atStart => exact ⟨0, by omega, rfl, by simp, Below.refl _ _⟩
                case round =>
                  obtain ⟨k, hk, rfl, rfl, hbk⟩ := hrel
                  by_cases hki : k < i
                  · have hb2 : decide (k < i) = true := decide_eq_true hki
                    have hkm : k < m.length := by omega
                    have hsn : (m.take (k + 1)).any f = ((m.take k).any f || f m[k]) := by rw [take_snoc m k hkm, List.any_append]; simp
                    obtain ⟨a', ha', e0, e1, e2⟩ := (HI.out.1.below (HP5.out.low.trans (hbk.mono HP5.out.low.size))).ent k hkm
                    cases ha'
                    obtain ⟨hf1, hf2, hf3, hf4, hf5, hf6⟩ := HF.out.1 m[k] (List.getElem_mem hkm)
                    have hfk : f m[k] = ((m[k]).c == (cn : Int) && ptF R (m[k]).r.toNat P == kp) := by rw [HFF.out]
                    obtain ⟨yn, hyn⟩ : ∃ yn : Nat, (m[k]).r = (yn : Int) := ⟨_, (Int.toNat_of_nonneg hf1).symm⟩
                    have hyt : (m[k]).r.toNat = yn := by rw [hyn]; rfl
                    rw [hyt] at hfk hf2
                    rw [hyn] at e0
                    have u1 := (hbk.cell (World.block_lt_of_cell? _ _ t1)).trans t1
                    have c3 := fun w' => rpart_same R yn P hR hf2 hP hP16 w'
                    generalize (m[k]).c = yc at *
                    generalize (m.take k).any f = q at *
                    generalize ptF R yn P = kq at *
                    have C3 := Lib.hid c3
                    have HS := Lib.hid (And.intro hsn hfk)
                    have HK := Lib.hid (And.intro hbk (And.intro t0 t1))
                    clear hsn hfk hbk hyt hf1 hf2 hf3 hf4 hf5 hf6 e2 t0 t1 c3
                    cases hbq : (b0 || q) with
                    | true =>
                      have HBQ := Lib.hid hbq
                      clear hbq
                      go_upto_region 30 with fail
                      go_quiet (fail)
                      go_wp2_with fail
                      go_roundg (gk - 1)
                      case measure => omega
                      case rel => exact ⟨k + 1, by omega, by go_num, by rw [HS.out.1, ← Bool.or_assoc, HBQ.out, Bool.true_or], drewN_below HK.out.1 nq⟩
                    | false =>
                      have HBQ := Lib.hid hbq
                      clear hbq
                      by_cases hyc : yc = (cn : Int)
                      · subst hyc
                        obtain ⟨b3, hb3⟩ : ∃ b, decide (kq = kp) = b := ⟨_, rfl⟩
                        have hbe : ((kq : Int) == (kp : Int)) = b3 := by
                          rw [← hb3, Bool.eq_iff_iff, beq_iff_eq, decide_eq_true_eq]
                          omega
                        have hb4 : (kq == kp) = b3 := by
                          rw [← hb3, Bool.eq_iff_iff]
                          simp
                        have HB4 := Lib.hid hb4
                        clear hb3 hb4
                        go_upto_region 30 with fail
                        go_quiet ((go_at_call 41; exact Calls.quiet_of_same ((C3.out _).mono (fun e w' h => ⟨h.1, h.2.symm⟩))))
                        go_wp2_with fail
                        go_roundg (gk - 1)
                        case measure => omega
                        case rel => exact ⟨k + 1, by omega, by go_num, by rw [HS.out.1, ← Bool.or_assoc, HBQ.out, Bool.false_or, HS.out.2, HB4.out]; simp, drewN_below HK.out.1 nq⟩
                      · have hbe : (yc == (cn : Int)) = false := by simpa using hyc
                        have HB4 := Lib.hid hbe
                        go_upto_region 30 with fail
                        go_quiet (fail)
                        go_wp2_with fail
                        go_roundg (gk - 1)
                        case measure => omega
                        case rel => exact ⟨k + 1, by omega, by go_num, by rw [HS.out.1, ← Bool.or_assoc, HBQ.out, Bool.false_or, HS.out.2, HB4.out]; simp, drewN_below HK.out.1 nq⟩
                  · have hb2 : decide (k < i) = false := decide_eq_false hki
                    obtain rfl : k = i := by omega
                    have hp6 := HP5.out.rest hbk
                    have hfs := HFS.out
                    rw [← HFF.out] at hfs
                    cases hq : (b0 || (m.take k).any f) with
                    | true =>
                      rw [hq, if_pos rfl] at hfs
                      rw [← hfs] at hp6
                      have HP6 := Lib.hid hp6
                      clear hbk hp6 hfs hq
                      go_wp2_with fail
                      go_roundg (gg - 1)
                      case measure => omega
                      case rel => exact ⟨k + 1, by omega, by go_num, HP6.out⟩
                    | false =>
                      rw [hq, if_neg (by decide)] at hfs
                      have hst := hp6.set2 kp hkp ((fetI R n P m k).getD kp 0 + 1)
                      rw [← hfs] at hst
                      obtain ⟨z1, z2⟩ := hp6.cell2 kp hkp
                      have hfb := fetI_bound R n P m k
                      have hfl := fetI_len R n P m k
                      have hfx : 0 ≤ (fetI R n P m k).getD kp 0 ∧ (fetI R n P m k).getD kp 0 ≤ (k : Int) := by
                        rw [getD_in _ _ (by omega)]
                        exact hfb _ (List.getElem_mem (show kp < (fetI R n P m k).length by omega))
                      generalize (fetI R n P m k).getD kp 0 = fv at *
                      have hw1 : wrap64 (fv + 1) = fv + 1 := wrap64_fit _ (by omega)
                      have HP6 := Lib.hid hst
                      clear hbk hp6 hfs hq hst hfb hfl t0 t1
                      go_wp2_with fail
                      go_roundg (gg - 1)
                      case measure => omega
                      case rel => exact ⟨k + 1, by omega, by go_num, HP6.out⟩
            · have hb1 : decide (i < m.length) = false := decide_eq_false hil
              obtain rfl : i = m.length := by omega
              have hco := HC.out.2.2.2 ⟨HV0.out, HM0.out⟩
              have o1 := hps.o1
              have o2 := hps.o2
              rw [List.take_length] at o1
              have HE := Lib.hid (And.intro o1 (And.intro o2 hps.low))
              have HO := Lib.hid hco
              clear hps o1 o2 hco
              go_wp2_with fail
              refine bodyPost_ret (by simp [results, Try.results17, go_sem]; try rfl) rfl ?_
              rw [HO.out.1, HO.out.2.1, HO.out.2.2, HI.out.2.2]
              exact ⟨_, _, rfl, HE.out.1, HE.out.2.1, HE.out.2.2⟩
end Go.Proofs.Ythccnaemocdcbaa
