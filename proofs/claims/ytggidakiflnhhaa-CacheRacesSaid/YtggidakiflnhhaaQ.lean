import Derived.Test.YtggidakiflnhhaaP
namespace Go.Proofs.Ytggidakiflnhhaa
open Go.RowKit
set_option maxHeartbeats 8000000
set_option maxRecDepth 100000
set_option linter.unusedSimpArgs false
set_option linter.unusedVariables false

/-! ### acquire and release -/
theorem clean_calls (p : Nat) (e : En) (w : World) (h : EnAt w p e) : Calls Try.prog 62 #[ptr p] w fun y w' => y = .returned (.bool (!anyT e.v)) ∧ Below w.heap.size w w' := by
  obtain ⟨y0, y1, y2, y3, y4, y5, y6, y7, y8, y9, y10, y11, y12⟩ := h.thirteen
  clear h
  go_enter Try.func62, Try.ntmps62
  go_wp2_with (refine wpList_clean rfl _ _ _ e.v rfl rfl rfl ?_)
  go_ret
  exact ⟨rfl, Below.refl _ _⟩
theorem deleteRow_calls (p : Nat → Bool) (fid : Nat) (cap : Array Value) (base : Nat) (v : Value) (xs : List Nat) (w : World) (hown : Own encQ 1 100 w base v xs)
    (hsm : xs.length ≤ 1000000)
    (hf : ∀ (args : Array Value) (w : World), (callFunc fid args).run Try.prog w = .ok (.enter fid args) w)
    (hp : ∀ k (h : k < xs.length) w1, w.grownBy w1 v.ownBlock → Calls Try.prog fid (#[ptr xs[k]] ++ cap) w1 fun e w' => e = .returned (.bool (p xs[k])) ∧ Below w1.heap.size w1 w') :
    Calls Try.prog 61 #[v, .func (.func fid) #[] cap] w (fun e w' => ∃ v', e = .returned v' ∧ Own encQ 1 100 w' base v' (xs.filter (fun x => !p x)) ∧ w.grownBy w' v.ownBlock ∧ v'.ownBlock = v.ownBlock) := by
  by_cases h0 : 0 < xs.length
  · obtain ⟨g, cp, rfl⟩ := hown.big h0
    exact (deleteFunc_calls p fid cap base g cp xs w hown hsm hf hp).mono fun e w' ⟨a, b, d⟩ => ⟨_, a, b, d, rfl⟩
  · obtain rfl : xs = [] := List.length_eq_zero_iff.1 (by omega)
    obtain ⟨A, c, rfl, hle, hrd, _⟩ := hown.form lenQ
    have hix : Calls Try.prog 63 #[.slice A 0 c, .func (.func fid) #[] cap] w fun e w' => e = .returned (.int .i64 (-1)) ∧ Below w.heap.size w w' := indexQ_calls p fid cap [] A c w hrd hf (fun k hk => by simp at hk)
    have HI := Lib.hid hix
    have HO := Lib.hid hown
    clear hix hown hrd hp
    show Calls Try.prog 61 #[.slice A 0 c, .func (.func fid) #[] cap] w _
    go_enter Try.func61, Try.ntmps61
    go_wp2_with fail
    (with_reducible refine (HI.out).mono ?_); rintro e w5 ⟨rfl, hb5⟩
    have HB5 := Lib.hid hb5
    clear hb5
    go_wp2_with fail
    go_ret
    exact ⟨_, rfl, HO.out.rest HB5.out, below_grownBy HB5.out _, rfl⟩
def acL (es : List En) (j : Nat) : List En := (es.take j).map acE ++ es.drop j
theorem acL_len (es : List En) (j : Nat) : (acL es j).length = es.length := by
  unfold acL
  rw [List.length_append, List.length_map, List.length_take, List.length_drop]; omega
theorem acL_at (es : List En) (j : Nat) (hj : j < es.length) : (acL es j)[j]? = some es[j] := by
  unfold acL
  rw [List.getElem?_append_right (by simp; omega)]
  simp only [List.length_map, List.length_take]
  rw [Nat.min_eq_left (by omega), Nat.sub_self, List.getElem?_drop]
  simp [hj]
theorem acL_step (es : List En) (j : Nat) (hj : j < es.length) : (acL es j).set j (acE es[j]) = acL es (j + 1) := by
  unfold acL
  rw [List.set_append_right _ _ (by simp; omega)]
  simp only [List.length_map, List.length_take]
  rw [Nat.min_eq_left (by omega), Nat.sub_self, List.drop_eq_getElem_cons hj, List.set_cons_zero, List.take_succ_eq_append_getElem hj, List.map_append, List.append_assoc]
  rfl
theorem acL_all (es : List En) : acL es es.length = es.map acE := by simp [acL]
theorem En.cells_v (e : En) : ({ e with v := upd (upd (upd (upd e.v 0 (e.t 0)) 1 (e.t 1)) 2 (e.t 2)) 3 (e.t 3) } : En).cells = (acE e).cells := rfl
/-- removing the entries that a test names from the pointers and from the entries alike -/
theorem filter_pair (P : Nat → Bool) (f : En → Bool) : ∀ (l : List Nat) (es : List En), es.length = l.length → (∀ (i p : Nat) (e : En), l[i]? = some p → es[i]? = some e → P p = f e) →
    (es.filter f).length = (l.filter P).length ∧ ∀ (j p : Nat) (e : En), (l.filter P)[j]? = some p → (es.filter f)[j]? = some e → ∃ i : Nat, l[i]? = some p ∧ es[i]? = some e
  | [], es, h, _ => by
    obtain rfl : es = [] := List.length_eq_zero_iff.1 h
    simp
  | a :: l, [], h, _ => by simp at h
  | a :: l, e0 :: es, h, hp => by
    have h0 := hp 0 a e0 rfl rfl
    obtain ⟨ih1, ih2⟩ := filter_pair P f l es (by simpa using h) (fun i p e x y => hp (i + 1) p e (by simpa using x) (by simpa using y))
    rw [List.filter_cons, List.filter_cons, h0]
    cases f e0 with
    | false =>
      refine ⟨by simpa using ih1, fun j p e x y => ?_⟩
      obtain ⟨i, a1, a2⟩ := ih2 j p e (by simpa using x) (by simpa using y)
      exact ⟨i + 1, by simpa using a1, by simpa using a2⟩
    | true =>
      refine ⟨by simpa using ih1, fun j p e x y => ?_⟩
      cases j with
      | zero => exact ⟨0, by simpa using x, by simpa using y⟩
      | succ j =>
        obtain ⟨i, a1, a2⟩ := ih2 j p e (by simpa using x) (by simpa using y)
        exact ⟨i + 1, by simpa using a1, by simpa using a2⟩
/-- has the entry at a pointer a valid word -/
def pV (l : List Nat) (es : List En) (q : Nat) : Bool := match es[l.idxOf q]? with | some e => anyT e.v | none => false
theorem pV_at {l : List Nat} {es : List En} (hn : l.Nodup) {i p : Nat} {e : En} (hi : l[i]? = some p) (he : es[i]? = some e) : pV l es p = anyT e.v := by
  have hil := (List.getElem?_eq_some_iff.1 hi).1
  have hp := (List.getElem?_eq_some_iff.1 hi).2
  unfold pV
  rw [← hp, List.Nodup.idxOf_getElem hn i hil, he]
theorem Sys.rowCell {c : Cf} {bs bm bc base : Nat} {sv : List Value} {vv : Value} {ps : List (List Nat)} {A : AS} {w : World} (h : Sys c bs bm bc base none sv vv ps A w) {k n rc : Nat} {ra : Option Addr} {l : List Nat} (hk : ps[k]? = some l) (hv : sv[k]? = some (.slice ra n rc)) (j : Nat) (hj : j < l.length) : ∃ b, ra = some b ∧ w.cell? (b.add j) = some (ptr l[j]) := by
  obtain ⟨A2, c2, e, _, hrd, _⟩ := (h.row k _ l hv hk (by simp)).form lenQ
  obtain ⟨rfl, _, _⟩ := Value.slice.inj e
  obtain ⟨b, hb, hc⟩ := hrd.cell j hj
  exact ⟨b, hb, by simpa using hc 0 _ rfl⟩
theorem acquire_calls {c : Cf} {bs bm bc base : Nat} {A : AS} {w : World} (h : SysE c bs bm bc base A w) (hA : Ok c A) (k : Nat) (kd p v : Int) (hk : (k : Int) < c.L) :
    Calls Try.prog 47 #[ptr bs, (Op.mk k kd p v).val] w (GtPost c bs bm bc base (acqA A k) w) := by
  obtain ⟨sv, vv, ps, h⟩ := h
  obtain ⟨l, hl⟩ : ∃ l, ps[k]? = some l := ⟨_, List.getElem?_eq_getElem (by have := h.lc; have := hA.cl; omega)⟩
  obtain ⟨es, hes⟩ : ∃ es, A.cs[k]? = some es := ⟨_, List.getElem?_eq_getElem (by have := hA.cl; omega)⟩
  obtain ⟨sk, hsk⟩ := h.sv_at hl
  have hle := h.le _ _ _ hl hes
  have hr := rowA_some hes
  have hll : l.length ≤ 16 := by have h1 := hA.len k es hes; have h2 := hA.cf.2.2.2.2.2.2.1; omega
  have hks : k < sv.length := (List.getElem?_eq_some_iff.1 hsk).1
  have hksI : (k : Int) < (sv.length : Int) := by omega
  obtain ⟨ra, rc, rfl, hrc, hrd, _⟩ := (h.row k sk l hsk hl (by simp)).form lenQ
  obtain ⟨W1, hW1⟩ : ∃ W1, w.alloc (.cells (Op.mk k kd p v).cells 38) = W1 := ⟨_, rfl⟩
  have hb1 : Below w.heap.size w W1 := by rw [← hW1]; exact (Below.refl _ w).alloc (Nat.le_refl _) _
  have hbox : W1.heap[w.heap.size]? = some (.cells (Op.mk k kd p v).cells 38 (0, 0)) := by rw [← hW1]; exact Go.heap_alloc_new w _
  obtain ⟨b0, hb0⟩ : ∃ b0, w.heap.size = b0 := ⟨_, rfl⟩
  have hbl := Bel.of hb1 h.bp_size
  have h1 := h.rest hb1
  rw [hb0] at hbox
  have y0 : W1.cell? ⟨b0, 0, none⟩ = some (.int .i64 (k : Int)) := by rw [cell_of_row _ _ _ _ _ _ hbox]; rfl
  have s8 := h1.ten.2.2.2.2.2.2.2.2.1
  have t0 := (h1.at k _ hsk).1
  have H1 := Lib.hid (And.intro h1 (And.intro hbl hbox))
  have HQ := Lib.hid (And.intro hA (And.intro hl (And.intro hes (And.intro hle (And.intro hr (And.intro hsk hrd))))))
  have HW := Lib.hid (And.intro hW1 hb0)
  have hn := h.nodup hl
  have HN := Lib.hid hn
  clear h hA hl hes hle hr hW1 hb1 hbox hbl h1 hb0 hsk hrd hn
  go_enter Try.func47, Try.ntmps47
  go_upto_region 1 with fail
  rw [HW.out.1, HW.out.2]
  go_quiet (fail)
  clear y0 s8 t0
  go_wp2_with fail
  go_loopg [5, 15, 16, 17, 18, 19, 20, 21, 22, 23, 24, 25, 26] l.length (fun gk v5 v15 v16 v17 v18 v19 v20 v21 v22 v23 v24 v25 v26 wr => ∃ j : Nat, j + gk = l.length ∧ v15 = .int .i64 (j : Int) ∧ Sys c bs bm bc base none sv vv ps { A with cs := A.cs.set k (acL es j) } wr ∧ Bel base w wr ∧ wr.heap[b0]? = some (.cells (Op.mk k kd p v).cells 38 (0, 0)))
  case atStart =>
    refine ⟨0, by omega, rfl, ?_, H1.out.2.1.trans (Bel.drewN _ _), H1.out.2.2⟩
    show Sys c bs bm bc base none sv vv ps { A with cs := A.cs.set k es } _
    rw [set_same HQ.out.2.2.1]
    exact H1.out.1.rest (drewN_below (Below.refl _ _) _)
  case round =>
    obtain ⟨j, hj, rfl, hs, hb, hx⟩ := hrel
    have hkc : (A.cs.set k (acL es j))[k]? = some (acL es j) := List.getElem?_set_self (List.getElem?_eq_some_iff.1 HQ.out.2.2.1).1
    by_cases hlt : j < l.length
    · have hd : decide (j < l.length) = true := decide_eq_true hlt
      have hje : j < es.length := by have := HQ.out.2.2.2.1; omega
      obtain ⟨e, he⟩ : ∃ e, es[j] = e := ⟨_, rfl⟩
      obtain ⟨q, hq⟩ : ∃ q, l[j] = q := ⟨_, rfl⟩
      have hq1 : l[j]? = some q := by rw [List.getElem?_eq_getElem hlt, hq]
      have he1 : (acL es j)[j]? = some e := by rw [acL_at es j hje, he]
      have hen : EnAt wr q e := hs.ent _ _ _ _ _ _ HQ.out.2.1 hkc hq1 he1
      obtain ⟨b, rfl, hcb⟩ := hs.rowCell HQ.out.2.1 HQ.out.2.2.2.2.2.1 j hlt
      rw [hq] at hcb
      obtain ⟨k0, k1, k2, k3, k4, k5, k6, k7, k8, k9, k10, k11, k12⟩ := hen.thirteen
      have f5 := hen.frozen 5
      have f6 := hen.frozen 6
      have f7 := hen.frozen 7
      have f8 := hen.frozen 8
      have hls : (j : Int) < (l.length : Int) := by omega
      have HX := Lib.hid (And.intro hs (And.intro hb (And.intro hx (And.intro hkc (And.intro hq1 (And.intro he1 hen))))))
      have HE := Lib.hid (show ∃ h : j < es.length, es[j] = e from ⟨hje, he⟩)
      clear hs hb hx hkc hq1 he1 hen k0 k1 k2 k3 k4 hje he hq
      go_wp2_with fail
      go_roundg (gk - 1)
      case measure => omega
      case rel =>
        have hen := HX.out.2.2.2.2.2.2
        have e1 := hen.set 5 _ (En.set_v e 0 (by decide) (e.t 0))
        have e2 := e1.set 6 _ (En.set_v _ 1 (by decide) (e.t 1))
        have e3 := e2.set 7 _ (En.set_v _ 2 (by decide) (e.t 2))
        have e4 := e3.set 8 _ (En.set_v _ 3 (by decide) (e.t 3))
        have hg := grownBy_trans (grownBy_trans (grownBy_trans (grownBy_set wr q 5 (.bool (e.t 0))) (grownBy_set _ q 6 (.bool (e.t 1)))) (grownBy_set _ q 7 (.bool (e.t 2)))) (grownBy_set _ q 8 (.bool (e.t 3)))
        have h5 := HX.out.1.setEnt HQ.out.2.1 HX.out.2.2.2.2.1 HX.out.2.2.2.1 (acE e) hg (by
          unfold EnAt at e4
          rw [e4, ← En.cells_v])
        have hbb := HX.out.1.below (HX.out.1.pen HQ.out.2.1 HX.out.2.2.2.2.1) hg
        refine ⟨j + 1, by omega, by go_num, ?_, HX.out.2.1.trans hbb, hbb.keep _ _ _ (by decide) (by decide) (by decide) (by decide) (by decide) HX.out.2.2.1⟩
        obtain ⟨hje, he⟩ := HE.out
        have h6 := acL_step es j hje
        rw [he] at h6
        rw [h6, List.set_set] at h5
        exact h5
    · have hd : decide (j < l.length) = false := decide_eq_false hlt
      obtain rfl : j = l.length := by omega
      rw [show acL es l.length = es.map acE by rw [← HQ.out.2.2.2.1, acL_all]] at hs
      have hkc : (A.cs.set k (es.map acE))[k]? = some (es.map acE) := List.getElem?_set_self (List.getElem?_eq_some_iff.1 HQ.out.2.2.1).1
      have y0 : wr.cell? ⟨b0, 0, none⟩ = some (.int .i64 (k : Int)) := by rw [cell_of_row _ _ _ _ _ _ hx]; rfl
      obtain ⟨B, hB⟩ : ∃ B : AS, ({ A with cs := A.cs.set k (es.map acE) } : AS) = B := ⟨_, rfl⟩
      rw [hB] at hs
      have hBc : B.cs[k]? = some (es.map acE) := by rw [← hB]; exact hkc
      have hBs : B.cs.set k ((es.map acE).filter (fun e => anyT e.v)) = A.cs.set k ((es.map acE).filter (fun e => anyT e.v)) := by rw [← hB]; simp [List.set_set]
      have hle2 : (es.map acE).length = l.length := by simp [HQ.out.2.2.2.1]
      have hfp := filter_pair (pV l (es.map acE)) (fun e => anyT e.v) l (es.map acE) hle2 (fun i p e a b => pV_at HN.out a b)
      have hdl : ∀ w2, Sys c bs bm bc base (some k) sv vv ps B w2 → Own encQ 1 100 w2 base (.slice ra l.length rc) l → Calls Try.prog 61 #[.slice ra l.length rc, .func (.func 62) #[] #[]] w2 (fun x w3 => ∃ v', x = .returned v' ∧ Own encQ 1 100 w3 base v' (l.filter (pV l (es.map acE))) ∧ Sys c bs bm bc base (some k) sv vv ps B w3 ∧ w2.grownBy w3 (Value.slice ra l.length rc).ownBlock ∧ v'.ownBlock = (Value.slice ra l.length rc).ownBlock) := fun w2 hs2 ho2 => by
        have hapt : ∀ (j : Nat) (u : Value), sv[j]? = some u → j ≠ k → Apt (.slice ra l.length rc) u := fun j u a b => hs.apt k j _ u HQ.out.2.2.2.2.2.1 a (fun e => b e.symm) (by simp) (by simp)
        refine (deleteRow_calls (fun x => !pV l (es.map acE) x) 62 #[] base _ l w2 ho2 (by omega) (enters_of Try.func62 (by kernel_rfl) rfl) (fun j hj w3 hg => ?_)).mono ?_
        · have hs3 := hs2.keptRow ho2 hapt hg
          have hj2 : j < (es.map acE).length := by omega
          have e1 := hs3.ent k l (es.map acE) j _ _ HQ.out.2.1 hBc (List.getElem?_eq_getElem hj) (List.getElem?_eq_getElem hj2)
          simp only [pV_at HN.out (List.getElem?_eq_getElem hj) (List.getElem?_eq_getElem hj2)]
          exact clean_calls l[j] _ w3 e1
        · rintro x w3 ⟨v', a, b, d, f⟩
          simp only [Bool.not_not] at b
          exact ⟨v', a, b, hs2.keptRow ho2 hapt d, d, f⟩
      have F := Lib.hid (And.intro ((hs.open k).rest (bb_drew (Below.refl _ _))) (And.intro ((hs.row k _ l HQ.out.2.2.2.2.2.1 HQ.out.2.1 (by simp)).rest (bb_drew (Below.refl _ _))) (And.intro hb.drew (show wr.drew.heap[b0]? = some (.cells (Op.mk k kd p v).cells 38 (0, 0)) from hx))))
      have HDL := Lib.hid hdl
      have HB := Lib.hid (And.intro hB (And.intro hBc (And.intro hBs (And.intro hfp (fun (j : Nat) (u : Value) (a : sv[j]? = some u) (b : j ≠ k) => hs.apt k j _ u HQ.out.2.2.2.2.2.1 a (fun e => b e.symm) (by simp) (by simp))))))
      clear hs hb hx hkc hB hBc hBs hle2 hfp hdl
      go_upto_region 6 with fail
      refine wp_region_held_drew (S := (fun w' => w'.cell? ⟨bs, 8, none⟩ = some (.slice (some ⟨bc, 0, none⟩) sv.length sv.length) ∧ w'.cell? ⟨b0, 0, none⟩ = some (.int .i64 (k : Int)))) (by kernel_rfl) ?_ (fun hHelda => ?_)
      · (try dsimp only); exact ⟨F.out.1.ten.2.2.2.2.2.2.2.2.1, by rw [cell_of_row _ _ _ _ _ _ F.out.2.2.2]; rfl⟩
      refine wpAnyH_take (i := 0) (oi := _) (v := ?va1) rfl (by kernel_rfl) (by kernel_rfl) (by kernel_rfl) (fun _ _ _ h => h) (Or.inl ⟨by rfl, ?hya1⟩) (by assumption) ?resta1
      case hya1 => (intro w hSw; (try dsimp only at hSw); go_simp; all_goals with_reducible rfl)
      try simp only [Act.put, List.getElem_toArray, List.getElem_cons_zero, List.getElem_cons_succ, List.setIfInBounds_toArray, List.set_cons_zero, List.set_cons_succ]
      refine wpAnyH_take (i := 1) (oi := _) (v := ?va2) rfl (by kernel_rfl) (by kernel_rfl) (by kernel_rfl) (fun _ _ _ h => h) (Or.inl ⟨by rfl, ?hya2⟩) (by assumption) ?resta2
      case hya2 => (intro w hSw; (try dsimp only at hSw); go_simp; all_goals with_reducible rfl)
      try simp only [Act.put, List.getElem_toArray, List.getElem_cons_zero, List.getElem_cons_succ, List.setIfInBounds_toArray, List.set_cons_zero, List.set_cons_succ]
      refine wpAnyH_take (i := 2) (oi := _) (v := ?va3) rfl (by kernel_rfl) (by kernel_rfl) (by kernel_rfl) (fun _ _ _ h => h) (Or.inl ⟨by rfl, ?hya3⟩) (by assumption) ?resta3
      case hya3 => (intro w hSw; (try dsimp only at hSw); go_simp; all_goals with_reducible rfl)
      try simp only [Act.put, List.getElem_toArray, List.getElem_cons_zero, List.getElem_cons_succ, List.setIfInBounds_toArray, List.set_cons_zero, List.set_cons_succ]
      refine wpAnyH_take (i := 3) (oi := _) (v := ?va4) rfl (by kernel_rfl) (by kernel_rfl) (by kernel_rfl) (fun _ _ _ h => h) (Or.inl ⟨by rfl, ?hya4⟩) (by assumption) ?resta4
      case hya4 => (intro w hSw; (try dsimp only at hSw); go_simp; all_goals with_reducible rfl)
      try simp only [Act.put, List.getElem_toArray, List.getElem_cons_zero, List.getElem_cons_succ, List.setIfInBounds_toArray, List.set_cons_zero, List.set_cons_succ]
      refine wpAnyH_take (i := 4) (oi := _) (v := ?va5) rfl (by kernel_rfl) (by kernel_rfl) (by kernel_rfl) (fun _ _ _ h => h) (Or.inl ⟨by rfl, ?hya5⟩) (by assumption) ?resta5
      case hya5 => (intro w hSw; (try dsimp only at hSw); go_simp; all_goals with_reducible rfl)
      try simp only [Act.put, List.getElem_toArray, List.getElem_cons_zero, List.getElem_cons_succ, List.setIfInBounds_toArray, List.set_cons_zero, List.set_cons_succ]
      refine wpAnyH_take (i := 5) (oi := _) (v := ?va6) rfl (by kernel_rfl) (by kernel_rfl) (by kernel_rfl) (fun _ _ _ h => h) (Or.inl ⟨by rfl, ?hya6⟩) (by assumption) ?resta6
      case hya6 => (intro w hSw; (try dsimp only at hSw); go_simp; all_goals with_reducible rfl)
      try simp only [Act.put, List.getElem_toArray, List.getElem_cons_zero, List.getElem_cons_succ, List.setIfInBounds_toArray, List.set_cons_zero, List.set_cons_succ]
      refine wpAnyH_take (i := 6) (oi := _) (v := ?va7) rfl (by kernel_rfl) (by kernel_rfl) (by kernel_rfl) (fun _ _ _ h => h) (Or.inl ⟨by rfl, ?hya7⟩) (by assumption) ?resta7
      case hya7 => (intro w hSw; (try dsimp only at hSw); go_simp; all_goals with_reducible rfl)
      try simp only [Act.put, List.getElem_toArray, List.getElem_cons_zero, List.getElem_cons_succ, List.setIfInBounds_toArray, List.set_cons_zero, List.set_cons_succ]
      refine wpAnyH_take (i := 7) (oi := _) (v := ?va8) rfl (by kernel_rfl) (by kernel_rfl) (by kernel_rfl) (fun _ _ _ h => h) (Or.inl ⟨by rfl, ?hya8⟩) (by assumption) ?resta8
      case hya8 => (intro w hSw; (try dsimp only at hSw); go_simp; all_goals with_reducible rfl)
      try simp only [Act.put, List.getElem_toArray, List.getElem_cons_zero, List.getElem_cons_succ, List.setIfInBounds_toArray, List.set_cons_zero, List.set_cons_succ]
      refine wpAnyH_take (i := 8) (oi := _) (v := ?va9) rfl (by kernel_rfl) (by kernel_rfl) (by kernel_rfl) (fun _ _ _ h => h) (Or.inl ⟨by rfl, ?hya9⟩) (by assumption) ?resta9
      case hya9 => (intro w hSw; (try dsimp only at hSw); go_simp; all_goals with_reducible rfl)
      try simp only [Act.put, List.getElem_toArray, List.getElem_cons_zero, List.getElem_cons_succ, List.setIfInBounds_toArray, List.set_cons_zero, List.set_cons_succ]
      refine wpAnyH_take (i := 9) (oi := _) (v := ?va10) rfl (by kernel_rfl) (by kernel_rfl) (by kernel_rfl) (fun _ _ _ h => h) (Or.inl ⟨by rfl, ?hya10⟩) (by assumption) ?resta10
      case hya10 => (intro w hSw; (try dsimp only at hSw); go_simp; all_goals with_reducible rfl)
      try simp only [Act.put, List.getElem_toArray, List.getElem_cons_zero, List.getElem_cons_succ, List.setIfInBounds_toArray, List.set_cons_zero, List.set_cons_succ]
      refine wpAnyH_take (i := 10) (oi := _) (v := ?va11) rfl (by kernel_rfl) (by kernel_rfl) (by kernel_rfl) (fun _ _ _ h => h) (Or.inl ⟨by rfl, ?hya11⟩) (by assumption) ?resta11
      case hya11 => (intro w hSw; (try dsimp only at hSw); go_simp; all_goals with_reducible rfl)
      try simp only [Act.put, List.getElem_toArray, List.getElem_cons_zero, List.getElem_cons_succ, List.setIfInBounds_toArray, List.set_cons_zero, List.set_cons_succ]
      refine wpAnyH_take (i := 11) (oi := _) (v := ?va12) rfl (by kernel_rfl) (by kernel_rfl) (by kernel_rfl) (fun _ _ _ h => h) (Or.inl ⟨by rfl, ?hya12⟩) (by assumption) ?resta12
      case hya12 => (intro w hSw; (try dsimp only at hSw); go_simp; all_goals with_reducible rfl)
      try simp only [Act.put, List.getElem_toArray, List.getElem_cons_zero, List.getElem_cons_succ, List.setIfInBounds_toArray, List.set_cons_zero, List.set_cons_succ]
      refine wpAnyH_take (i := 12) (oi := _) (v := ?va13) rfl (by kernel_rfl) (by kernel_rfl) (by kernel_rfl) (fun _ _ _ h => h) (Or.inl ⟨by rfl, ?hya13⟩) (by assumption) ?resta13
      case hya13 => (intro w hSw; (try dsimp only at hSw); go_simp; all_goals with_reducible rfl)
      try simp only [Act.put, List.getElem_toArray, List.getElem_cons_zero, List.getElem_cons_succ, List.setIfInBounds_toArray, List.set_cons_zero, List.set_cons_succ]
      refine wpAnyH_ready (rs := [13]) (by kernel_rfl) (by simp) ?_
      refine AllReadyH.cons (o := _) rfl (fun K hK => ?_) AllReadyH.nil
      have t0 := (F.out.1.at k _ HQ.out.2.2.2.2.2.1).1
      go_simp
      clear t0
      refine hK.out _ _ ?_ (fun hHelda14 => ?_)
      · (try dsimp only); exact ⟨F.out.1.ten.2.2.2.2.2.2.2.2.1, by rw [cell_of_row _ _ _ _ _ _ F.out.2.2.2]; rfl⟩
      clear hK K hHelda
      try simp only [Act.put, List.getElem_toArray, List.getElem_cons_zero, List.getElem_cons_succ, List.setIfInBounds_toArray, List.set_cons_zero, List.set_cons_succ]
      refine wpAnyH_ready (rs := [14]) (by kernel_rfl) (by simp) ?_
      refine AllReadyH.cons (o := _) rfl (fun K hK => ?_) AllReadyH.nil
      go_simp
      (with_reducible refine (HDL.out _ F.out.1 F.out.2.1).mono ?_)
      rintro y u ⟨v', rfl, hO, hS, hG, hE⟩
      obtain ⟨a2, c2, rfl, _, _, _⟩ := hO.form lenQ
      have hbb := F.out.1.belowRow F.out.2.1 hG
      have F2 := Lib.hid (And.intro hS (And.intro hO (And.intro (F.out.2.2.1.trans hbb) (And.intro (hbb.keep _ _ _ (by decide) (by decide) (by decide) (by decide) (by decide) F.out.2.2.2) hE))))
      clear hO hS hG hE hbb
      go_wp2_with fail
      refine hK.out _ _ ?_ (fun hHelda15 => ?_)
      · (try dsimp only); exact ⟨F2.out.1.ten.2.2.2.2.2.2.2.2.1, by rw [cell_of_row _ _ _ _ _ _ F2.out.2.2.2.1]; rfl⟩
      clear hK K hHelda14
      try simp only [Act.put, List.getElem_toArray, List.getElem_cons_zero, List.getElem_cons_succ, List.setIfInBounds_toArray, List.set_cons_zero, List.set_cons_succ]
      refine wpAnyH_take (i := 15) (oi := _) (v := ?va16) rfl (by kernel_rfl) (by kernel_rfl) (by kernel_rfl) (fun _ _ _ h => h) (Or.inl ⟨by rfl, ?hya16⟩) (by assumption) ?resta16
      case hya16 => (intro w hSw; (try dsimp only at hSw); go_simp; all_goals with_reducible rfl)
      try simp only [Act.put, List.getElem_toArray, List.getElem_cons_zero, List.getElem_cons_succ, List.setIfInBounds_toArray, List.set_cons_zero, List.set_cons_succ]
      refine wpAnyH_ready (rs := [16]) (by kernel_rfl) (by simp) ?_
      refine AllReadyH.cons (o := _) rfl (fun K hK => ?_) AllReadyH.nil
      have t0 := (F2.out.1.at k _ HQ.out.2.2.2.2.2.1).1
      have t1 := (F2.out.1.at k _ HQ.out.2.2.2.2.2.1).2
      go_simp
      clear t0 t1
      have hz := F2.out.1.close (v := .slice a2 (l.filter (pV l (es.map acE))).length c2) (l := l.filter (pV l (es.map acE))) (es := (es.map acE).filter (fun e => anyT e.v)) (List.getElem?_eq_some_iff.1 HQ.out.2.1).1 F2.out.2.1 (fun j u a b x hx => HB.out.2.2.2.2 j u a b x (by rw [← F2.out.2.2.2.2]; exact hx)) HB.out.2.2.2.1.1 (fun j q f a b => by obtain ⟨i, x, y⟩ := HB.out.2.2.2.1.2 j q f a b; exact F2.out.1.ent _ _ _ _ _ _ HQ.out.2.1 HB.out.2.1 x y) (HN.out.filter _) (fun j l' q a b d => useFar F2.out.1 HQ.out.2.1 b (fun e => a e.symm) (List.mem_filter.1 d).1) (fun q d => F2.out.1.bp _ _ _ HQ.out.2.1 (List.mem_filter.1 d).1)
      have hbb := F2.out.1.below F2.out.1.pbc hz.2
      have hz8 := hz.1.ten.2.2.2.2.2.2.2.2.1
      rw [List.length_set] at hz8
      have hbx := hbb.keep _ _ _ (by decide) (by decide) (by decide) (by decide) (by decide) F2.out.2.2.2.1
      have HZ := Lib.hid (And.intro hz8 (show (u.setCell ⟨bc, k, none⟩ (.slice a2 (l.filter (pV l (es.map acE))).length c2)).cell? ⟨b0, 0, none⟩ = some (.int .i64 (k : Int)) from by rw [cell_of_row _ _ _ _ _ _ hbx]; rfl))
      have HFF := Lib.hid (And.intro hz.1 (F2.out.2.2.1.trans hbb))
      clear hz hbb hz8 hbx
      refine hK.out _ _ ?_ (fun hHelda17 => ?_)
      · (try dsimp only); exact ⟨HZ.out.1, HZ.out.2⟩
      clear hK K hHelda15
      try simp only [Act.put, List.getElem_toArray, List.getElem_cons_zero, List.getElem_cons_succ, List.setIfInBounds_toArray, List.set_cons_zero, List.set_cons_succ]
      refine wpAnyH_done (by kernel_rfl) ?_ _
      go_wp2_with fail
      (first | go_end0 | go_ret)
      refine ⟨rfl, HFF.out.2, sv.set k (.slice a2 (l.filter (pV l (es.map acE))).length c2), vv, ps.set k (l.filter (pV l (es.map acE))), ?_⟩
      have h9 := HFF.out.1
      rw [HB.out.2.2.1, ← HB.out.1] at h9
      unfold acqA
      rw [HQ.out.2.2.2.2.1]
      exact h9
end Go.Proofs.Ytggidakiflnhhaa
