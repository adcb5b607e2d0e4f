import Derived.Test.YtggidakiflnhhaaQ
namespace Go.Proofs.Ytggidakiflnhhaa
open Go.RowKit
set_option maxHeartbeats 8000000
set_option maxRecDepth 100000
set_option linter.unusedSimpArgs false
set_option linter.unusedVariables false

theorem rlS_eq {A : AS} {k i : Nat} {es : List En} {e : En} (hr : rowA A k = es) (he : es[i]? = some e) : rlS k A i = { wb A e with cs := A.cs.set k (es.set i (clE e)) } := by
  unfold rlS; rw [hr, he]
theorem Ok.rlS {c : Cf} {A : AS} (h : Ok c A) (k i : Nat) : Ok c (rlS k A i) := by
  unfold Ytggidakiflnhhaa.rlS
  split
  · rename_i e he
    have hi := (List.getElem?_eq_some_iff.1 he).1
    have hei := (List.getElem?_eq_some_iff.1 he).2
    have hml : ((rowA A k).set i (clE e)).map En.l = (rowA A k).map En.l := by
      rw [List.map_set, clE_l]
      refine set_same ?_
      rw [List.getElem?_map, he]; rfl
    refine h.set (k := k) (es := (rowA A k).set i (clE e)) (wb_len A e) rfl (by rw [List.length_set]; exact h.rlen k) (fun f hf => ?_) (by rw [hml]; exact h.runi k)
    have : f.l ∈ ((rowA A k).set i (clE e)).map En.l := List.mem_map_of_mem hf
    rw [hml] at this
    obtain ⟨g, hg, e1⟩ := List.mem_map.1 this
    rw [← e1]
    exact h.rlin k g hg
  · exact h
theorem ok_rel {c : Cf} {A : AS} (h : Ok c A) (k : Nat) (is : List Nat) : Ok c (is.foldl (rlS k) A) := by
  induction is generalizing A with
  | nil => exact h
  | cons i is ih => rw [List.foldl_cons]; exact ih (h.rlS k i)
theorem cnt_rlS (k : Nat) (A : AS) (i : Nat) : cnt (rlS k A i) ≤ cnt A + 1 := by
  unfold rlS
  split
  · rename_i e he
    have := wb_cnt A e
    unfold cnt at *
    exact this
  · omega
theorem release_calls {c : Cf} {bs bm bc base : Nat} {A : AS} {w : World} (h : SysE c bs bm bc base A w) (hA : Ok c A) (hn : cnt A ≤ 900000000) (k : Nat) (kd p v : Int) (hk : (k : Int) < c.L) :
    Calls Try.prog 31 #[ptr bs, (Op.mk k kd p v).val] w (GtPost c bs bm bc base (relA A k) w) := by
  obtain ⟨sv, vv, ps, h⟩ := h
  obtain ⟨l, hl⟩ : ∃ l, ps[k]? = some l := ⟨_, List.getElem?_eq_getElem (by have := h.lc; have := hA.cl; omega)⟩
  obtain ⟨es, hes⟩ : ∃ es, A.cs[k]? = some es := ⟨_, List.getElem?_eq_getElem (by have := hA.cl; omega)⟩
  obtain ⟨sk, hsk⟩ := h.sv_at hl
  have hle := h.le _ _ _ hl hes
  have hr := rowA_some hes
  have hll : l.length ≤ 16 := by have h1 := hA.len k es hes; have h2 := hA.cf.2.2.2.2.2.2.1; omega
  have hks : k < sv.length := (List.getElem?_eq_some_iff.1 hsk).1
  have hksI : (k : Int) < (sv.length : Int) := by omega
  obtain ⟨ra, rc, rfl, hrc, hrd, _⟩ := (h.row k sk l hsk hl (by simp)).form lenQ
  obtain ⟨W1, hW1⟩ : ∃ W1, w.alloc (.cells (Op.mk k kd p v).cells 38) = W1 := ⟨_, rfl⟩
  have hb1 : Below w.heap.size w W1 := by rw [← hW1]; exact (Below.refl _ w).alloc (Nat.le_refl _) _
  have hbox : W1.heap[w.heap.size]? = some (.cells (Op.mk k kd p v).cells 38 (0, 0)) := by rw [← hW1]; exact Go.heap_alloc_new w _
  obtain ⟨b0, hb0⟩ : ∃ b0, w.heap.size = b0 := ⟨_, rfl⟩
  have hbl := Bel.of hb1 h.bp_size
  have h1 := h.rest hb1
  rw [hb0] at hbox
  have y0 : W1.cell? ⟨b0, 0, none⟩ = some (.int .i64 (k : Int)) := by rw [cell_of_row _ _ _ _ _ _ hbox]; rfl
  have s8 := h1.ten.2.2.2.2.2.2.2.2.1
  have t0 := (h1.at k _ hsk).1
  have H1 := Lib.hid (And.intro h1 hbl)
  have HQ := Lib.hid (And.intro hA (And.intro hl (And.intro hes (And.intro hle (And.intro hr (And.intro hsk hn))))))
  have HW := Lib.hid (And.intro hW1 hb0)
  clear h hA hl hes hle hr hW1 hb1 hbox hbl h1 hb0 hsk hrd hn
  go_enter Try.func31, Try.ntmps31
  go_upto_region 1 with fail
  rw [HW.out.1, HW.out.2]
  go_quiet (fail)
  clear y0 s8 t0
  go_wp2_with fail
  go_loopg [5, 15, 16, 17, 18, 19, 20, 21, 22] l.length (fun gk v5 v15 v16 v17 v18 v19 v20 v21 v22 wr => ∃ (j : Nat) (B : AS), j + gk = l.length ∧ v15 = .int .i64 (j : Int) ∧ B = (List.range j).foldl (rlS k) A ∧ Sys c bs bm bc base none sv vv ps B wr ∧ Bel base w wr ∧ cnt B ≤ cnt A + j)
  case atStart => exact ⟨0, A, by omega, rfl, rfl, H1.out.1.rest (drewN_below (Below.refl _ _) _), H1.out.2.trans (Bel.drewN _ _), by omega⟩
  case round =>
    obtain ⟨j, B, hj, rfl, hB, hs, hb, hcn⟩ := hrel
    have hOk : Ok c B := by rw [hB]; exact ok_rel HQ.out.1 k _
    by_cases hlt : j < l.length
    · have hd : decide (j < l.length) = true := decide_eq_true hlt
      obtain ⟨fs, hfs⟩ : ∃ es, B.cs[k]? = some es := ⟨_, List.getElem?_eq_getElem (by have := hOk.cl; omega)⟩
      have hfl := hs.le _ _ _ HQ.out.2.1 hfs
      obtain ⟨e, he⟩ : ∃ e, fs[j]? = some e := ⟨_, List.getElem?_eq_getElem (by omega)⟩
      obtain ⟨q, hq⟩ : ∃ q, l[j] = q := ⟨_, rfl⟩
      have hq1 : l[j]? = some q := by rw [List.getElem?_eq_getElem hlt, hq]
      obtain ⟨b, rfl, hcb⟩ := hs.rowCell HQ.out.2.1 HQ.out.2.2.2.2.2.1 j hlt
      rw [hq] at hcb
      have hfl2 := flush_calls hs HQ.out.2.1 hq1 hfs he (by have := hOk.ml; have := hOk.cf.2.2.2.1; omega) (hOk.lin k fs e hfs (List.mem_of_getElem? he)) (by have := HQ.out.2.2.2.2.2.2; unfold cnt at *; omega)
      unfold FlPost at hfl2
      rw [← rlS_eq (rowA_some hfs) he] at hfl2
      have HFL := Lib.hid hfl2
      have hls : (j : Int) < (l.length : Int) := by omega
      have HX := Lib.hid (And.intro hB (And.intro hs (And.intro hb hcn)))
      clear hB hs hb hcn hfs hfl he hq1 hfl2 hOk hq
      go_wp2_with ((with_reducible refine (HFL.out).mono ?_); rintro y w7 ⟨rfl, hs7, hb7⟩; have H7 := Lib.hid (And.intro hs7 hb7); clear hs7 hb7)
      go_roundg (gk - 1)
      case measure => omega
      case rel =>
        refine ⟨j + 1, rlS k B j, by omega, by go_num, ?_, H7.out.1, HX.out.2.2.1.trans H7.out.2, ?_⟩
        · rw [range_succ_foldl, ← HX.out.1]
        · have := cnt_rlS k B j
          have := HX.out.2.2.2
          omega
    · have hd : decide (j < l.length) = false := decide_eq_false hlt
      obtain rfl : j = l.length := by omega
      have HX := Lib.hid (And.intro hB (And.intro hs hb))
      clear hB hs hb hcn hOk
      go_wp2_with fail
      (first | go_end0 | go_ret)
      refine ⟨rfl, HX.out.2.2, sv, vv, ps, ?_⟩
      unfold relA
      rw [HQ.out.2.2.2.2.1, HQ.out.2.2.2.1, ← HX.out.1]
      exact HX.out.2.1
@[go_sem] theorem run_store_nilFunc {P : Program} {a : Addr} {m : Mode} (w : World) : (store a .nilFunc m).run P w = stored P w a .nilFunc m := run_store P w a _ m rfl
@[go_sem] theorem run_store_func {P : Program} {a : Addr} {m : Mode} (w : World) (f : Fn) (x y : Array Value) : (store a (.func f x y) m).run P w = stored P w a (.func f x y) m := run_store P w a _ m rfl
abbrev opsV : Value := .agg #[.nilFunc, .func (.func 45) #[] #[], .func (.func 46) #[] #[], .func (.func 47) #[] #[], .func (.func 31) #[] #[]]
theorem ops_calls (w : World) : Calls Try.prog 30 #[] w fun y w' => y = .returned opsV ∧ Below w.heap.size w w' := by
  have hb : ∀ cs, Below w.heap.size w (w.alloc (.cells cs 73)) := fun cs => (Below.refl _ w).alloc (Nat.le_refl _) _
  have HB := Lib.hid hb
  clear hb
  go_enter Try.func30, Try.ntmps30
  go_wp2_with fail
  refine bodyPost_ret (by simp [results, Try.results30, go_sem]; try rfl) rfl ?_
  exact ⟨rfl, HB.out _⟩

/-! ### the operations keep what holds -/
theorem rowA_get {A : AS} {k : Nat} (h : 0 < (rowA A k).length) : A.cs[k]? = some (rowA A k) := by
  unfold rowA at *
  rw [List.getD_eq_getElem?_getD] at *
  cases hk : A.cs[k]? with
  | none => rw [hk] at h; simp at h
  | some es => rfl
theorem Ok.touch {c : Cf} {A : AS} (h : Ok c A) (k x i : Nat) : Ok c (touchA A k x i) := by
  unfold touchA
  split
  · rename_i j hf
    obtain ⟨hj, _⟩ := fiF_some hf
    refine h.move (k := k) (j := j) (e := (rowA A k).getD j (newE 0)) rfl hj rfl (by rw [getD_row hj])
  · exact h
theorem Ok.fill {c : Cf} {A : AS} (h : Ok c A) (k x : Nat) (hx : x * 4 + 4 ≤ A.m.length) : Ok c (fillA c A k x) := by
  unfold fillA
  split
  · rename_i j hf
    obtain ⟨hj, _⟩ := fiF_some hf
    refine h.move (k := k) (j := j) (e := ftE A.m ((rowA A k).getD j (newE 0))) rfl hj rfl (by rw [ftE_l, getD_row hj])
  · rename_i hf
    exact h.entF hf hx
theorem Ok.get {c : Cf} {A : AS} (h : Ok c A) (k p : Nat) (hp : (p : Int) < c.W) : Ok c (getA c A k p) := by
  have hx : p / 4 * 4 + 4 ≤ A.m.length := by have h1 := h.ml; have h2 := h.cf; obtain ⟨_, _, _, _, o5, _⟩ := h2; omega
  unfold getA
  split
  · exact h.same rfl rfl
  · split
    · exact Ok.touch (h.same (B := { A with h := A.h + 1 }) rfl rfl) _ _ _
    · exact Ok.touch (ok_ahead (h.fill k _ hx) _ _ _) _ _ _
theorem Ok.put' {c : Cf} {A : AS} (h : Ok c A) (k p : Nat) (v : Int) (hp : (p : Int) < c.W) : Ok c (putA c A k p v) := by
  have hx : p / 4 * 4 + 4 ≤ A.m.length := by have h1 := h.ml; have h2 := h.cf; obtain ⟨_, _, _, _, o5, _⟩ := h2; omega
  unfold putA
  split
  · exact h.same (by simp) rfl
  · split
    · rename_i j hf
      obtain ⟨hj, _⟩ := fiF_some hf
      refine h.move (k := k) (j := j) (e := wrE ((rowA A k).getD j (newE 0)) (p % 4) v) rfl hj rfl (by rw [getD_row hj]; rfl)
    · rename_i hf
      exact h.put (k := k) (x := p / 4) (e := wrE (newE (p / 4)) (p % 4) v) (evA_m c A k _) rfl rfl hf hx
theorem Ok.acq {c : Cf} {A : AS} (h : Ok c A) (k : Nat) : Ok c (acqA A k) := by
  have hm : ((rowA A k).map acE).map En.l = (rowA A k).map En.l := by rw [List.map_map]; rfl
  have hsub : (((rowA A k).map acE).filter (fun e => anyT e.v)).Sublist ((rowA A k).map acE) := List.filter_sublist
  refine h.set (k := k) (es := ((rowA A k).map acE).filter (fun e => anyT e.v)) rfl rfl ?_ (fun e he => ?_) ?_
  · have h1 := hsub.length_le
    have h2 := h.rlen k
    rw [List.length_map] at h1
    omega
  · obtain ⟨f, hf, rfl⟩ := List.mem_map.1 (hsub.subset he)
    exact h.rlin k f hf
  · have := (hsub.map En.l)
    rw [hm] at this
    exact (h.runi k).sublist this
theorem Ok.rel {c : Cf} {A : AS} (h : Ok c A) (k : Nat) : Ok c (relA A k) := ok_rel h k _
theorem cnt_touch (A : AS) (k x i : Nat) : cnt (touchA A k x i) = cnt A := by unfold touchA; split <;> rfl
theorem cnt_fill (c : Cf) (A : AS) (k x : Nat) : cnt (fillA c A k x) ≤ cnt A + 2 := by
  unfold fillA
  split
  · unfold cnt; simp only; omega
  · exact cnt_entF _ _ _ _ _
theorem cnt_aheads (c : Cf) (k x : Nat) (A : AS) (is : List Nat) : cnt (is.foldl (ahS c k x) A) ≤ cnt A + 2 * is.length := by
  induction is generalizing A with
  | nil => simp
  | cons i is ih =>
    rw [List.foldl_cons]
    have h1 := ih (ahS c k x A i)
    have h2 := cnt_ahS c k x A i
    simp only [List.length_cons]
    omega
theorem ahN_le {c : Cf} (h : cfOk c) : ahN c ≤ 8 := by
  have := h.2.2.2.2.2.2.2.2
  unfold ahN
  omega
theorem cnt_get {c : Cf} (h : cfOk c) (A : AS) (k p : Nat) : cnt (getA c A k p) ≤ cnt A + 20 := by
  unfold getA
  split
  · show cnt A ≤ _; omega
  · split
    · rw [cnt_touch]; unfold cnt; simp only; omega
    · rw [cnt_touch]
      have h1 := cnt_aheads c k (p / 4) (fillA c A k (p / 4)) (List.range (ahN c))
      have h2 := cnt_fill c A k (p / 4)
      have h3 := ahN_le h
      rw [List.length_range] at h1
      unfold aheadA
      omega
theorem cnt_put (c : Cf) (A : AS) (k p : Nat) (v : Int) : cnt (putA c A k p v) ≤ cnt A + 20 := by
  unfold putA
  split
  · show cnt A ≤ _; omega
  · split
    · unfold cnt; simp only; omega
    · have := cnt_evA c A k (rowA A k)
      unfold cnt at *; simp only; omega
theorem cnt_rels (k : Nat) (A : AS) (is : List Nat) : cnt (is.foldl (rlS k) A) ≤ cnt A + is.length := by
  induction is generalizing A with
  | nil => simp
  | cons i is ih =>
    rw [List.foldl_cons]
    have h1 := ih (rlS k A i)
    have h2 := cnt_rlS k A i
    simp only [List.length_cons]
    omega
theorem cnt_rel {c : Cf} {A : AS} (h : Ok c A) (k : Nat) : cnt (relA A k) ≤ cnt A + 20 := by
  have h1 := cnt_rels k A (List.range (rowA A k).length)
  have h2 := h.rlen k
  have h3 := h.cf.2.2.2.2.2.2.1
  rw [List.length_range] at h1
  unfold relA
  omega
theorem touch_vs (A : AS) (k x i : Nat) : (touchA A k x i).vs.length ≤ A.vs.length + 1 := by unfold touchA; split <;> simp
theorem fill_vs (c : Cf) (A : AS) (k x : Nat) : (fillA c A k x).vs = A.vs := by
  unfold fillA
  split
  · rfl
  · exact entF_vs _ _ _ _ _
theorem get_vs (c : Cf) (A : AS) (k p : Nat) : (getA c A k p).vs.length ≤ A.vs.length + 1 := by
  unfold getA
  split
  · simp
  · split
    · exact touch_vs _ _ _ _
    · refine Nat.le_trans (touch_vs _ _ _ _) ?_
      rw [ahead_vs, fill_vs]
      omega
theorem evA_vs (c : Cf) (A : AS) (k : Nat) (es : List En) : (evA c A k es).vs = A.vs := by unfold evA wb; split <;> (try split) <;> rfl
theorem put_vs (c : Cf) (A : AS) (k p : Nat) (v : Int) : (putA c A k p v).vs = A.vs := by
  unfold putA
  split
  · rfl
  · split
    · rfl
    · exact evA_vs _ _ _ _
theorem rels_vs (k : Nat) (A : AS) (is : List Nat) : (is.foldl (rlS k) A).vs = A.vs := by
  induction is generalizing A with
  | nil => rfl
  | cons i is ih =>
    rw [List.foldl_cons, ih]
    unfold rlS
    split
    · exact wb_vs _ _
    · rfl
theorem opA_ok {c : Cf} {A : AS} (h : Ok c A) {o : Op} (ho : opOk c o) : Ok c (opA c A o) ∧ cnt (opA c A o) ≤ cnt A + 20 ∧ (opA c A o).vs.length ≤ A.vs.length + 1 := by
  obtain ⟨h1, h2, h3, h4, h5, h6⟩ := ho
  unfold opA
  split
  · exact ⟨h.get _ _ (by omega), cnt_get h.cf _ _ _, get_vs _ _ _ _⟩
  · split
    · exact ⟨h.put' _ _ _ (by omega), cnt_put _ _ _ _ _, by rw [put_vs]; omega⟩
    · split
      · exact ⟨h.acq _, by show cnt A ≤ _; omega, by show A.vs.length ≤ _; omega⟩
      · exact ⟨h.rel _, cnt_rel h _, by unfold relA; rw [rels_vs]; omega⟩
theorem init_ok {c : Cf} (h : cfOk c) : Ok c (initA c) := by
  obtain ⟨o1, o2, o3, o4, o5, o6, o7, o8, o9⟩ := id h
  have hr : ∀ (k : Nat) (es : List En), (initA c).cs[k]? = some es → es = [] := fun k es hk => by
    simp only [initA, List.getElem?_replicate] at hk
    split at hk
    · exact (Option.some.inj hk).symm
    · cases hk
  refine ⟨h, by simp [initA]; omega, by simp [initA]; omega, fun k es hk => ?_, fun k es e hk he => ?_, fun k es hk => ?_⟩
  · rw [hr k es hk]; simp; omega
  · rw [hr k es hk] at he; simp at he
  · rw [hr k es hk]; simp
end Go.Proofs.Ytggidakiflnhhaa
