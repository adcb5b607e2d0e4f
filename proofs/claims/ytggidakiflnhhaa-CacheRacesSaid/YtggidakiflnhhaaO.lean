import Derived.Test.YtggidakiflnhhaaN
import Derived.Deep.CutBlock
namespace Go.Proofs.Ytggidakiflnhhaa
open Go.RowKit
set_option maxHeartbeats 8000000
set_option maxRecDepth 100000
set_option linter.unusedSimpArgs false
set_option linter.unusedVariables false

/-- the system, its slices and pointers left open -/
def SysE (c : Cf) (bs bm bc base : Nat) (A : AS) (w : World) : Prop := ∃ sv vv ps, Sys c bs bm bc base none sv vv ps A w
def GtPost (c : Cf) (bs bm bc base : Nat) (A : AS) (w : World) (y : Ending) (w' : World) : Prop := y = .returned (.tuple #[]) ∧ Bel base w w' ∧ SysE c bs bm bc base A w'
/-- behind the call of home: may its region be left -/
theorem sysHome_calls (c : Cf) (hok : cfOk c) (x : Nat) (hx : x ≤ 100000) : ∀ w, Calls Try.prog 33 #[c.val, .int .i64 (x : Int)] w fun y w' => y = .returned (.int .i64 (hmF c x)) ∧ Below w.heap.size w w' := fun w => home_calls c hok x hx w
section
variable {c : Cf} {bs bm bc base : Nat} {hole : Option Nat} {sv : List Value} {vv : Value} {ps : List (List Nat)} {A : AS} {w w' : World}
theorem Sys.valKeep (h : Sys c bs bm bc base hole sv vv ps A w) (hg : w.grownBy w' vv.ownBlock) {b : Nat} {cs' : Array Value} {t' : TypeId} (hb : w.heap[b]? = some (.cells cs' t' (0, 0))) (e : t' ≠ 3 ∨ b = bm) : w'.heap[b]? = some (.cells cs' t' (0, 0)) := by
  refine (hg.block _ (blk_lt hb) (fun e' => ?_)).trans hb
  rcases e with e | rfl
  · obtain ⟨_, _, cur, hc⟩ := h.val.blk b e'.symm
    rw [hb] at hc
    simp at hc
    exact e hc.2
  · exact h.vap e'.symm
theorem Sys.tellTop (h : Sys c bs bm bc base hole sv vv ps A w) (hg : w.grownBy w' vv.ownBlock) : w'.cell? ⟨bs, 9, none⟩ = some vv ∧ w'.frozen? ⟨bs, 9, none⟩ = false := by
  have h1 := h.valKeep hg h.top (Or.inl (by decide))
  exact ⟨by rw [cell_of_row _ _ _ _ _ _ h1]; rfl, frozen_of_row _ _ _ _ _ h1⟩
theorem Sys.belowVal (h : Sys c bs bm bc base hole sv vv ps A w) (hg : w.grownBy w' vv.ownBlock) : Bel base w w' := by
  cases hv : vv.ownBlock with
  | none => rw [hv] at hg; exact Bel.of ⟨hg.os, hg.tape, hg.output, hg.size, fun k hk => hg.block k hk (by simp)⟩ h.bp_size
  | some x => rw [hv] at hg; exact h.below (h.pvv hv) hg
theorem Sys.belowTop (h : Sys c bs bm bc base hole sv vv ps A w) (hg : w.grownBy w' vv.ownBlock) {w2 : World} (hg2 : w'.grownBy w2 (some bs)) : Bel base w' w2 := by
  have h1 := h.valKeep hg h.top (Or.inl (by decide))
  have hs : base ≤ w'.heap.size := Nat.le_trans h.bp_size hg.size
  refine ⟨(Below.refl base w').grown hg2 hs (fun b hb => by cases hb; exact h.bs_), fun b cs t h71 _ _ _ _ hb => ?_⟩
  refine (hg2.block b (blk_lt hb) (fun e => ?_)).trans hb
  obtain rfl := Option.some.inj e
  rw [hb] at h1
  simp at h1
  exact h71 h1.2
end
/-- what the regions that tell a value read -/
def S3 (bs bm b0 : Nat) (A : AS) (p : Nat) (mp : Int) (w' : World) : Prop := w'.cell? ⟨bs, 7, none⟩ = some (.slice (some ⟨bm, 0, none⟩) A.m.length A.m.length) ∧ w'.cell? ⟨b0, 2, none⟩ = some (.int .i64 (p : Int)) ∧ w'.cell? ⟨bm, p, none⟩ = some (.int .i64 mp)
theorem s3_of {mp : Int} {c : Cf} {bs bm bc base b0 k p : Nat} {kd v : Int} {hole : Option Nat} {sv : List Value} {vv : Value} {ps : List (List Nat)} {A B : AS} {w : World} (h : Sys c bs bm bc base hole sv vv ps B w) (hmp : A.m.getD p 0 = mp) (hm : B.m = A.m) (hp : p < A.m.length) (hb : w.heap[b0]? = some (.cells (Op.mk k kd p v).cells 38 (0, 0))) : S3 bs bm b0 A p mp w := by
  subst hmp
  have h1 := h.ten.2.2.2.2.2.2.2.1
  have h2 := (h.word p (by rw [hm]; exact hp)).1
  rw [hm] at h1 h2
  exact ⟨h1, by rw [cell_of_row _ _ _ _ _ _ hb]; rfl, h2⟩
theorem s3_val {mp : Int} {c : Cf} {bs bm bc base b0 k p : Nat} {kd v : Int} {hole : Option Nat} {sv : List Value} {vv : Value} {ps : List (List Nat)} {A : AS} {w w' : World} (h : Sys c bs bm bc base hole sv vv ps A w) (hmp : A.m.getD p 0 = mp) (hg : w.grownBy w' vv.ownBlock) (hp : p < A.m.length) (hb : w.heap[b0]? = some (.cells (Op.mk k kd p v).cells 38 (0, 0))) : S3 bs bm b0 A p mp w' := by
  subst hmp
  have h1 := h.valKeep hg h.top (Or.inl (by decide))
  have h2 := h.valKeep hg h.mem (Or.inr rfl)
  have h3 := h.valKeep hg hb (Or.inl (by decide))
  refine ⟨by rw [cell_of_row _ _ _ _ _ _ h1]; rfl, by rw [cell_of_row _ _ _ _ _ _ h3]; rfl, ?_⟩
  rw [cell_of_row _ _ _ _ _ _ h2, getD_in _ _ hp]
  simp [memC, hp]
theorem ok_ahead {c : Cf} {A : AS} (h : Ok c A) (k x : Nat) (is : List Nat) : Ok c (is.foldl (ahS c k x) A) := by
  induction is generalizing A with
  | nil => exact h
  | cons i is ih => rw [List.foldl_cons]; exact ih (h.ahS k x i)
theorem touch_eq {c : Cf} {A : AS} (h : Ok c A) {k x i j : Nat} {es : List En} {e : En} (hc : A.cs[k]? = some es) (he : es[j]? = some e) (hl : e.l = x) : touchA A k x i = { A with cs := A.cs.set k (useL es j e), vs := A.vs ++ [e.d i] } := by
  have hr := rowA_some hc
  have hj : j < es.length := (List.getElem?_eq_some_iff.1 he).1
  have hej : es[j] = e := (List.getElem?_eq_some_iff.1 he).2
  have hu := h.runi k
  rw [hr] at hu
  have hf := fiF_of (x := x) hu hj (by rw [hej]; exact hl)
  unfold touchA
  rw [hr, hf]
  simp only [getD_row hj, hej]
theorem hit_eq {A : AS} {k x i j : Nat} {es : List En} (hr : rowA A k = es) (hf : fiF es x = some j) : hitB A k x i = (es.getD j (newE 0)).v i := by
  unfold hitB; rw [hr, hf]
theorem hit_none {A : AS} {k x i : Nat} {es : List En} (hr : rowA A k = es) (hf : fiF es x = none) : hitB A k x i = false := by
  unfold hitB; rw [hr, hf]
theorem s13_of {c : Cf} {bs bm bc base : Nat} {hole : Option Nat} {sv : List Value} {vv : Value} {ps : List (List Nat)} {C : AS} {w : World} {k n q i : Nat} {l : List Nat} {es : List En} {e : En} {ed : Int} (h : Sys c bs bm bc base hole sv vv ps C w) (hk : ps[k]? = some l) (hq : l[n]? = some q) (hc : C.cs[k]? = some es) (he : es[n]? = some e) (hi : i < 4) (hed : e.d i = ed) : w.cell? ⟨q, 1 + i, none⟩ = some (.int .i64 ed) := by
  subst hed
  exact EnAt.cell (h.ent _ _ _ _ _ _ hk hc hq he) (1 + i) _ (En.at_d e i hi)
theorem s13_val {c : Cf} {bs bm bc base : Nat} {hole : Option Nat} {sv : List Value} {vv : Value} {ps : List (List Nat)} {C : AS} {w w' : World} {k n q i : Nat} {l : List Nat} {es : List En} {e : En} {ed : Int} (h : Sys c bs bm bc base hole sv vv ps C w) (hg : w.grownBy w' vv.ownBlock) (hk : ps[k]? = some l) (hq : l[n]? = some q) (hc : C.cs[k]? = some es) (he : es[n]? = some e) (hi : i < 4) (hed : e.d i = ed) : w'.cell? ⟨q, 1 + i, none⟩ = some (.int .i64 ed) := by
  subst hed
  exact EnAt.cell (w := w') (h.valKeep hg (h.ent _ _ _ _ _ _ hk hc hq he) (Or.inl (by decide))) (1 + i) _ (En.at_d e i hi)
theorem entF_vs (c : Cf) (A : AS) (k : Nat) (es : List En) (x : Nat) : (entF c A k es x).vs = A.vs := by
  unfold entF evA wb; simp only; split <;> (try split) <;> rfl
theorem ahead_vs (c : Cf) (k x : Nat) (A : AS) : (aheadA c k x A).vs = A.vs := by
  unfold aheadA
  generalize List.range (ahN c) = is
  induction is generalizing A with
  | nil => rfl
  | cons i is ih =>
    rw [List.foldl_cons, ih]
    unfold ahS
    split
    · exact entF_vs _ _ _ _ _
    · rfl
theorem snoc_last {α : Type} (l : List α) (x : α) : (l ++ [x])[l.length]? = some x := by simp
/-- fetching behind a use -/
theorem fill_use {c : Cf} {bs bm bc base : Nat} {vv : Value} {ps : List (List Nat)} {A : AS} {k x j q : Nat} {l : List Nat} {es : List En} {e : En} (hA : Ok c A) (hf : A.f < 900000000) (hl : ps[k]? = some l) (hes : A.cs[k]? = some es) (hle : es.length = l.length) (hq : l[j]? = some q) (he : es[j]? = some e) (hfi : fiF es x = some j) (sv : List Value) (w : World)
    (h : Sys c bs bm bc base none sv vv (ps.set k (useL l j q)) { A with cs := A.cs.set k (useL es j e) } w) : Calls Try.prog 59 #[ptr bs, ptr q] w (fun y w' => y = .returned (.tuple #[]) ∧ Sys c bs bm bc base none sv vv (ps.set k (useL l j q)) (fillA c A k x) w' ∧ Bel base w w') := by
  have hkl : k < ps.length := (List.getElem?_eq_some_iff.1 hl).1
  have hkc : k < A.cs.length := (List.getElem?_eq_some_iff.1 hes).1
  have hjl : j < l.length := (List.getElem?_eq_some_iff.1 hq).1
  have e1 : (es.eraseIdx j).length = (l.eraseIdx j).length := by rw [List.length_eraseIdx_of_lt (by omega), List.length_eraseIdx_of_lt hjl, hle]
  have hel := hA.lin k es e hes (List.mem_of_getElem? he)
  have hm : A.m.length ≤ 256 := by have := hA.ml; have := hA.cf.2.2.2.1; omega
  have hr := rowA_some hes
  have hgd : es.getD j (newE 0) = e := by rw [List.getD_eq_getElem?_getD, he]; rfl
  have := fetch_calls h (k := k) (i := (l.eraseIdx j).length) (List.getElem?_set_self hkl) (p := q) (snoc_last _ _) (es := useL es j e) (List.getElem?_set_self hkc) (e := e) (by rw [← e1]; exact snoc_last _ _) hm hel (by show A.f < 1000000000; omega)
  unfold FtPost at this
  refine this.mono ?_
  rintro y w' ⟨a, b, d⟩
  refine ⟨a, ?_, d⟩
  unfold fillA
  rw [hr, hfi]
  simp only [hgd]
  simp only [List.set_set] at b
  unfold useL at b
  rw [← e1, List.set_append_right _ _ (Nat.le_refl _), Nat.sub_self] at b
  exact b
theorem fill_new {c : Cf} {bs bm bc base : Nat} {vv : Value} {ps : List (List Nat)} {A : AS} {k x b : Nat} {l : List Nat} {es : List En} (hA : Ok c A) (hf : A.f < 900000000) (hl : ps[k]? = some l) (hes : A.cs[k]? = some es) (hle : es.length = l.length) (hfi : fiF es x = none) (hx : x * 4 + 4 ≤ A.m.length) (sv : List Value) (w : World)
    (h : Sys c bs bm bc base none sv vv (ps.set k (evL c l ++ [b])) (entA c A k es x) w) : Calls Try.prog 59 #[ptr bs, ptr b] w (fun y w' => y = .returned (.tuple #[]) ∧ Sys c bs bm bc base none sv vv (ps.set k (evL c l ++ [b])) (fillA c A k x) w' ∧ Bel base w w') := by
  have hkl : k < ps.length := (List.getElem?_eq_some_iff.1 hl).1
  have hkc : k < A.cs.length := (List.getElem?_eq_some_iff.1 hes).1
  have hm : A.m.length ≤ 256 := by have := hA.ml; have := hA.cf.2.2.2.1; omega
  have hr := rowA_some hes
  have hev := evL_len c es l hle
  have hml : (entA c A k es x).m.length = A.m.length := evA_m _ _ _ _
  have := fetch_calls h (k := k) (i := (evL c l).length) (List.getElem?_set_self hkl) (p := b) (snoc_last _ _) (es := evL c es ++ [newE x]) (List.getElem?_set_self hkc) (e := newE x) (by rw [← hev]; exact snoc_last _ _) (by rw [hml]; exact hm) (by rw [hml]; exact hx) (by rw [show (entA c A k es x).f = A.f from evA_f _ _ _ _]; omega)
  unfold FtPost at this
  rw [entF_eq c A k es x _ hev.symm] at this
  unfold fillA
  rw [hr, hfi]
  exact this
/-- what stands behind the search of the line -/
def GtMid (c : Cf) (bs bm bc base : Nat) (vv : Value) (A : AS) (w : World) (b0 k p i : Nat) (kd v : Int) (s6 : Value) (wx : World) : Prop :=
  ∃ sv ps B l j q es e, s6 = ptr q ∧ Sys c bs bm bc base none sv vv ps B wx ∧ Bel base w wx ∧ wx.heap[b0]? = some (.cells (Op.mk k kd p v).cells 38 (0, 0)) ∧ ps[k]? = some l ∧ l[j]? = some q ∧ B.cs[k]? = some es ∧ es[j]? = some e ∧ B.vs = A.vs ∧ getA c A k p = { B with cs := B.cs.set k (useL es j e), vs := A.vs ++ [e.d i] } ∧ l.length ≤ 1000
/-- the filled line is read ahead of: the way of a miss -/
theorem gt_ahead {c : Cf} {bs bm bc base : Nat} {vv : Value} {A B : AS} {w w2 : World} {b0 k p x i q : Nat} {kd v : Int} {e : En} (hA : Ok c A) (hx : p / 4 = x) (hi : p % 4 = i) (hh : ¬ hmF c x = (k : Int)) (hn : hitB A k x i = false) (hB : fillA c A k x = B) (hOk : Ok c B) (hel : e.l = x) (hvs : B.vs = A.vs)
    (hb : Bel base w w2) (hbox : w2.heap[b0]? = some (.cells (Op.mk k kd p v).cells 38 (0, 0))) {w3 : World} (h : AhPost c bs bm bc base vv B k x q e w2 (.returned (.tuple #[])) w3) : GtMid c bs bm bc base vv A w b0 k p i kd v (ptr q) w3 := by
  obtain ⟨_, hb3, sv, ps, xs, ys, es1, es2, hs, hp, hc, hl⟩ := h
  have hO := ok_ahead hOk k x (List.range (ahN c))
  have hv : (aheadA c k x B).vs = B.vs := ahead_vs c k x B
  refine ⟨sv, ps, aheadA c k x B, _, xs.length, q, _, e, rfl, hs, hb.trans hb3, hb3.keep _ _ _ (by decide) (by decide) (by decide) (by decide) (by decide) hbox, hp, by simp, hc, by rw [← hl]; simp, hv.trans hvs, ?_, ?_⟩
  · unfold getA
    rw [hx, hi, if_neg hh, hn, if_neg (by decide), hB]
    refine (touch_eq (i := i) hO hc (j := xs.length) (e := e) (by rw [← hl]; simp) hel).trans ?_
    rw [show (List.foldl (ahS c k x) B (List.range (ahN c))).vs = A.vs from hv.trans hvs]
    rfl
  · have h1 := hs.le _ _ _ hp hc
    have h2 := hO.len k _ hc
    have := hOk.cf.2.2.2.2.2.2.1
    omega
theorem get_calls {c : Cf} {bs bm bc base : Nat} {A : AS} {w : World} (h : SysE c bs bm bc base A w) (hA : Ok c A) (hn : cnt A ≤ 800000000) (hvs : A.vs.length ≤ 1000000) (k p : Nat) (kd v : Int) (hk : (k : Int) < c.L) (hp : (p : Int) < c.W) :
    Calls Try.prog 45 #[ptr bs, (Op.mk k kd p v).val] w (GtPost c bs bm bc base (getA c A k p) w) := by
  obtain ⟨sv, vv, ps, h⟩ := h
  obtain ⟨o1, o2, o3, o4, o5, o6, o7, o8, o9⟩ := hA.cf
  obtain ⟨l, hl⟩ : ∃ l, ps[k]? = some l := ⟨_, List.getElem?_eq_getElem (by have := h.lc; have := hA.cl; omega)⟩
  obtain ⟨es, hes⟩ : ∃ es, A.cs[k]? = some es := ⟨_, List.getElem?_eq_getElem (by have := hA.cl; omega)⟩
  have hle := h.le _ _ _ hl hes
  have hr := rowA_some hes
  obtain ⟨x, hx⟩ : ∃ x, p / 4 = x := ⟨_, rfl⟩
  obtain ⟨i, hi⟩ : ∃ i, p % 4 = i := ⟨_, rfl⟩
  have hx1 : (p : Int) / 4 = (x : Int) := by omega
  have hi1 : (p : Int) % 4 = (i : Int) := by omega
  have hi4 : i < 4 := by omega
  have hi4' : (i : Int) < 4 := by omega
  obtain ⟨W1, hW1⟩ : ∃ W1, w.alloc (.cells (Op.mk k kd p v).cells 38) = W1 := ⟨_, rfl⟩
  have hb1 : Below w.heap.size w W1 := by rw [← hW1]; exact (Below.refl _ w).alloc (Nat.le_refl _) _
  have hbox : W1.heap[w.heap.size]? = some (.cells (Op.mk k kd p v).cells 38 (0, 0)) := by rw [← hW1]; exact Go.heap_alloc_new w _
  obtain ⟨b0, hb0⟩ : ∃ b0, w.heap.size = b0 := ⟨_, rfl⟩
  have hbl := Bel.of hb1 h.bp_size
  have h1 := h.rest hb1
  rw [hb0] at hbox
  have y0 := cell_of_row _ b0 0 _ _ _ hbox
  have y2 := cell_of_row _ b0 2 _ _ _ hbox
  simp [Op.cells] at y0 y2
  have HH := Lib.hid (sysHome_calls c hA.cf x (by omega))
  have H1 := Lib.hid (And.intro h1 (And.intro hbl hbox))
  have HQ := Lib.hid (And.intro hA (And.intro hn (And.intro hl (And.intro hes (And.intro hle (And.intro hr (And.intro hx hi)))))))
  have HVS := Lib.hid hvs
  have HW := Lib.hid (And.intro hW1 hb0)
  clear h hA hn hl hes hle hr hx hi hW1 hb1 hbox hbl h1 hvs hb0
  go_enter Try.func45, Try.ntmps45
  go_upto_region 1 with fail
  rw [HW.out.1, HW.out.2]
  go_quiet (fail)
  go_upto_region 2 with fail
  obtain ⟨Wq, hWq⟩ : ∃ W, W1.drewN nq = W := ⟨_, rfl⟩
  have hbq : Below W1.heap.size W1 Wq := by rw [← hWq]; exact drewN_below (Below.refl _ _) _
  rw [hWq]
  have F := Lib.hid (And.intro (H1.out.1.rest (bb_drew hbq)) (And.intro ((H1.out.2.1.trans (Bel.of hbq H1.out.1.bp_size)).drew) (show Wq.drew.heap[b0]? = some (.cells (Op.mk k kd p v).cells 38 (0, 0)) from (hbq.block _ (blk_lt H1.out.2.2)).trans H1.out.2.2)))
  clear hWq hbq y0 y2
  by_cases hhome : hmF c x = (k : Int)
  · have hd : (hmF c x == (k : Int)) = true := by simpa using hhome
    have HM := Lib.hid hhome
    rw [hhome] at HH
    clear hhome
    refine wp_region_held_drew (S := (fun w' => (w'.cell? ⟨bs, 0, none⟩ = some (.int .i64 c.L) ∧ w'.cell? ⟨bs, 1, none⟩ = some (.int .i64 c.W) ∧ w'.cell? ⟨bs, 2, none⟩ = some (.int .i64 c.N) ∧ w'.cell? ⟨bs, 3, none⟩ = some (.int .i64 c.H)) ∧ w'.cell? ⟨b0, 0, none⟩ = some (.int .i64 (k : Int)))) (by kernel_rfl) ?_ (fun hHeldra => ?_)
    · (try dsimp only); exact ⟨⟨F.out.1.ten.1, F.out.1.ten.2.1, F.out.1.ten.2.2.1, F.out.1.ten.2.2.2.1⟩, by rw [cell_of_row _ _ _ _ _ _ F.out.2.2]; rfl⟩
    refine wpAnyH_take (i := 0) (oi := _) (v := ?vra1) rfl (by kernel_rfl) (by kernel_rfl) (by kernel_rfl) (fun _ _ _ h => h) (Or.inl ⟨by rfl, ?hyra1⟩) (by assumption) ?restra1
    case hyra1 => (intro w hSw; (try dsimp only at hSw); go_simp; all_goals with_reducible rfl)
    try simp only [Act.put, List.getElem_toArray, List.getElem_cons_zero, List.getElem_cons_succ, List.setIfInBounds_toArray, List.set_cons_zero, List.set_cons_succ]
    refine wpAnyH_take (i := 1) (oi := _) (v := ?vra2) rfl (by kernel_rfl) (by kernel_rfl) (by kernel_rfl) (fun _ _ _ h => h) (Or.inl ⟨by rfl, ?hyra2⟩) (by assumption) ?restra2
    case hyra2 => (intro w hSw; (try dsimp only at hSw); go_simp; all_goals with_reducible rfl)
    try simp only [Act.put, List.getElem_toArray, List.getElem_cons_zero, List.getElem_cons_succ, List.setIfInBounds_toArray, List.set_cons_zero, List.set_cons_succ]
    refine wpAnyH_take (i := 2) (oi := _) (v := ?vra3) rfl (by kernel_rfl) (by kernel_rfl) (by kernel_rfl) (fun _ _ _ h => h) (Or.inl ⟨by rfl, ?hyra3⟩) (by assumption) ?restra3
    case hyra3 => (intro w hSw; (try dsimp only at hSw); go_simp; all_goals with_reducible rfl)
    try simp only [Act.put, List.getElem_toArray, List.getElem_cons_zero, List.getElem_cons_succ, List.setIfInBounds_toArray, List.set_cons_zero, List.set_cons_succ]
    refine wpAnyH_take (i := 3) (oi := _) (v := ?vra4) rfl (by kernel_rfl) (by kernel_rfl) (by kernel_rfl) (fun _ _ _ h => h) (Or.inl ⟨by rfl, ?hyra4⟩) (by assumption) ?restra4
    case hyra4 => (intro w hSw; (try dsimp only at hSw); go_simp; all_goals with_reducible rfl)
    try simp only [Act.put, List.getElem_toArray, List.getElem_cons_zero, List.getElem_cons_succ, List.setIfInBounds_toArray, List.set_cons_zero, List.set_cons_succ]
    refine wpAnyH_take (i := 4) (oi := _) (v := ?vra5) rfl (by kernel_rfl) (by kernel_rfl) (by kernel_rfl) (fun _ _ _ h => h) (Or.inl ⟨by rfl, ?hyra5⟩) (by assumption) ?restra5
    case hyra5 => (intro w hSw; (try dsimp only at hSw); go_simp; all_goals with_reducible rfl)
    try simp only [Act.put, List.getElem_toArray, List.getElem_cons_zero, List.getElem_cons_succ, List.setIfInBounds_toArray, List.set_cons_zero, List.set_cons_succ]
    refine wpAnyH_take (i := 6) (oi := _) (v := ?vra6) rfl (by kernel_rfl) (by kernel_rfl) (by kernel_rfl) (fun _ _ _ h => h) (Or.inl ⟨by rfl, ?hyra6⟩) (by assumption) ?restra6
    case hyra6 => (intro w hSw; (try dsimp only at hSw); go_simp; all_goals with_reducible rfl)
    try simp only [Act.put, List.getElem_toArray, List.getElem_cons_zero, List.getElem_cons_succ, List.setIfInBounds_toArray, List.set_cons_zero, List.set_cons_succ]
    refine wpAnyH_take (i := 7) (oi := _) (v := ?vra7) rfl (by kernel_rfl) (by kernel_rfl) (by kernel_rfl) (fun _ _ _ h => h) (Or.inl ⟨by rfl, ?hyra7⟩) (by assumption) ?restra7
    case hyra7 => (intro w hSw; (try dsimp only at hSw); go_simp; all_goals with_reducible rfl)
    try simp only [Act.put, List.getElem_toArray, List.getElem_cons_zero, List.getElem_cons_succ, List.setIfInBounds_toArray, List.set_cons_zero, List.set_cons_succ]
    refine wpAnyH_ready (rs := [5]) (by kernel_rfl) (by simp) ?_
    refine AllReadyH.cons (o := _) rfl (fun K hK => ?_) AllReadyH.nil
    go_simp
    (with_reducible refine (HH.out _).mono ?_)
    rintro y w5 ⟨rfl, hb5⟩
    have F5 := Lib.hid (And.intro (F.out.1.rest hb5) (And.intro (F.out.2.1.trans (Bel.of hb5 F.out.1.bp_size)) (show w5.heap[b0]? = some (.cells (Op.mk k kd p v).cells 38 (0, 0)) from (hb5.block _ (blk_lt F.out.2.2)).trans F.out.2.2)))
    clear hb5
    go_wp2_with fail
    refine hK.out _ _ ?_ (fun hHeldra8 => ?_)
    · (try dsimp only); exact ⟨⟨F5.out.1.ten.1, F5.out.1.ten.2.1, F5.out.1.ten.2.2.1, F5.out.1.ten.2.2.2.1⟩, by rw [cell_of_row _ _ _ _ _ _ F5.out.2.2]; rfl⟩
    clear hK K hHeldra
    try simp only [Act.put, List.getElem_toArray, List.getElem_cons_zero, List.getElem_cons_succ, List.setIfInBounds_toArray, List.set_cons_zero, List.set_cons_succ]
    refine wpAnyH_take (i := 8) (oi := _) (v := ?vra9) rfl (by kernel_rfl) (by kernel_rfl) (by kernel_rfl) (fun _ _ _ h => h) (Or.inl ⟨by rfl, ?hyra9⟩) (by assumption) ?restra9
    case hyra9 => (intro w hSw; (try dsimp only at hSw); go_simp; all_goals with_reducible rfl)
    try simp only [Act.put, List.getElem_toArray, List.getElem_cons_zero, List.getElem_cons_succ, List.setIfInBounds_toArray, List.set_cons_zero, List.set_cons_succ]
    refine wpAnyH_done (by kernel_rfl) ?_ _
    trace_state
    go_upto_region 3 with fail
    have hpl : p < A.m.length := by have := HQ.out.1.ml; omega
    have hpl' : (p : Int) < (A.m.length : Int) := by omega
    have G := Lib.hid (And.intro (F5.out.1.rest (bb_drew (Below.refl _ _))) (And.intro F5.out.2.1.drew (show w5.drew.heap[b0]? = some (.cells (Op.mk k kd p v).cells 38 (0, 0)) from F5.out.2.2)))
    obtain ⟨mp, hmp⟩ : ∃ m, A.m.getD p 0 = m := ⟨_, rfl⟩
    refine wp_region_held_drew (S := (fun w' => w'.cell? ⟨bs, 7, none⟩ = some (.slice (some ⟨bm, 0, none⟩) A.m.length A.m.length) ∧ w'.cell? ⟨b0, 2, none⟩ = some (.int .i64 (p : Int)) ∧ w'.cell? ⟨bm, p, none⟩ = some (.int .i64 mp))) (by kernel_rfl) ?_ (fun hHeldq => ?_)
    · (try dsimp only); exact s3_of G.out.1 hmp rfl hpl G.out.2.2
    refine wpAnyH_take (i := 0) (oi := _) (v := ?vq1) rfl (by kernel_rfl) (by kernel_rfl) (by kernel_rfl) (fun _ _ _ h => h) (Or.inl ⟨by rfl, ?hyq1⟩) (by assumption) ?restq1
    case hyq1 => (intro w hSw; (try dsimp only at hSw); go_simp; all_goals with_reducible rfl)
    try simp only [Act.put, List.getElem_toArray, List.getElem_cons_zero, List.getElem_cons_succ, List.setIfInBounds_toArray, List.set_cons_zero, List.set_cons_succ]
    refine wpAnyH_take (i := 1) (oi := _) (v := ?vq2) rfl (by kernel_rfl) (by kernel_rfl) (by kernel_rfl) (fun _ _ _ h => h) (Or.inl ⟨by rfl, ?hyq2⟩) (by assumption) ?restq2
    case hyq2 => (intro w hSw; (try dsimp only at hSw); go_simp; all_goals with_reducible rfl)
    try simp only [Act.put, List.getElem_toArray, List.getElem_cons_zero, List.getElem_cons_succ, List.setIfInBounds_toArray, List.set_cons_zero, List.set_cons_succ]
    refine wpAnyH_take (i := 2) (oi := _) (v := ?vq3) rfl (by kernel_rfl) (by kernel_rfl) (by kernel_rfl) (fun _ _ _ h => h) (Or.inl ⟨by rfl, ?hyq3⟩) (by assumption) ?restq3
    case hyq3 => (intro w hSw; (try dsimp only at hSw); go_simp; all_goals with_reducible rfl)
    try simp only [Act.put, List.getElem_toArray, List.getElem_cons_zero, List.getElem_cons_succ, List.setIfInBounds_toArray, List.set_cons_zero, List.set_cons_succ]
    refine wpAnyH_take (i := 3) (oi := _) (v := ?vq4) rfl (by kernel_rfl) (by kernel_rfl) (by kernel_rfl) (fun _ _ _ h => h) (Or.inl ⟨by rfl, ?hyq4⟩) (by assumption) ?restq4
    case hyq4 => (intro w hSw; (try dsimp only at hSw); go_simp; all_goals with_reducible rfl)
    try simp only [Act.put, List.getElem_toArray, List.getElem_cons_zero, List.getElem_cons_succ, List.setIfInBounds_toArray, List.set_cons_zero, List.set_cons_succ]
    refine wpAnyH_take (i := 5) (oi := _) (v := ?vq5) rfl (by kernel_rfl) (by kernel_rfl) (by kernel_rfl) (fun _ _ _ h => h) (Or.inl ⟨by rfl, ?hyq5⟩) (by assumption) ?restq5
    case hyq5 => (intro w hSw; (try dsimp only at hSw); go_simp; all_goals with_reducible rfl)
    try simp only [Act.put, List.getElem_toArray, List.getElem_cons_zero, List.getElem_cons_succ, List.setIfInBounds_toArray, List.set_cons_zero, List.set_cons_succ]
    refine wpAnyH_take (i := 6) (oi := _) (v := ?vq6) rfl (by kernel_rfl) (by kernel_rfl) (by kernel_rfl) (fun _ _ _ h => h) (Or.inl ⟨by rfl, ?hyq6⟩) (by assumption) ?restq6
    case hyq6 => (intro w hSw; (try dsimp only at hSw); go_simp; all_goals with_reducible rfl)
    try simp only [Act.put, List.getElem_toArray, List.getElem_cons_zero, List.getElem_cons_succ, List.setIfInBounds_toArray, List.set_cons_zero, List.set_cons_succ]
    refine wpAnyH_take (i := 7) (oi := _) (v := ?vq7) rfl (by kernel_rfl) (by kernel_rfl) (by kernel_rfl) (fun _ _ _ h => h) (Or.inl ⟨by rfl, ?hyq7⟩) (by assumption) ?restq7
    case hyq7 => (intro w hSw; (try dsimp only at hSw); go_simp; all_goals with_reducible rfl)
    try simp only [Act.put, List.getElem_toArray, List.getElem_cons_zero, List.getElem_cons_succ, List.setIfInBounds_toArray, List.set_cons_zero, List.set_cons_succ]
    refine wpAnyH_take (i := 8) (oi := _) (v := ?vq8) rfl (by kernel_rfl) (by kernel_rfl) (by kernel_rfl) (fun _ _ _ h => h) (Or.inl ⟨by rfl, ?hyq8⟩) (by assumption) ?restq8
    case hyq8 => (intro w hSw; (try dsimp only at hSw); go_simp; all_goals with_reducible rfl)
    try simp only [Act.put, List.getElem_toArray, List.getElem_cons_zero, List.getElem_cons_succ, List.setIfInBounds_toArray, List.set_cons_zero, List.set_cons_succ]
    refine wpAnyH_take (i := 9) (oi := _) (v := ?vq9) rfl (by kernel_rfl) (by kernel_rfl) (by kernel_rfl) (fun _ _ _ h => h) (Or.inl ⟨by rfl, ?hyq9⟩) (by assumption) ?restq9
    case hyq9 => (intro w hSw; (try dsimp only at hSw); go_simp; all_goals with_reducible rfl)
    try simp only [Act.put, List.getElem_toArray, List.getElem_cons_zero, List.getElem_cons_succ, List.setIfInBounds_toArray, List.set_cons_zero, List.set_cons_succ]
    refine wpAnyH_take (i := 10) (oi := _) (v := ?vq10) rfl (by kernel_rfl) (by kernel_rfl) (by kernel_rfl) (fun _ _ _ h => h) (Or.inl ⟨by rfl, ?hyq10⟩) (by assumption) ?restq10
    case hyq10 => (intro w hSw; (try dsimp only at hSw); go_simp; all_goals with_reducible rfl)
    try simp only [Act.put, List.getElem_toArray, List.getElem_cons_zero, List.getElem_cons_succ, List.setIfInBounds_toArray, List.set_cons_zero, List.set_cons_succ]
    refine wpAnyH_take (i := 11) (oi := _) (v := ?vq11) rfl (by kernel_rfl) (by kernel_rfl) (by kernel_rfl) (fun _ _ _ h => h) (Or.inl ⟨by rfl, ?hyq11⟩) (by assumption) ?restq11
    case hyq11 => (intro w hSw; (try dsimp only at hSw); go_simp; all_goals with_reducible rfl)
    try simp only [Act.put, List.getElem_toArray, List.getElem_cons_zero, List.getElem_cons_succ, List.setIfInBounds_toArray, List.set_cons_zero, List.set_cons_succ]
    refine wpAnyH_take (i := 12) (oi := _) (v := ?vq12) rfl (by kernel_rfl) (by kernel_rfl) (by kernel_rfl) (fun _ _ _ h => h) (Or.inl ⟨by rfl, ?hyq12⟩) (by assumption) ?restq12
    case hyq12 => (intro w hSw; (try dsimp only at hSw); go_simp; all_goals with_reducible rfl)
    try simp only [Act.put, List.getElem_toArray, List.getElem_cons_zero, List.getElem_cons_succ, List.setIfInBounds_toArray, List.set_cons_zero, List.set_cons_succ]
    refine wpAnyH_ready (rs := [4, 13]) (by kernel_rfl) (by simp) ?_
    refine AllReadyH.cons (o := _) rfl (fun K hK => ?_) ?_
    · have t9 := G.out.1.ten.2.2.2.2.2.2.2.2.2.1
      go_simp
      clear t9
      refine hK.out _ _ ?_ (fun hHeldq13 => ?_)
      · (try dsimp only); exact s3_of G.out.1 hmp rfl hpl G.out.2.2
      clear hK K hHeldq
      try simp only [Act.put, List.getElem_toArray, List.getElem_cons_zero, List.getElem_cons_succ, List.setIfInBounds_toArray, List.set_cons_zero, List.set_cons_succ]
      refine wpAnyH_ready (rs := [13]) (by kernel_rfl) (by simp) ?_
      refine AllReadyH.cons (o := _) rfl (fun K hK => ?_) AllReadyH.nil
      go_simp
      obtain ⟨uqb, hu⟩ : ∃ u, (w5.alloc (.cells #[.int .i64 (mp)] 3)).drew = u := ⟨_, rfl⟩
      have hbu : Below w5.drew.heap.size w5.drew uqb := by rw [← hu]; exact below_drew_alloc w5 _
      obtain ⟨nbq, hnb⟩ : ∃ nb, w5.heap.size = nb := ⟨_, rfl⟩
      have hrd : Rd encI 1 uqb (some ⟨nbq, 0, none⟩) [(mp)] := by rw [← hu, ← hnb]; exact (rd_one encI 1 w5 (mp) 3 _ rfl _ rfl).drew
      have Fqb := Lib.hid (And.intro (G.out.1.rest hbu) (And.intro (G.out.2.1.trans (Bel.of hbu G.out.1.bp_size)) (And.intro ((hbu.block _ (blk_lt G.out.2.2)).trans G.out.2.2) hrd)))
      rw [hu]
      try rw [hnb]
      clear hu hbu hrd hnb
      refine hK.out _ _ ?_ (fun hHeldq14 => ?_)
      · (try dsimp only); exact s3_of Fqb.out.1 hmp rfl hpl Fqb.out.2.2.1
      clear hK K hHeldq13
      try simp only [Act.put, List.getElem_toArray, List.getElem_cons_zero, List.getElem_cons_succ, List.setIfInBounds_toArray, List.set_cons_zero, List.set_cons_succ]
      refine wpAnyH_ready (rs := [14]) (by kernel_rfl) (by simp) ?_
      refine AllReadyH.cons (o := _) rfl (fun K hK => ?_) AllReadyH.nil
      refine step_append_typed lenI oneI rfl (.tmp 26) (.tmp 35) 32 rfl base 3 (.int .i64 0) 8 Try.underlying32 info3 rfl (by decide) (by decide) vv A.vs (by simp [Act.eval, Act.put]) Fqb.out.1.val ⟨nbq, 0, none⟩ 1 1 [(mp)] (by simp [Act.eval, Act.put]) rfl (by decide) Fqb.out.2.2.2 (by have := HVS.out; omega) Fqb.out.1.bp_size ?_
      intro g2 cap2 uqba hA hB hL
      have hz := Fqb.out.1.tell hA hB (hL.elim Or.inl (fun e => Or.inr (by omega)))
      have hb9 := (Fqb.out.1.belowVal hB).trans (Fqb.out.1.belowTop hB hz.2)
      have Fqba := Lib.hid (And.intro hz.1 (And.intro (Fqb.out.2.1.trans hb9) (And.intro (hb9.keep _ _ _ (by decide) (by decide) (by decide) (by decide) (by decide) Fqb.out.2.2.1) (And.intro (s3_val Fqb.out.1 hmp hB hpl Fqb.out.2.2.1) (Fqb.out.1.tellTop hB)))))
      clear hA hB hL hz hb9
      refine hK.out _ _ ?_ (fun hHeldq15 => ?_)
      · (try dsimp only); exact Fqba.out.2.2.2.1
      clear hK K hHeldq14
      try simp only [Act.put, List.getElem_toArray, List.getElem_cons_zero, List.getElem_cons_succ, List.setIfInBounds_toArray, List.set_cons_zero, List.set_cons_succ]
      refine wpAnyH_take (i := 15) (oi := _) (v := ?vq16) rfl (by kernel_rfl) (by kernel_rfl) (by kernel_rfl) (fun _ _ _ h => h) (Or.inl ⟨by rfl, ?hyq16⟩) (by assumption) ?restq16
      case hyq16 => (intro w hSw; (try dsimp only at hSw); go_simp; all_goals with_reducible rfl)
      try simp only [Act.put, List.getElem_toArray, List.getElem_cons_zero, List.getElem_cons_succ, List.setIfInBounds_toArray, List.set_cons_zero, List.set_cons_succ]
      refine wpAnyH_take (i := 16) (oi := _) (v := ?vq17) rfl (by kernel_rfl) (by kernel_rfl) (by kernel_rfl) (fun _ _ _ h => h) (Or.inl ⟨by rfl, ?hyq17⟩) (by assumption) ?restq17
      case hyq17 => (intro w hSw; (try dsimp only at hSw); go_simp; all_goals with_reducible rfl)
      try simp only [Act.put, List.getElem_toArray, List.getElem_cons_zero, List.getElem_cons_succ, List.setIfInBounds_toArray, List.set_cons_zero, List.set_cons_succ]
      refine wpAnyH_ready (rs := [17]) (by kernel_rfl) (by simp) ?_
      refine AllReadyH.cons (o := _) rfl (fun K hK => ?_) AllReadyH.nil
      obtain ⟨t0, t1⟩ := Fqba.out.2.2.2.2
      go_simp
      clear t0 t1
      refine hK.out _ _ ?_ (fun hHeldq18 => ?_)
      · (try dsimp only); exact s3_of Fqba.out.1 hmp rfl hpl Fqba.out.2.2.1
      clear hK K hHeldq15
      try simp only [Act.put, List.getElem_toArray, List.getElem_cons_zero, List.getElem_cons_succ, List.setIfInBounds_toArray, List.set_cons_zero, List.set_cons_succ]
      refine wpAnyH_done (by kernel_rfl) ?_ _
      go_wp2_with fail
      (first | go_end0 | go_ret)
      have e9 : getA c A k p = { A with vs := A.vs ++ [mp] } := by unfold getA; rw [HQ.out.2.2.2.2.2.2.1, if_pos HM.out, hmp]
      exact ⟨rfl, Fqba.out.2.1, sv, .slice (some ⟨g2, 0, none⟩) (A.vs.length + 1) cap2, ps, by rw [e9]; exact Fqba.out.1⟩
    refine AllReadyH.cons (o := _) rfl (fun K hK => ?_) AllReadyH.nil
    go_simp
    obtain ⟨uqb, hu⟩ : ∃ u, (w5.alloc (.cells #[.int .i64 (mp)] 3)).drew = u := ⟨_, rfl⟩
    have hbu : Below w5.drew.heap.size w5.drew uqb := by rw [← hu]; exact below_drew_alloc w5 _
    obtain ⟨nbq, hnb⟩ : ∃ nb, w5.heap.size = nb := ⟨_, rfl⟩
    have hrd : Rd encI 1 uqb (some ⟨nbq, 0, none⟩) [(mp)] := by rw [← hu, ← hnb]; exact (rd_one encI 1 w5 (mp) 3 _ rfl _ rfl).drew
    have Fqb := Lib.hid (And.intro (G.out.1.rest hbu) (And.intro (G.out.2.1.trans (Bel.of hbu G.out.1.bp_size)) (And.intro ((hbu.block _ (blk_lt G.out.2.2)).trans G.out.2.2) hrd)))
    rw [hu]
    try rw [hnb]
    clear hu hbu hrd hnb
    refine hK.out _ _ ?_ (fun hHeldq19 => ?_)
    · (try dsimp only); exact s3_of Fqb.out.1 hmp rfl hpl Fqb.out.2.2.1
    clear hK K hHeldq
    try simp only [Act.put, List.getElem_toArray, List.getElem_cons_zero, List.getElem_cons_succ, List.setIfInBounds_toArray, List.set_cons_zero, List.set_cons_succ]
    refine wpAnyH_ready (rs := [4]) (by kernel_rfl) (by simp) ?_
    refine AllReadyH.cons (o := _) rfl (fun K hK => ?_) AllReadyH.nil
    have t9 := Fqb.out.1.ten.2.2.2.2.2.2.2.2.2.1
    go_simp
    clear t9
    refine hK.out _ _ ?_ (fun hHeldq20 => ?_)
    · (try dsimp only); exact s3_of Fqb.out.1 hmp rfl hpl Fqb.out.2.2.1
    clear hK K hHeldq19
    try simp only [Act.put, List.getElem_toArray, List.getElem_cons_zero, List.getElem_cons_succ, List.setIfInBounds_toArray, List.set_cons_zero, List.set_cons_succ]
    refine wpAnyH_ready (rs := [14]) (by kernel_rfl) (by simp) ?_
    refine AllReadyH.cons (o := _) rfl (fun K hK => ?_) AllReadyH.nil
    refine step_append_typed lenI oneI rfl (.tmp 26) (.tmp 35) 32 rfl base 3 (.int .i64 0) 8 Try.underlying32 info3 rfl (by decide) (by decide) vv A.vs (by simp [Act.eval, Act.put]) Fqb.out.1.val ⟨nbq, 0, none⟩ 1 1 [(mp)] (by simp [Act.eval, Act.put]) rfl (by decide) Fqb.out.2.2.2 (by have := HVS.out; omega) Fqb.out.1.bp_size ?_
    intro g2 cap2 uqba hA hB hL
    have hz := Fqb.out.1.tell hA hB (hL.elim Or.inl (fun e => Or.inr (by omega)))
    have hb9 := (Fqb.out.1.belowVal hB).trans (Fqb.out.1.belowTop hB hz.2)
    have Fqba := Lib.hid (And.intro hz.1 (And.intro (Fqb.out.2.1.trans hb9) (And.intro (hb9.keep _ _ _ (by decide) (by decide) (by decide) (by decide) (by decide) Fqb.out.2.2.1) (And.intro (s3_val Fqb.out.1 hmp hB hpl Fqb.out.2.2.1) (Fqb.out.1.tellTop hB)))))
    clear hA hB hL hz hb9
    refine hK.out _ _ ?_ (fun hHeldq21 => ?_)
    · (try dsimp only); exact Fqba.out.2.2.2.1
    clear hK K hHeldq20
    try simp only [Act.put, List.getElem_toArray, List.getElem_cons_zero, List.getElem_cons_succ, List.setIfInBounds_toArray, List.set_cons_zero, List.set_cons_succ]
    refine wpAnyH_take (i := 15) (oi := _) (v := ?vq22) rfl (by kernel_rfl) (by kernel_rfl) (by kernel_rfl) (fun _ _ _ h => h) (Or.inl ⟨by rfl, ?hyq22⟩) (by assumption) ?restq22
    case hyq22 => (intro w hSw; (try dsimp only at hSw); go_simp; all_goals with_reducible rfl)
    try simp only [Act.put, List.getElem_toArray, List.getElem_cons_zero, List.getElem_cons_succ, List.setIfInBounds_toArray, List.set_cons_zero, List.set_cons_succ]
    refine wpAnyH_take (i := 16) (oi := _) (v := ?vq23) rfl (by kernel_rfl) (by kernel_rfl) (by kernel_rfl) (fun _ _ _ h => h) (Or.inl ⟨by rfl, ?hyq23⟩) (by assumption) ?restq23
    case hyq23 => (intro w hSw; (try dsimp only at hSw); go_simp; all_goals with_reducible rfl)
    try simp only [Act.put, List.getElem_toArray, List.getElem_cons_zero, List.getElem_cons_succ, List.setIfInBounds_toArray, List.set_cons_zero, List.set_cons_succ]
    refine wpAnyH_ready (rs := [17]) (by kernel_rfl) (by simp) ?_
    refine AllReadyH.cons (o := _) rfl (fun K hK => ?_) AllReadyH.nil
    obtain ⟨t0, t1⟩ := Fqba.out.2.2.2.2
    go_simp
    clear t0 t1
    refine hK.out _ _ ?_ (fun hHeldq24 => ?_)
    · (try dsimp only); exact s3_of Fqba.out.1 hmp rfl hpl Fqba.out.2.2.1
    clear hK K hHeldq21
    try simp only [Act.put, List.getElem_toArray, List.getElem_cons_zero, List.getElem_cons_succ, List.setIfInBounds_toArray, List.set_cons_zero, List.set_cons_succ]
    refine wpAnyH_done (by kernel_rfl) ?_ _
    go_wp2_with fail
    (first | go_end0 | go_ret)
    have e9 : getA c A k p = { A with vs := A.vs ++ [mp] } := by unfold getA; rw [HQ.out.2.2.2.2.2.2.1, if_pos HM.out, hmp]
    exact ⟨rfl, Fqba.out.2.1, sv, .slice (some ⟨g2, 0, none⟩) (A.vs.length + 1) cap2, ps, by rw [e9]; exact Fqba.out.1⟩
  · have hd : (hmF c x == (k : Int)) = false := by simpa using hhome
    have HM := Lib.hid hhome
    obtain ⟨hm, hhm⟩ : ∃ hm, hmF c x = hm := ⟨_, rfl⟩
    rw [hhm] at hd HH
    clear hhome hhm
    refine wp_region_held_drew (S := (fun w' => (w'.cell? ⟨bs, 0, none⟩ = some (.int .i64 c.L) ∧ w'.cell? ⟨bs, 1, none⟩ = some (.int .i64 c.W) ∧ w'.cell? ⟨bs, 2, none⟩ = some (.int .i64 c.N) ∧ w'.cell? ⟨bs, 3, none⟩ = some (.int .i64 c.H)) ∧ w'.cell? ⟨b0, 0, none⟩ = some (.int .i64 (k : Int)))) (by kernel_rfl) ?_ (fun hHeldrb => ?_)
    · (try dsimp only); exact ⟨⟨F.out.1.ten.1, F.out.1.ten.2.1, F.out.1.ten.2.2.1, F.out.1.ten.2.2.2.1⟩, by rw [cell_of_row _ _ _ _ _ _ F.out.2.2]; rfl⟩
    refine wpAnyH_take (i := 0) (oi := _) (v := ?vrb1) rfl (by kernel_rfl) (by kernel_rfl) (by kernel_rfl) (fun _ _ _ h => h) (Or.inl ⟨by rfl, ?hyrb1⟩) (by assumption) ?restrb1
    case hyrb1 => (intro w hSw; (try dsimp only at hSw); go_simp; all_goals with_reducible rfl)
    try simp only [Act.put, List.getElem_toArray, List.getElem_cons_zero, List.getElem_cons_succ, List.setIfInBounds_toArray, List.set_cons_zero, List.set_cons_succ]
    refine wpAnyH_take (i := 1) (oi := _) (v := ?vrb2) rfl (by kernel_rfl) (by kernel_rfl) (by kernel_rfl) (fun _ _ _ h => h) (Or.inl ⟨by rfl, ?hyrb2⟩) (by assumption) ?restrb2
    case hyrb2 => (intro w hSw; (try dsimp only at hSw); go_simp; all_goals with_reducible rfl)
    try simp only [Act.put, List.getElem_toArray, List.getElem_cons_zero, List.getElem_cons_succ, List.setIfInBounds_toArray, List.set_cons_zero, List.set_cons_succ]
    refine wpAnyH_take (i := 2) (oi := _) (v := ?vrb3) rfl (by kernel_rfl) (by kernel_rfl) (by kernel_rfl) (fun _ _ _ h => h) (Or.inl ⟨by rfl, ?hyrb3⟩) (by assumption) ?restrb3
    case hyrb3 => (intro w hSw; (try dsimp only at hSw); go_simp; all_goals with_reducible rfl)
    try simp only [Act.put, List.getElem_toArray, List.getElem_cons_zero, List.getElem_cons_succ, List.setIfInBounds_toArray, List.set_cons_zero, List.set_cons_succ]
    refine wpAnyH_take (i := 3) (oi := _) (v := ?vrb4) rfl (by kernel_rfl) (by kernel_rfl) (by kernel_rfl) (fun _ _ _ h => h) (Or.inl ⟨by rfl, ?hyrb4⟩) (by assumption) ?restrb4
    case hyrb4 => (intro w hSw; (try dsimp only at hSw); go_simp; all_goals with_reducible rfl)
    try simp only [Act.put, List.getElem_toArray, List.getElem_cons_zero, List.getElem_cons_succ, List.setIfInBounds_toArray, List.set_cons_zero, List.set_cons_succ]
    refine wpAnyH_take (i := 4) (oi := _) (v := ?vrb5) rfl (by kernel_rfl) (by kernel_rfl) (by kernel_rfl) (fun _ _ _ h => h) (Or.inl ⟨by rfl, ?hyrb5⟩) (by assumption) ?restrb5
    case hyrb5 => (intro w hSw; (try dsimp only at hSw); go_simp; all_goals with_reducible rfl)
    try simp only [Act.put, List.getElem_toArray, List.getElem_cons_zero, List.getElem_cons_succ, List.setIfInBounds_toArray, List.set_cons_zero, List.set_cons_succ]
    refine wpAnyH_take (i := 6) (oi := _) (v := ?vrb6) rfl (by kernel_rfl) (by kernel_rfl) (by kernel_rfl) (fun _ _ _ h => h) (Or.inl ⟨by rfl, ?hyrb6⟩) (by assumption) ?restrb6
    case hyrb6 => (intro w hSw; (try dsimp only at hSw); go_simp; all_goals with_reducible rfl)
    try simp only [Act.put, List.getElem_toArray, List.getElem_cons_zero, List.getElem_cons_succ, List.setIfInBounds_toArray, List.set_cons_zero, List.set_cons_succ]
    refine wpAnyH_take (i := 7) (oi := _) (v := ?vrb7) rfl (by kernel_rfl) (by kernel_rfl) (by kernel_rfl) (fun _ _ _ h => h) (Or.inl ⟨by rfl, ?hyrb7⟩) (by assumption) ?restrb7
    case hyrb7 => (intro w hSw; (try dsimp only at hSw); go_simp; all_goals with_reducible rfl)
    try simp only [Act.put, List.getElem_toArray, List.getElem_cons_zero, List.getElem_cons_succ, List.setIfInBounds_toArray, List.set_cons_zero, List.set_cons_succ]
    refine wpAnyH_ready (rs := [5]) (by kernel_rfl) (by simp) ?_
    refine AllReadyH.cons (o := _) rfl (fun K hK => ?_) AllReadyH.nil
    go_simp
    (with_reducible refine (HH.out _).mono ?_)
    rintro y w5 ⟨rfl, hb5⟩
    have F5 := Lib.hid (And.intro (F.out.1.rest hb5) (And.intro (F.out.2.1.trans (Bel.of hb5 F.out.1.bp_size)) (show w5.heap[b0]? = some (.cells (Op.mk k kd p v).cells 38 (0, 0)) from (hb5.block _ (blk_lt F.out.2.2)).trans F.out.2.2)))
    clear hb5
    go_wp2_with fail
    refine hK.out _ _ ?_ (fun hHeldrb8 => ?_)
    · (try dsimp only); exact ⟨⟨F5.out.1.ten.1, F5.out.1.ten.2.1, F5.out.1.ten.2.2.1, F5.out.1.ten.2.2.2.1⟩, by rw [cell_of_row _ _ _ _ _ _ F5.out.2.2]; rfl⟩
    clear hK K hHeldrb
    try simp only [Act.put, List.getElem_toArray, List.getElem_cons_zero, List.getElem_cons_succ, List.setIfInBounds_toArray, List.set_cons_zero, List.set_cons_succ]
    refine wpAnyH_take (i := 8) (oi := _) (v := ?vrb9) rfl (by kernel_rfl) (by kernel_rfl) (by kernel_rfl) (fun _ _ _ h => h) (Or.inl ⟨by rfl, ?hyrb9⟩) (by assumption) ?restrb9
    case hyrb9 => (intro w hSw; (try dsimp only at hSw); go_simp; all_goals with_reducible rfl)
    try simp only [Act.put, List.getElem_toArray, List.getElem_cons_zero, List.getElem_cons_succ, List.setIfInBounds_toArray, List.set_cons_zero, List.set_cons_succ]
    refine wpAnyH_done (by kernel_rfl) ?_ _
    trace_state
    have hrow : rowA A k = es := HQ.out.2.2.2.2.2.1
    have hF := find_calls F5.out.1 HQ.out.2.2.1 HQ.out.2.2.2.1 x
    have y0 : w5.cell? ⟨b0, 0, none⟩ = some (.int .i64 (k : Int)) := by rw [cell_of_row _ _ _ _ _ _ F5.out.2.2]; rfl
    have hll : l.length ≤ 1000 := by have h1 := HQ.out.1.len k es HQ.out.2.2.2.1; have h2 := HQ.out.2.2.2.2.1; omega
    have hxw : (x : Int) < c.W / 4 := by omega
    have hm256 : A.m.length ≤ 256 := by have := HQ.out.1.ml; omega
    have hx4 : x * 4 + 4 ≤ A.m.length := by have := HQ.out.1.ml; omega
    have HR := Lib.hid (And.intro hrow (And.intro hll (And.intro hxw (And.intro hm256 hx4))))
    clear hrow hll hxw hm256 hx4
    clear y0
    have y0 : w5.cell? ⟨b0, 0, none⟩ = some (.int .i64 (k : Int)) := by rw [cell_of_row _ _ _ _ _ _ F5.out.2.2]; rfl
    have HF := Lib.hid hF
    clear hF
    go_upto_block 0 with ((with_reducible refine (HF.out).mono ?_); rintro y w6 ⟨rfl, hb6⟩; have F6 := Lib.hid (And.intro (F5.out.1.rest hb6) (And.intro (F5.out.2.1.trans (Bel.of hb6 F5.out.1.bp_size)) (show w6.heap[b0]? = some (.cells (Op.mk k kd p v).cells 38 (0, 0)) from (hb6.block _ (blk_lt F5.out.2.2)).trans F5.out.2.2))); clear hb6)
    clear y0
    go_cut [6] (fun s6 wx => GtMid c bs bm bc base vv A w b0 k p i kd v s6 wx)
    case first =>
      have y0 : w6.cell? ⟨b0, 0, none⟩ = some (.int .i64 (k : Int)) := by rw [cell_of_row _ _ _ _ _ _ F6.out.2.2]; rfl
      cases hfi : fiF es x with
      | some j =>
        obtain ⟨hj, hjl⟩ := fiF_some hfi
        obtain ⟨q, hq⟩ : ∃ q, l[j]? = some q := ⟨_, List.getElem?_eq_getElem (by have := HQ.out.2.2.2.2.1; omega)⟩
        obtain ⟨e, he⟩ : ∃ e, es[j]? = some e := ⟨_, List.getElem?_eq_getElem hj⟩
        have hel : e.l = x := by rw [List.getElem?_eq_getElem hj] at he; rw [← Option.some.inj he]; exact hjl
        have hgd : es.getD j (newE 0) = e := by rw [List.getD_eq_getElem?_getD, he]; rfl
        have hjn : j < es.length := hj
        have hqd : l.getD j 0 = q := by rw [List.getD_eq_getElem?_getD, hq]; rfl
        have hen : EnAt w6 q e := F6.out.1.ent _ _ _ _ _ _ HQ.out.2.2.1 HQ.out.2.2.2.1 hq he
        have hev := hen.cell (5 + i) _ (En.at_v e i hi4)
        have HJ := Lib.hid (And.intro hfi (And.intro hjn (And.intro hq (And.intro he (And.intro hel (And.intro hgd hen))))))
        simp only [hfi, fiV, hqd]
        clear hfi hjl hj hjn hq he hel hqd hgd hen
        cases hvi : e.v i with
        | true =>
          obtain ⟨s0, s1, s2, s3, s4, s5, s6, s7, s8, s9, s10⟩ := F6.out.1.ten
          have f6 := s10 6
          have HV := Lib.hid hvi
          have hcn : (A.h : Int) < 900000000 := by have := HQ.out.2.1; unfold cnt at this; omega
          rw [hvi] at hev
          clear hvi s0 s1 s2 s3 s4 s5 s7 s8 s9 s10
          go_wp2_with fail
          go_meet
          have hg := grownBy_set w6 bs 6 (.int .i64 ((A.h : Int) + 1))
          have hs : Sys c bs bm bc base none sv vv ps { A with h := A.h + 1 } (w6.setCell ⟨bs, 6, none⟩ (.int .i64 ((A.h : Int) + 1))) := F6.out.1.count _ rfl rfl rfl hg (by rw [heap_setCell_same w6 bs 6 _ 71 _ F6.out.1.top]; rfl)
          have hbb := F6.out.1.below F6.out.1.pbs hg
          refine ⟨sv, ps, _, l, j, q, es, e, rfl, hs, F6.out.2.1.trans hbb, hbb.keep _ _ _ (by decide) (by decide) (by decide) (by decide) (by decide) F6.out.2.2, HQ.out.2.2.1, HJ.out.2.2.1, HQ.out.2.2.2.1, HJ.out.2.2.2.1, rfl, ?_, HR.out.2.1⟩
          unfold getA
          rw [HQ.out.2.2.2.2.2.2.1, HQ.out.2.2.2.2.2.2.2, if_neg HM.out, hit_eq HQ.out.2.2.2.2.2.1 HJ.out.1, HJ.out.2.2.2.2.2.1, HV.out, if_pos rfl]
          exact touch_eq (A := { A with h := A.h + 1 }) (HQ.out.1.same rfl rfl) HQ.out.2.2.2.1 HJ.out.2.2.2.1 HJ.out.2.2.2.2.1
        | false =>
          have HV := Lib.hid hvi
          rw [hvi] at hev
          have hus := use_calls F6.out.1 HQ.out.2.2.1 HJ.out.2.2.1 HQ.out.2.2.2.1 HJ.out.2.2.2.1 HR.out.2.1
          have HU := Lib.hid hus
          clear hvi hus
          obtain ⟨B, hB⟩ : ∃ B, fillA c A k x = B := ⟨_, rfl⟩
          have hBe : B = { A with f := A.f + 1, cs := A.cs.set k (es.eraseIdx j ++ [ftE A.m e]) } := by
            rw [← hB]; unfold fillA; rw [HQ.out.2.2.2.2.2.1, HJ.out.1]; simp only [HJ.out.2.2.2.2.2.1]
          have hjl : j < (rowA A k).length := by rw [HQ.out.2.2.2.2.2.1]; exact HJ.out.2.1
          have hOk : Ok c B := by
            rw [hBe]
            refine HQ.out.1.move (k := k) (j := j) (e := ftE A.m e) rfl hjl (by simp only [HQ.out.2.2.2.2.2.1]) ?_
            rw [ftE_l]
            have h9 : (rowA A k)[j]? = some e := by rw [HQ.out.2.2.2.2.2.1]; exact HJ.out.2.2.2.1
            rw [List.getElem?_eq_getElem hjl] at h9
            rw [Option.some.inj h9]
          have hcf : A.f ≤ cnt A := by unfold cnt; omega
          have hcB : cnt B ≤ 900000000 := by rw [hBe]; have := HQ.out.2.1; unfold cnt at *; simp only; omega
          have hft := fun sv7 w7 hs => fill_use (c := c) (bs := bs) (bm := bm) (bc := bc) (base := base) (vv := vv) (x := x) HQ.out.1 (by have := HQ.out.2.1; omega) HQ.out.2.2.1 HQ.out.2.2.2.1 HQ.out.2.2.2.2.1 HJ.out.2.2.1 HJ.out.2.2.2.1 HJ.out.1 sv7 w7 hs
          rw [hB] at hft
          have hah := fun sv8 w8 (hs : Sys c bs bm bc base none sv8 vv (ps.set k (useL l j q)) B w8) => ahead_calls hs hOk hcB (k := k) (x := x) (p := q) (l := l.eraseIdx j) (es := es.eraseIdx j) (e := ftE A.m e) (List.getElem?_set_self (List.getElem?_eq_some_iff.1 HQ.out.2.2.1).1) (by rw [hBe]; exact List.getElem?_set_self (List.getElem?_eq_some_iff.1 HQ.out.2.2.2.1).1) HR.out.2.2.1
          have hvB : B.vs = A.vs := by rw [hBe]
          have HA2 := Lib.hid (And.intro hft (And.intro hah (And.intro hB (And.intro hOk hvB))))
          clear hft hah hB hOk hBe hjl hcf hcB hvB
          go_wp2_with (first | ((with_reducible refine (HU.out).mono ?_); rintro y w7 ⟨rfl, ⟨sv7, hs7⟩, hb7⟩; have hx7 := hb7.keep _ _ _ (by decide) (by decide) (by decide) (by decide) (by decide) F6.out.2.2; have y0 : w7.cell? ⟨b0, 0, none⟩ = some (.int .i64 (k : Int)) := (by rw [cell_of_row _ _ _ _ _ _ hx7]; rfl); have F7 := Lib.hid (And.intro hs7 (And.intro (F6.out.2.1.trans hb7) hx7)); clear hs7 hb7 hx7) | ((with_reducible refine (HA2.out.1 _ _ F7.out.1).mono ?_); rintro y w8 ⟨rfl, hs8, hb8⟩; have hx8 := hb8.keep _ _ _ (by decide) (by decide) (by decide) (by decide) (by decide) F7.out.2.2; have y0 : w8.cell? ⟨b0, 0, none⟩ = some (.int .i64 (k : Int)) := (by rw [cell_of_row _ _ _ _ _ _ hx8]; rfl); have F8 := Lib.hid (And.intro hs8 (And.intro (F7.out.2.1.trans hb8) hx8)); clear hs8 hb8 hx8) | ((with_reducible refine (HA2.out.2.1 _ _ F8.out.1).mono ?_); rintro y w9 ⟨rfl, hp9⟩; have F9 := Lib.hid (gt_ahead HQ.out.1 HQ.out.2.2.2.2.2.2.1 HQ.out.2.2.2.2.2.2.2 HM.out (by rw [hit_eq HQ.out.2.2.2.2.2.1 HJ.out.1, HJ.out.2.2.2.2.2.1]; exact HV.out) HA2.out.2.2.1 HA2.out.2.2.2.1 (by rw [ftE_l]; exact HJ.out.2.2.2.2.1) HA2.out.2.2.2.2 F8.out.2.1 F8.out.2.2 ⟨rfl, hp9⟩); clear hp9))
          go_meet
          exact F9.out
      | none =>
        simp only [hfi, fiV]
        have HJ := Lib.hid hfi
        clear hfi
        have hen := enter_calls F6.out.1 HQ.out.2.2.1 HQ.out.2.2.2.1 x HQ.out.1.cf HR.out.2.2.2.1 (fun f hf => HQ.out.1.lin k _ f HQ.out.2.2.2.1 hf) (by have := HQ.out.2.1; unfold cnt at this; omega) HR.out.2.1
        obtain ⟨B, hB⟩ : ∃ B, fillA c A k x = B := ⟨_, rfl⟩
        have hBe : B = entF c A k es x := by
          rw [← hB]; unfold fillA; rw [HQ.out.2.2.2.2.2.1, HJ.out]
        have hOk : Ok c B := by
          rw [hBe, ← HQ.out.2.2.2.2.2.1]
          exact HQ.out.1.entF (by rw [HQ.out.2.2.2.2.2.1]; exact HJ.out) HR.out.2.2.2.2
        have hcf : A.f ≤ cnt A := by unfold cnt; omega
        have hcB : cnt B ≤ 900000000 := by rw [hBe]; have := HQ.out.2.1; have := cnt_entF c A k es x; omega
        have hft := fun b sv7 w7 hs => fill_new (c := c) (bs := bs) (bm := bm) (bc := bc) (base := base) (vv := vv) (x := x) (b := b) HQ.out.1 (by have := HQ.out.2.1; omega) HQ.out.2.2.1 HQ.out.2.2.2.1 HQ.out.2.2.2.2.1 HJ.out HR.out.2.2.2.2 sv7 w7 hs
        rw [hB] at hft
        have hah := fun b sv8 w8 (hs : Sys c bs bm bc base none sv8 vv (ps.set k (evL c l ++ [b])) B w8) => ahead_calls hs hOk hcB (k := k) (x := x) (p := b) (l := evL c l) (es := evL c es) (e := ftE (evA c A k es).m (newE x)) (List.getElem?_set_self (List.getElem?_eq_some_iff.1 HQ.out.2.2.1).1) (by rw [hBe]; exact List.getElem?_set_self (List.getElem?_eq_some_iff.1 HQ.out.2.2.2.1).1) HR.out.2.2.1
        have hvB : B.vs = A.vs := by rw [hBe]; exact entF_vs _ _ _ _ _
        have HA2 := Lib.hid (And.intro hft (And.intro hah (And.intro hB (And.intro hOk hvB))))
        have HE := Lib.hid hen
        clear hft hah hB hOk hBe hcf hcB hvB hen
        go_wp2_with (first | ((with_reducible refine (HE.out).mono ?_); rintro y w7 ⟨b, sv7, rfl, hs7, hb7, _⟩; have hx7 := hb7.keep _ _ _ (by decide) (by decide) (by decide) (by decide) (by decide) F6.out.2.2; have y0 : w7.cell? ⟨b0, 0, none⟩ = some (.int .i64 (k : Int)) := (by rw [cell_of_row _ _ _ _ _ _ hx7]; rfl); have F7 := Lib.hid (And.intro hs7 (And.intro (F6.out.2.1.trans hb7) hx7)); clear hs7 hb7 hx7) | ((with_reducible refine (HA2.out.1 _ _ _ F7.out.1).mono ?_); rintro y w8 ⟨rfl, hs8, hb8⟩; have hx8 := hb8.keep _ _ _ (by decide) (by decide) (by decide) (by decide) (by decide) F7.out.2.2; have y0 : w8.cell? ⟨b0, 0, none⟩ = some (.int .i64 (k : Int)) := (by rw [cell_of_row _ _ _ _ _ _ hx8]; rfl); have F8 := Lib.hid (And.intro hs8 (And.intro (F7.out.2.1.trans hb8) hx8)); clear hs8 hb8 hx8) | ((with_reducible refine (HA2.out.2.1 _ _ _ F8.out.1).mono ?_); rintro y w9 ⟨rfl, hp9⟩; have F9 := Lib.hid (gt_ahead HQ.out.1 HQ.out.2.2.2.2.2.2.1 HQ.out.2.2.2.2.2.2.2 HM.out (hit_none HQ.out.2.2.2.2.2.1 HJ.out) HA2.out.2.2.1 HA2.out.2.2.2.1 (ftE_l _ _) HA2.out.2.2.2.2 F8.out.2.1 F8.out.2.2 ⟨rfl, hp9⟩); clear hp9))
        go_meet
        exact F9.out
    case rest =>
      obtain ⟨sv6, ps6, B, l6, j6, q, es6, e6, rfl, hs6, hb6, hx6, hk6, hq6, hc6, he6, hvs6, hget, hl6⟩ := hcut
      have y0 : wc.cell? ⟨b0, 0, none⟩ = some (.int .i64 (k : Int)) := by rw [cell_of_row _ _ _ _ _ _ hx6]; rfl
      have hle6 := hs6.le _ _ _ hk6 hc6
      have hus := use_calls hs6 hk6 hq6 hc6 he6 hl6
      obtain ⟨C, hC⟩ : ∃ C : AS, ({ B with cs := B.cs.set k (useL es6 j6 e6) } : AS) = C := ⟨_, rfl⟩
      have hCv : C.vs = A.vs := by rw [← hC]; exact hvs6
      have hkk : (ps6.set k (useL l6 j6 q))[k]? = some (useL l6 j6 q) := List.getElem?_set_self (List.getElem?_eq_some_iff.1 hk6).1
      have hcc : C.cs[k]? = some (useL es6 j6 e6) := by rw [← hC]; exact List.getElem?_set_self (List.getElem?_eq_some_iff.1 hc6).1
      have e1 : (es6.eraseIdx j6).length = (l6.eraseIdx j6).length := by
        have h1 := (List.getElem?_eq_some_iff.1 hq6).1
        rw [List.length_eraseIdx_of_lt (by omega), List.length_eraseIdx_of_lt h1, hle6]
      have hqq : (useL l6 j6 q)[(l6.eraseIdx j6).length]? = some q := snoc_last _ _
      have hee : (useL es6 j6 e6)[(l6.eraseIdx j6).length]? = some e6 := by rw [← e1]; exact snoc_last _ _
      unfold UsPost at hus
      rw [hC] at hus
      have hgC : getA c A k p = { C with vs := C.vs ++ [e6.d i] } := by rw [hget, ← hC, ← hvs6]
      have HU := Lib.hid hus
      have H6 := Lib.hid (And.intro hb6 (And.intro hx6 (And.intro hkk (And.intro hcc (And.intro hqq (And.intro hee (And.intro hgC hCv)))))))
      have HVC : Hid (C.vs.length ≤ 1000000) := Lib.hid (by rw [hCv]; exact HVS.out)
      obtain ⟨ed, hed⟩ : ∃ d, e6.d i = d := ⟨_, rfl⟩
      clear hs6 hb6 hx6 hk6 hq6 hc6 he6 hvs6 hget hl6 hle6 hus hC hCv hkk hcc e1 hqq hee hgC
      go_upto_region 13 with ((with_reducible refine (HU.out).mono ?_); rintro y w7 ⟨rfl, ⟨sv7, hs7⟩, hb7⟩; have G7 := Lib.hid (And.intro (hs7.rest (bb_drew (Below.refl _ _))) (And.intro ((H6.out.1.trans hb7).drew) (show w7.drew.heap[b0]? = some (.cells (Op.mk k kd p v).cells 38 (0, 0)) from hb7.keep _ _ _ (by decide) (by decide) (by decide) (by decide) (by decide) H6.out.2.1))); clear hs7 hb7)
      clear y0
      refine wp_region_held_drew (S := (fun w' => w'.cell? ⟨q, 1 + i, none⟩ = some (.int .i64 ed))) (by kernel_rfl) ?_ (fun hHeldz => ?_)
      · (try dsimp only); exact s13_of G7.out.1 H6.out.2.2.1 H6.out.2.2.2.2.1 H6.out.2.2.2.1 H6.out.2.2.2.2.2.1 hi4 hed
      refine wpAnyH_take (i := 0) (oi := _) (v := ?vz1) rfl (by kernel_rfl) (by kernel_rfl) (by kernel_rfl) (fun _ _ _ h => h) (Or.inl ⟨by rfl, ?hyz1⟩) (by assumption) ?restz1
      case hyz1 => (intro w hSw; (try dsimp only at hSw); go_simp; all_goals with_reducible rfl)
      try simp only [Act.put, List.getElem_toArray, List.getElem_cons_zero, List.getElem_cons_succ, List.setIfInBounds_toArray, List.set_cons_zero, List.set_cons_succ]
      refine wpAnyH_take (i := 1) (oi := _) (v := ?vz2) rfl (by kernel_rfl) (by kernel_rfl) (by kernel_rfl) (fun _ _ _ h => h) (Or.inl ⟨by rfl, ?hyz2⟩) (by assumption) ?restz2
      case hyz2 => (intro w hSw; (try dsimp only at hSw); go_simp; all_goals with_reducible rfl)
      try simp only [Act.put, List.getElem_toArray, List.getElem_cons_zero, List.getElem_cons_succ, List.setIfInBounds_toArray, List.set_cons_zero, List.set_cons_succ]
      refine wpAnyH_take (i := 2) (oi := _) (v := ?vz3) rfl (by kernel_rfl) (by kernel_rfl) (by kernel_rfl) (fun _ _ _ h => h) (Or.inl ⟨by rfl, ?hyz3⟩) (by assumption) ?restz3
      case hyz3 => (intro w hSw; (try dsimp only at hSw); go_simp; all_goals with_reducible rfl)
      try simp only [Act.put, List.getElem_toArray, List.getElem_cons_zero, List.getElem_cons_succ, List.setIfInBounds_toArray, List.set_cons_zero, List.set_cons_succ]
      refine wpAnyH_take (i := 3) (oi := _) (v := ?vz4) rfl (by kernel_rfl) (by kernel_rfl) (by kernel_rfl) (fun _ _ _ h => h) (Or.inl ⟨by rfl, ?hyz4⟩) (by assumption) ?restz4
      case hyz4 => (intro w hSw; (try dsimp only at hSw); go_simp; all_goals with_reducible rfl)
      try simp only [Act.put, List.getElem_toArray, List.getElem_cons_zero, List.getElem_cons_succ, List.setIfInBounds_toArray, List.set_cons_zero, List.set_cons_succ]
      refine wpAnyH_take (i := 5) (oi := _) (v := ?vz5) rfl (by kernel_rfl) (by kernel_rfl) (by kernel_rfl) (fun _ _ _ h => h) (Or.inl ⟨by rfl, ?hyz5⟩) (by assumption) ?restz5
      case hyz5 => (intro w hSw; (try dsimp only at hSw); go_simp; all_goals with_reducible rfl)
      try simp only [Act.put, List.getElem_toArray, List.getElem_cons_zero, List.getElem_cons_succ, List.setIfInBounds_toArray, List.set_cons_zero, List.set_cons_succ]
      refine wpAnyH_take (i := 6) (oi := _) (v := ?vz6) rfl (by kernel_rfl) (by kernel_rfl) (by kernel_rfl) (fun _ _ _ h => h) (Or.inl ⟨by rfl, ?hyz6⟩) (by assumption) ?restz6
      case hyz6 => (intro w hSw; (try dsimp only at hSw); go_simp; all_goals with_reducible rfl)
      try simp only [Act.put, List.getElem_toArray, List.getElem_cons_zero, List.getElem_cons_succ, List.setIfInBounds_toArray, List.set_cons_zero, List.set_cons_succ]
      refine wpAnyH_take (i := 7) (oi := _) (v := ?vz7) rfl (by kernel_rfl) (by kernel_rfl) (by kernel_rfl) (fun _ _ _ h => h) (Or.inl ⟨by rfl, ?hyz7⟩) (by assumption) ?restz7
      case hyz7 => (intro w hSw; (try dsimp only at hSw); go_simp; all_goals with_reducible rfl)
      try simp only [Act.put, List.getElem_toArray, List.getElem_cons_zero, List.getElem_cons_succ, List.setIfInBounds_toArray, List.set_cons_zero, List.set_cons_succ]
      refine wpAnyH_take (i := 8) (oi := _) (v := ?vz8) rfl (by kernel_rfl) (by kernel_rfl) (by kernel_rfl) (fun _ _ _ h => h) (Or.inl ⟨by rfl, ?hyz8⟩) (by assumption) ?restz8
      case hyz8 => (intro w hSw; (try dsimp only at hSw); go_simp; all_goals with_reducible rfl)
      try simp only [Act.put, List.getElem_toArray, List.getElem_cons_zero, List.getElem_cons_succ, List.setIfInBounds_toArray, List.set_cons_zero, List.set_cons_succ]
      refine wpAnyH_take (i := 9) (oi := _) (v := ?vz9) rfl (by kernel_rfl) (by kernel_rfl) (by kernel_rfl) (fun _ _ _ h => h) (Or.inl ⟨by rfl, ?hyz9⟩) (by assumption) ?restz9
      case hyz9 => (intro w hSw; (try dsimp only at hSw); go_simp; all_goals with_reducible rfl)
      try simp only [Act.put, List.getElem_toArray, List.getElem_cons_zero, List.getElem_cons_succ, List.setIfInBounds_toArray, List.set_cons_zero, List.set_cons_succ]
      refine wpAnyH_take (i := 10) (oi := _) (v := ?vz10) rfl (by kernel_rfl) (by kernel_rfl) (by kernel_rfl) (fun _ _ _ h => h) (Or.inl ⟨by rfl, ?hyz10⟩) (by assumption) ?restz10
      case hyz10 => (intro w hSw; (try dsimp only at hSw); go_simp; all_goals with_reducible rfl)
      try simp only [Act.put, List.getElem_toArray, List.getElem_cons_zero, List.getElem_cons_succ, List.setIfInBounds_toArray, List.set_cons_zero, List.set_cons_succ]
      refine wpAnyH_ready (rs := [4, 11]) (by kernel_rfl) (by simp) ?_
      refine AllReadyH.cons (o := _) rfl (fun K hK => ?_) ?_
      · have t9 := G7.out.1.ten.2.2.2.2.2.2.2.2.2.1
        go_simp
        clear t9
        refine hK.out _ _ ?_ (fun hHeldz11 => ?_)
        · (try dsimp only); exact s13_of G7.out.1 H6.out.2.2.1 H6.out.2.2.2.2.1 H6.out.2.2.2.1 H6.out.2.2.2.2.2.1 hi4 hed
        clear hK K hHeldz
        try simp only [Act.put, List.getElem_toArray, List.getElem_cons_zero, List.getElem_cons_succ, List.setIfInBounds_toArray, List.set_cons_zero, List.set_cons_succ]
        refine wpAnyH_ready (rs := [11]) (by kernel_rfl) (by simp) ?_
        refine AllReadyH.cons (o := _) rfl (fun K hK => ?_) AllReadyH.nil
        go_simp
        obtain ⟨uzb, hu⟩ : ∃ u, (w7.alloc (.cells #[.int .i64 (ed)] 3)).drew = u := ⟨_, rfl⟩
        have hbu : Below w7.drew.heap.size w7.drew uzb := by rw [← hu]; exact below_drew_alloc w7 _
        obtain ⟨nbz, hnb⟩ : ∃ nb, w7.heap.size = nb := ⟨_, rfl⟩
        have hrd : Rd encI 1 uzb (some ⟨nbz, 0, none⟩) [(ed)] := by rw [← hu, ← hnb]; exact (rd_one encI 1 w7 (ed) 3 _ rfl _ rfl).drew
        have Fzb := Lib.hid (And.intro (G7.out.1.rest hbu) (And.intro (G7.out.2.1.trans (Bel.of hbu G7.out.1.bp_size)) (And.intro ((hbu.block _ (blk_lt G7.out.2.2)).trans G7.out.2.2) hrd)))
        rw [hu]
        try rw [hnb]
        clear hu hbu hrd hnb
        refine hK.out _ _ ?_ (fun hHeldz12 => ?_)
        · (try dsimp only); exact s13_of Fzb.out.1 H6.out.2.2.1 H6.out.2.2.2.2.1 H6.out.2.2.2.1 H6.out.2.2.2.2.2.1 hi4 hed
        clear hK K hHeldz11
        try simp only [Act.put, List.getElem_toArray, List.getElem_cons_zero, List.getElem_cons_succ, List.setIfInBounds_toArray, List.set_cons_zero, List.set_cons_succ]
        refine wpAnyH_ready (rs := [12]) (by kernel_rfl) (by simp) ?_
        refine AllReadyH.cons (o := _) rfl (fun K hK => ?_) AllReadyH.nil
        refine step_append_typed lenI oneI rfl (.tmp 93) (.tmp 100) 32 rfl base 3 (.int .i64 0) 8 Try.underlying32 info3 rfl (by decide) (by decide) vv C.vs (by simp [Act.eval, Act.put]) Fzb.out.1.val ⟨nbz, 0, none⟩ 1 1 [(ed)] (by simp [Act.eval, Act.put]) rfl (by decide) Fzb.out.2.2.2 (by have := HVC.out; omega) Fzb.out.1.bp_size ?_
        intro g2 cap2 uzba hA hB hL
        have hz := Fzb.out.1.tell hA hB (hL.elim Or.inl (fun e => Or.inr (by omega)))
        have hb9 := (Fzb.out.1.belowVal hB).trans (Fzb.out.1.belowTop hB hz.2)
        have Fzba := Lib.hid (And.intro hz.1 (And.intro (Fzb.out.2.1.trans hb9) (And.intro (hb9.keep _ _ _ (by decide) (by decide) (by decide) (by decide) (by decide) Fzb.out.2.2.1) (And.intro (s13_val Fzb.out.1 hB H6.out.2.2.1 H6.out.2.2.2.2.1 H6.out.2.2.2.1 H6.out.2.2.2.2.2.1 hi4 hed) (Fzb.out.1.tellTop hB)))))
        clear hA hB hL hz hb9
        refine hK.out _ _ ?_ (fun hHeldz13 => ?_)
        · (try dsimp only); exact Fzba.out.2.2.2.1
        clear hK K hHeldz12
        try simp only [Act.put, List.getElem_toArray, List.getElem_cons_zero, List.getElem_cons_succ, List.setIfInBounds_toArray, List.set_cons_zero, List.set_cons_succ]
        refine wpAnyH_take (i := 13) (oi := _) (v := ?vz14) rfl (by kernel_rfl) (by kernel_rfl) (by kernel_rfl) (fun _ _ _ h => h) (Or.inl ⟨by rfl, ?hyz14⟩) (by assumption) ?restz14
        case hyz14 => (intro w hSw; (try dsimp only at hSw); go_simp; all_goals with_reducible rfl)
        try simp only [Act.put, List.getElem_toArray, List.getElem_cons_zero, List.getElem_cons_succ, List.setIfInBounds_toArray, List.set_cons_zero, List.set_cons_succ]
        refine wpAnyH_take (i := 14) (oi := _) (v := ?vz15) rfl (by kernel_rfl) (by kernel_rfl) (by kernel_rfl) (fun _ _ _ h => h) (Or.inl ⟨by rfl, ?hyz15⟩) (by assumption) ?restz15
        case hyz15 => (intro w hSw; (try dsimp only at hSw); go_simp; all_goals with_reducible rfl)
        try simp only [Act.put, List.getElem_toArray, List.getElem_cons_zero, List.getElem_cons_succ, List.setIfInBounds_toArray, List.set_cons_zero, List.set_cons_succ]
        refine wpAnyH_ready (rs := [15]) (by kernel_rfl) (by simp) ?_
        refine AllReadyH.cons (o := _) rfl (fun K hK => ?_) AllReadyH.nil
        obtain ⟨t0, t1⟩ := Fzba.out.2.2.2.2
        go_simp
        clear t0 t1
        refine hK.out _ _ ?_ (fun hHeldz16 => ?_)
        · (try dsimp only); exact s13_of Fzba.out.1 H6.out.2.2.1 H6.out.2.2.2.2.1 H6.out.2.2.2.1 H6.out.2.2.2.2.2.1 hi4 hed
        clear hK K hHeldz13
        try simp only [Act.put, List.getElem_toArray, List.getElem_cons_zero, List.getElem_cons_succ, List.setIfInBounds_toArray, List.set_cons_zero, List.set_cons_succ]
        refine wpAnyH_done (by kernel_rfl) ?_ _
        go_wp2_with fail
        (first | go_end0 | go_ret)
        refine ⟨rfl, Fzba.out.2.1, sv7, .slice (some ⟨g2, 0, none⟩) (C.vs.length + 1) cap2, ps6.set k (useL l6 j6 q), ?_⟩
        rw [H6.out.2.2.2.2.2.2.1, hed]
        exact Fzba.out.1
      refine AllReadyH.cons (o := _) rfl (fun K hK => ?_) AllReadyH.nil
      go_simp
      obtain ⟨uzb, hu⟩ : ∃ u, (w7.alloc (.cells #[.int .i64 (ed)] 3)).drew = u := ⟨_, rfl⟩
      have hbu : Below w7.drew.heap.size w7.drew uzb := by rw [← hu]; exact below_drew_alloc w7 _
      obtain ⟨nbz, hnb⟩ : ∃ nb, w7.heap.size = nb := ⟨_, rfl⟩
      have hrd : Rd encI 1 uzb (some ⟨nbz, 0, none⟩) [(ed)] := by rw [← hu, ← hnb]; exact (rd_one encI 1 w7 (ed) 3 _ rfl _ rfl).drew
      have Fzb := Lib.hid (And.intro (G7.out.1.rest hbu) (And.intro (G7.out.2.1.trans (Bel.of hbu G7.out.1.bp_size)) (And.intro ((hbu.block _ (blk_lt G7.out.2.2)).trans G7.out.2.2) hrd)))
      rw [hu]
      try rw [hnb]
      clear hu hbu hrd hnb
      refine hK.out _ _ ?_ (fun hHeldz17 => ?_)
      · (try dsimp only); exact s13_of Fzb.out.1 H6.out.2.2.1 H6.out.2.2.2.2.1 H6.out.2.2.2.1 H6.out.2.2.2.2.2.1 hi4 hed
      clear hK K hHeldz
      try simp only [Act.put, List.getElem_toArray, List.getElem_cons_zero, List.getElem_cons_succ, List.setIfInBounds_toArray, List.set_cons_zero, List.set_cons_succ]
      refine wpAnyH_ready (rs := [4]) (by kernel_rfl) (by simp) ?_
      refine AllReadyH.cons (o := _) rfl (fun K hK => ?_) AllReadyH.nil
      have t9 := Fzb.out.1.ten.2.2.2.2.2.2.2.2.2.1
      go_simp
      clear t9
      refine hK.out _ _ ?_ (fun hHeldz18 => ?_)
      · (try dsimp only); exact s13_of Fzb.out.1 H6.out.2.2.1 H6.out.2.2.2.2.1 H6.out.2.2.2.1 H6.out.2.2.2.2.2.1 hi4 hed
      clear hK K hHeldz17
      try simp only [Act.put, List.getElem_toArray, List.getElem_cons_zero, List.getElem_cons_succ, List.setIfInBounds_toArray, List.set_cons_zero, List.set_cons_succ]
      refine wpAnyH_ready (rs := [12]) (by kernel_rfl) (by simp) ?_
      refine AllReadyH.cons (o := _) rfl (fun K hK => ?_) AllReadyH.nil
      refine step_append_typed lenI oneI rfl (.tmp 93) (.tmp 100) 32 rfl base 3 (.int .i64 0) 8 Try.underlying32 info3 rfl (by decide) (by decide) vv C.vs (by simp [Act.eval, Act.put]) Fzb.out.1.val ⟨nbz, 0, none⟩ 1 1 [(ed)] (by simp [Act.eval, Act.put]) rfl (by decide) Fzb.out.2.2.2 (by have := HVC.out; omega) Fzb.out.1.bp_size ?_
      intro g2 cap2 uzba hA hB hL
      have hz := Fzb.out.1.tell hA hB (hL.elim Or.inl (fun e => Or.inr (by omega)))
      have hb9 := (Fzb.out.1.belowVal hB).trans (Fzb.out.1.belowTop hB hz.2)
      have Fzba := Lib.hid (And.intro hz.1 (And.intro (Fzb.out.2.1.trans hb9) (And.intro (hb9.keep _ _ _ (by decide) (by decide) (by decide) (by decide) (by decide) Fzb.out.2.2.1) (And.intro (s13_val Fzb.out.1 hB H6.out.2.2.1 H6.out.2.2.2.2.1 H6.out.2.2.2.1 H6.out.2.2.2.2.2.1 hi4 hed) (Fzb.out.1.tellTop hB)))))
      clear hA hB hL hz hb9
      refine hK.out _ _ ?_ (fun hHeldz19 => ?_)
      · (try dsimp only); exact Fzba.out.2.2.2.1
      clear hK K hHeldz18
      try simp only [Act.put, List.getElem_toArray, List.getElem_cons_zero, List.getElem_cons_succ, List.setIfInBounds_toArray, List.set_cons_zero, List.set_cons_succ]
      refine wpAnyH_take (i := 13) (oi := _) (v := ?vz20) rfl (by kernel_rfl) (by kernel_rfl) (by kernel_rfl) (fun _ _ _ h => h) (Or.inl ⟨by rfl, ?hyz20⟩) (by assumption) ?restz20
      case hyz20 => (intro w hSw; (try dsimp only at hSw); go_simp; all_goals with_reducible rfl)
      try simp only [Act.put, List.getElem_toArray, List.getElem_cons_zero, List.getElem_cons_succ, List.setIfInBounds_toArray, List.set_cons_zero, List.set_cons_succ]
      refine wpAnyH_take (i := 14) (oi := _) (v := ?vz21) rfl (by kernel_rfl) (by kernel_rfl) (by kernel_rfl) (fun _ _ _ h => h) (Or.inl ⟨by rfl, ?hyz21⟩) (by assumption) ?restz21
      case hyz21 => (intro w hSw; (try dsimp only at hSw); go_simp; all_goals with_reducible rfl)
      try simp only [Act.put, List.getElem_toArray, List.getElem_cons_zero, List.getElem_cons_succ, List.setIfInBounds_toArray, List.set_cons_zero, List.set_cons_succ]
      refine wpAnyH_ready (rs := [15]) (by kernel_rfl) (by simp) ?_
      refine AllReadyH.cons (o := _) rfl (fun K hK => ?_) AllReadyH.nil
      obtain ⟨t0, t1⟩ := Fzba.out.2.2.2.2
      go_simp
      clear t0 t1
      refine hK.out _ _ ?_ (fun hHeldz22 => ?_)
      · (try dsimp only); exact s13_of Fzba.out.1 H6.out.2.2.1 H6.out.2.2.2.2.1 H6.out.2.2.2.1 H6.out.2.2.2.2.2.1 hi4 hed
      clear hK K hHeldz19
      try simp only [Act.put, List.getElem_toArray, List.getElem_cons_zero, List.getElem_cons_succ, List.setIfInBounds_toArray, List.set_cons_zero, List.set_cons_succ]
      refine wpAnyH_done (by kernel_rfl) ?_ _
      go_wp2_with fail
      (first | go_end0 | go_ret)
      refine ⟨rfl, Fzba.out.2.1, sv7, .slice (some ⟨g2, 0, none⟩) (C.vs.length + 1) cap2, ps6.set k (useL l6 j6 q), ?_⟩
      rw [H6.out.2.2.2.2.2.2.1, hed]
      exact Fzba.out.1
end Go.Proofs.Ytggidakiflnhhaa
