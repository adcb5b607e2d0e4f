import Derived.Test.YtggidakiflnhhaaAS
import Derived.Test.YtggidakiflnhhaaY
namespace Go.Proofs.Ytggidakiflnhhaa
open Go.RowKit
set_option maxHeartbeats 16000000
set_option maxRecDepth 100000
set_option linter.unusedSimpArgs false
set_option linter.unusedVariables false

/-- the hot blocks of Run -/
def XV (n0 n1 n9 : Nat) (v : Value) (k : Nat) : Prop := k = n0 ∨ k = n1 ∨ k = n9 ∨ v.ownBlock = some k
abbrev cz3 : Array Value := #[.int .i64 0, .int .i64 0, .int .i64 0]
structure RF (bm bc n0 n1 n9 nV : Nat) : Prop where
  a1 : n0 < n1
  a2 : n1 < nV
  a3 : n9 < nV
  b1 : bm < nV
  b2 : bc < nV
  c1 : n1 < bm
  c2 : n1 < bc
  c3 : n1 < n9
  d1 : bm ≠ n9
  d2 : bc ≠ n9
structure RI (c : Cf) (bm bc n0 n1 n9 nV : Nat) (w : World) (v : Value) (A : AS) (W : World) : Prop where
  st : W.heap[n9]? = some (.cells (stC c bm bc A) 81 (0, 0))
  cf : W.heap[n0]? = some (.cells c.cells 23 (0, 0))
  ct : W.heap[n1]? = some (.cells cz3 45 (0, 0))
  rs : RS c bm bc (XV n0 n1 n9 v) A W
  vv : Own encI 1 3 W nV v A.vs
  lo : Below n0 w W
  sz : nV ≤ W.heap.size
section
variable {c : Cf} {bm bc n0 n1 n9 nV : Nat} {w W W' : World} {v v' : Value} {A A' : AS}
theorem XV.lt (hF : RF bm bc n0 n1 n9 nV) (h : RI c bm bc n0 n1 n9 nV w v A W) : ∀ k, XV n0 n1 n9 v k → k < W.heap.size := fun k hk => by
  have hsz := h.sz
  have a1 := hF.a1
  have a2 := hF.a2
  have a3 := hF.a3
  rcases hk with hk | hk | hk | hk
  · omega
  · omega
  · omega
  · exact (h.vv.blk k hk).2.1
theorem RI.rest (h : RI c bm bc n0 n1 n9 nV w v A W) (hb : Below W.heap.size W W') (hn : n0 ≤ nV) : RI c bm bc n0 n1 n9 nV w v A W' :=
  ⟨(hb.block _ (blk_lt h.st)).trans h.st, (hb.block _ (blk_lt h.cf)).trans h.cf, (hb.block _ (blk_lt h.ct)).trans h.ct, h.rs.rest hb, h.vv.rest hb, h.lo.trans (hb.mono (by have := h.sz; omega)), Nat.le_trans h.sz hb.size⟩
theorem RI.seen (hF : RF bm bc n0 n1 n9 nV) (h : RI c bm bc n0 n1 n9 nV w v A W) (hk : Kq bm bc W.heap.size W W') : W'.heap[n9]? = some (.cells (stC c bm bc A) 81 (0, 0)) :=
  (hk.block _ (blk_lt h.st) (fun e => hF.d1 e.symm) (fun e => hF.d2 e.symm)).trans h.st
/-- behind a call of one of the state's functions -/
theorem RI.store (hF : RF bm bc n0 n1 n9 nV) (h : RI c bm bc n0 n1 n9 nV w v A W) (hr : RS c bm bc (XV n0 n1 n9 v) A' W') (hk : Kq bm bc W.heap.size W W') (hv : A'.vs = A.vs) : RI c bm bc n0 n1 n9 nV w v A' (W'.setRow n9 (stC c bm bc A')) := by
  have a1 := hF.a1
  have a2 := hF.a2
  have a3 := hF.a3
  have b1 := hF.b1
  have b2 := hF.b2
  have c1 := hF.c1
  have c2 := hF.c2
  have c3 := hF.c3
  have hst := h.seen hF hk
  have hbs := h.sz
  have hsz := hk.size
  have hg := grownBy_setRow W' n9 (stC c bm bc A')
  have ho : Own encI 1 3 W' nV v A.vs := own_at h.vv (fun q hq => hk.block q (h.vv.blk q hq).2.1 (by have := (h.vv.blk q hq).1; omega) (by have := (h.vv.blk q hq).1; omega))
  refine ⟨setRow_heap _ _ _ _ _ _ hst, ?_, ?_, hr.turn (Or.inr (Or.inr (Or.inl rfl))) (fun e => hF.d1 e.symm) (fun e => hF.d2 e.symm) hg, ?_, ?_, ?_⟩
  · rw [setRow_other _ _ _ _ (by omega)]; exact (hk.block _ (blk_lt h.cf) (by omega) (by omega)).trans h.cf
  · rw [setRow_other _ _ _ _ (by omega)]; exact (hk.block _ (blk_lt h.ct) (by omega) (by omega)).trans h.ct
  · rw [hv]; exact ho.grown hg (Or.inr (fun e => by have := (h.vv.blk _ e).1; omega))
  · exact (h.lo.trans (hk.low (by omega) (by omega) (by omega))).grown hg (by have := h.sz; omega) (fun q hq => by obtain rfl := Option.some.inj hq; omega)
  · rw [setRow_size]; omega
/-- a row of the table turns -/
theorem RI.setRow (hF : RF bm bc n0 n1 n9 nV) (h : RI c bm bc n0 n1 n9 nV w v A W) (k : Nat) {u : Value} {es : List En} (hr : RowR bm bc (XV n0 n1 n9 v) W u es) : RI c bm bc n0 n1 n9 nV w v { A with cs := A.cs.set k es } (W.setCell ⟨bc, k, none⟩ u) := by
  have a1 := hF.a1
  have a2 := hF.a2
  have a3 := hF.a3
  have b1 := hF.b1
  have b2 := hF.b2
  have c1 := hF.c1
  have c2 := hF.c2
  have c3 := hF.c3
  have d2 := hF.d2
  have hg := grownBy_set W bc k u
  have hne : ∀ b, b ≠ bc → some b ≠ some bc := fun b e e' => e (Option.some.inj e')
  refine ⟨?_, (hg.block _ (blk_lt h.cf) (hne _ (by omega))).trans h.cf, (hg.block _ (blk_lt h.ct) (hne _ (by omega))).trans h.ct, h.rs.setRow k hr, h.vv.grown hg (Or.inr (fun e => by have := (h.vv.blk _ e).1; omega)), h.lo.grown hg (by have := h.sz; omega) (fun q hq => by obtain rfl := Option.some.inj hq; omega), Nat.le_trans h.sz hg.size⟩
  rw [hg.block _ (blk_lt h.st) (hne _ (fun e => hF.d2 e.symm)), h.st]
  simp
/-- a value is told -/
theorem RI.tell (hF : RF bm bc n0 n1 n9 nV) (h : RI c bm bc n0 n1 n9 nV w v A W) {vs : List Int} (ho : Own encI 1 3 W' nV v' vs) (hg : W.grownBy W' v.ownBlock) (hl : ∀ k, v'.ownBlock = some k → v.ownBlock = some k ∨ k = W.heap.size) : RI c bm bc n0 n1 n9 nV w v' { A with vs := vs } W' := by
  have a1 := hF.a1
  have a2 := hF.a2
  have a3 := hF.a3
  have b1 := hF.b1
  have b2 := hF.b2
  have hbl := h.vv.blk
  have key : ∀ b, b < nV → W'.heap[b]? = W.heap[b]? := fun b hb => hg.block b (by have := h.sz; omega) (fun e => by have := (hbl b e.symm).1; omega)
  refine ⟨(key _ a3).trans h.st, (key _ (by omega)).trans h.cf, (key _ a2).trans h.ct, ?_, ho, h.lo.grown hg (by have := h.sz; omega) (fun q hq => by have := (hbl q hq).1; omega), Nat.le_trans h.sz hg.size⟩
  have h1 : RS c bm bc (fun k => XV n0 n1 n9 v k ∨ XV n0 n1 n9 v' k) A W := h.rs.ext (fun k hk => by
    rcases hk with hk | hk
    · exact Or.inl hk
    · rcases hk with hk | hk | hk | hk
      · exact Or.inl (Or.inl hk)
      · exact Or.inl (Or.inr (Or.inl hk))
      · exact Or.inl (Or.inr (Or.inr (Or.inl hk)))
      · rcases hl k hk with h | h
        · exact Or.inl (Or.inr (Or.inr (Or.inr h)))
        · exact Or.inr (by omega))
  refine RS.same (A := A) ((h1.kept (fun j hj hx => hg.block j hj (fun e => ?_))).weak (fun k hk => Or.inr hk)) rfl rfl
  rcases hx with hx | hx | hx
  · exact hx (Or.inl (Or.inr (Or.inr (Or.inr e.symm))))
  · have := (hbl j e.symm).1; omega
  · have := (hbl j e.symm).1; omega
end
theorem rowR_nil (bm bc : Nat) (X : Nat → Prop) (w : World) : RowR bm bc X w (.slice none 0 0) [] :=
  ⟨none, 0, rfl, Nat.le_refl _, Rd.nil _ _ _ _, fun a ha => (by cases ha), fun h => absurd h (by simp)⟩
abbrev stI (c : Cf) (bm bc : Nat) : Array Value := #[.int .i64 c.L, .int .i64 c.W, .int .i64 c.N, .int .i64 c.H, .slice (some ⟨bm, 0, none⟩) c.W.toNat c.W.toNat, .slice (some ⟨bc, 0, none⟩) c.L.toNat c.L.toNat, .int .i64 0, .int .i64 0, .int .i64 0]
theorem stI_eq (c : Cf) (bm bc : Nat) : stI c bm bc = stC c bm bc (initA c) := by simp [stI, stC, initA]
theorem init_RS {c : Cf} (hok : cfOk c) {bm bc : Nat} {X : Nat → Prop} {w : World} (hne : bm ≠ bc) (h1 : w.heap[bm]? = some (.cells (List.replicate c.W.toNat (.int .i64 0)).toArray 3 (0, 0))) (h2 : w.heap[bc]? = some (.cells (List.replicate c.L.toNat (.slice none 0 0)).toArray 85 (0, 0))) : RS c bm bc X (initA c) w := by
  refine ⟨hne, ?_, List.replicate c.L.toNat (.slice none 0 0), h2, by simp [initA], fun k v es a b => ?_⟩
  · rw [h1]; simp [memC, initA]
  · obtain rfl := List.eq_of_mem_replicate (List.mem_of_getElem? a)
    obtain rfl := List.eq_of_mem_replicate (List.mem_of_getElem? (show (List.replicate c.L.toNat ([] : List En))[k]? = some es from b))
    exact rowR_nil _ _ _ _
theorem info85 : (Try.prog.info? 85).map (fun i => (i.zero, i.size, i.bytes)) = some (some (.slice none 0 0), 1, 24) := by kernel_rfl
theorem info45s : (Try.prog.info? 45).map (·.size) = some 3 := by kernel_rfl
theorem res17 (tmps : Array Value) (Y : World) (b : Nat) (u4 u5 u7 v0 v1 v2 : Value) (h4 : tmps[4]?.getD undef = u4) (h5 : tmps[5]?.getD undef = u5) (h6 : tmps[6]?.getD undef = .pointer (some ⟨b, 0, none⟩)) (h7 : tmps[7]?.getD undef = u7)
    (x : Y.heap[b]? = some (.cells #[v0, v1, v2] 45 (0, 0))) : (results Try.f17 tmps).run Try.prog Y = .ok (.tuple #[u4, u5, .agg #[v0, v1, v2], u7]) Y := by
  have c0 : Y.cell? ⟨b, 0, none⟩ = some v0 := by rw [cell_of_row _ _ _ _ _ _ x]; rfl
  have c1 : Y.cell? ⟨b, 1, none⟩ = some v1 := by rw [cell_of_row _ _ _ _ _ _ x]; rfl
  have c2 : Y.cell? ⟨b, 2, none⟩ = some v2 := by rw [cell_of_row _ _ _ _ _ _ x]; rfl
  simp [results, Try.results17, go_sem, h4, h5, h6, h7, c0, c1, c2]
theorem stA_bd {c : Cf} {l : List Op} (hcf : cfOk c) (ho : ∀ o ∈ l, opOk c o) : ∀ j, j ≤ l.length → Ok c ((l.take j).foldl (opA c) (initA c)) ∧ cnt ((l.take j).foldl (opA c) (initA c)) ≤ 20 * j ∧ ((l.take j).foldl (opA c) (initA c)).vs.length ≤ j
  | 0, _ => ⟨init_ok hcf, by simp [initA, cnt], by simp [initA]⟩
  | j + 1, hj => by
    obtain ⟨h1, h2, h3⟩ := stA_bd hcf ho j (by omega)
    rw [List.take_succ_eq_append_getElem (show j < l.length by omega), List.foldl_append]
    obtain ⟨g1, g2, g3⟩ := opA_ok h1 (ho _ (List.getElem_mem (show j < l.length by omega)))
    exact ⟨g1, by simp only [List.foldl_cons, List.foldl_nil]; omega, by simp only [List.foldl_cons, List.foldl_nil]; omega⟩
theorem cnt_range {c : Cf} {bm bc n9 : Nat} {B : AS} {W : World} (h : W.heap[n9]? = some (.cells (stC c bm bc B) 81 (0, 0))) : W.rangeAt n9 6 [.int .i64 (B.f : Int), .int .i64 (B.wr : Int), .int .i64 (B.h : Int)] := fun j v hv => by
  obtain ⟨_, _, _, _, _, _, y6, y7, y8⟩ := st9 h
  match j with
  | 0 => simp at hv; rw [← hv]; exact y6
  | 1 => simp at hv; rw [← hv]; exact y7
  | 2 => simp at hv; rw [← hv]; exact y8
  | n + 3 => simp at hv
theorem runR_calls (c : Cf) (l : List Op) (A : Option Addr) (cp : Nat) (w : World) (hA : Rd encP 4 w A l) :
    Calls Try.prog 17 #[c.val, .slice A l.length cp] w (RunPost c l w) := by
  have hsm := hA.small
  obtain ⟨W1, hW1, hb1, hz1, x0, x1⟩ := box2 w (.cells c.cells 23) (.cells cz3 45)
  obtain ⟨n0, hn0⟩ : ∃ n, w.heap.size = n := ⟨_, rfl⟩
  obtain ⟨n1, hn1⟩ : ∃ n, n0 + 1 = n := ⟨_, rfl⟩
  rw [hn0] at hb1 hz1 x0 x1
  rw [hn1] at x1
  have hck := checkR_calls c l A cp W1 (hA.below (by rw [hn0]; exact hb1))
  have hcfb : ∀ u, Below W1.heap.size W1 u → u.cell? ⟨n0, 0, none⟩ = some (.int .i64 c.L) ∧ u.cell? ⟨n0, 1, none⟩ = some (.int .i64 c.W) ∧ u.cell? ⟨n0, 2, none⟩ = some (.int .i64 c.N) ∧ u.cell? ⟨n0, 3, none⟩ = some (.int .i64 c.H) := fun u hu => by
    have hx := (hu.block _ (blk_lt x0)).trans x0
    refine ⟨?_, ?_, ?_, ?_⟩ <;> (rw [cell_of_row _ _ _ _ _ _ hx]; rfl)
  have HC := Lib.hid hck
  have HCF := Lib.hid hcfb
  have HW := Lib.hid (And.intro hW1 (And.intro hn0 hn1))
  have HX := Lib.hid (And.intro hb1 (And.intro hz1 (And.intro x0 (And.intro x1 hA))))
  clear hW1 hn0 hn1 hb1 hz1 x0 x1 hck hcfb hA
  by_cases hk : chkF c l = 0
  · rw [hk] at HC
    obtain ⟨hcf, hops⟩ := chk_parts hk
    have hl2 : l.length ≤ 2000 := by
      apply Classical.byContradiction
      intro h
      have := hk
      unfold chkF at this
      rw [if_neg (fun g => g hcf), if_pos (by omega)] at this
      cases this
    have HK := Lib.hid (And.intro hk (And.intro hcf hops))
    obtain ⟨o1, o2, o3, o4, o5, o6, o7, o8, o9⟩ := hcf
    have hWn : c.W = (c.W.toNat : Int) := by omega
    have hLn : c.L = (c.L.toNat : Int) := by omega
    have hW1 : c.W.toNat ≤ 1000 := by omega
    have hL1 : c.L.toNat ≤ 1000 := by omega
    have HWL := Lib.hid (And.intro hWn (And.intro hLn (And.intro hW1 hL1)))
    clear hk hops hWn hLn hW1 hL1
    obtain ⟨y0, y1, y2, y3⟩ := HCF.out W1 (Below.refl _ _)
    go_enter Try.func17, Try.ntmps17
    go_upto_region 1 with fail
    rw [HW.out.1]
    rw [HW.out.2.1, HW.out.2.2]
    go_upto_region 4 with ((with_reducible refine (HC.out).mono ?_); rintro e w3 ⟨rfl, hb3⟩; have H3 := Lib.hid hb3; clear hb3)
    clear y0 y1 y2 y3
    go_cut [9] (fun v9 wx => ∃ bm bc n9, v9 = .pointer (some ⟨n9, 0, none⟩) ∧ RF bm bc n0 n1 n9 wx.heap.size ∧ RI c bm bc n0 n1 n9 wx.heap.size w (.slice none 0 0) (initA c) wx)
    case first =>
      refine wp_region_held_drew (S := (fun w' => w'.cell? ⟨n0, 0, none⟩ = some (.int .i64 c.L) ∧ w'.cell? ⟨n0, 1, none⟩ = some (.int .i64 c.W) ∧ w'.cell? ⟨n0, 2, none⟩ = some (.int .i64 c.N) ∧ w'.cell? ⟨n0, 3, none⟩ = some (.int .i64 c.H))) (by kernel_rfl) ?_ (fun hHelda => ?_)
      · (try dsimp only); exact HCF.out _ (H3.out.drew)
      obtain ⟨V, hV⟩ : ∃ V, w3.drew = V := ⟨_, rfl⟩
      rw [hV] at hHelda ⊢
      have HV := Lib.hid (show Below W1.heap.size W1 V ∧ True ∧ True ∧ True from by rw [← hV]; exact ⟨H3.out.drew, trivial, trivial, trivial⟩)
      clear hV
      refine wpAnyH_take (i := 0) (oi := _) (v := ?va1) rfl (by kernel_rfl) (by kernel_rfl) (by kernel_rfl) (fun _ _ _ h => h) (Or.inl ⟨by rfl, ?hya1⟩) (by assumption) ?resta1
      case hya1 => (intro w hSw; (try dsimp only at hSw); go_simp; all_goals with_reducible rfl)
      try simp only [Act.put, List.getElem_toArray, List.getElem_cons_zero, List.getElem_cons_succ, List.setIfInBounds_toArray, List.set_cons_zero, List.set_cons_succ]
      refine wpAnyH_take (i := 1) (oi := _) (v := ?va2) rfl (by kernel_rfl) (by kernel_rfl) (by kernel_rfl) (fun _ _ _ h => h) (Or.inl ⟨by rfl, ?hya2⟩) (by assumption) ?resta2
      case hya2 => (intro w hSw; (try dsimp only at hSw); go_simp; all_goals with_reducible rfl)
      try simp only [Act.put, List.getElem_toArray, List.getElem_cons_zero, List.getElem_cons_succ, List.setIfInBounds_toArray, List.set_cons_zero, List.set_cons_succ]
      refine wpAnyH_take (i := 2) (oi := _) (v := ?va3) rfl (by kernel_rfl) (by kernel_rfl) (by kernel_rfl) (fun _ _ _ h => h) (Or.inl ⟨by rfl, ?hya3⟩) (by assumption) ?resta3
      case hya3 => (intro w hSw; (try dsimp only at hSw); go_simp; all_goals with_reducible rfl)
      try simp only [Act.put, List.getElem_toArray, List.getElem_cons_zero, List.getElem_cons_succ, List.setIfInBounds_toArray, List.set_cons_zero, List.set_cons_succ]
      refine wpAnyH_take (i := 4) (oi := _) (v := ?va4) rfl (by kernel_rfl) (by kernel_rfl) (by kernel_rfl) (fun _ _ _ h => h) (Or.inl ⟨by rfl, ?hya4⟩) (by assumption) ?resta4
      case hya4 => (intro w hSw; (try dsimp only at hSw); go_simp; all_goals with_reducible rfl)
      try simp only [Act.put, List.getElem_toArray, List.getElem_cons_zero, List.getElem_cons_succ, List.setIfInBounds_toArray, List.set_cons_zero, List.set_cons_succ]
      refine wpAnyH_take (i := 5) (oi := _) (v := ?va5) rfl (by kernel_rfl) (by kernel_rfl) (by kernel_rfl) (fun _ _ _ h => h) (Or.inl ⟨by rfl, ?hya5⟩) (by assumption) ?resta5
      case hya5 => (intro w hSw; (try dsimp only at hSw); go_simp; all_goals with_reducible rfl)
      try simp only [Act.put, List.getElem_toArray, List.getElem_cons_zero, List.getElem_cons_succ, List.setIfInBounds_toArray, List.set_cons_zero, List.set_cons_succ]
      refine wpAnyH_ready (rs := [3, 6, 8]) (by kernel_rfl) (by simp) ?_
      refine AllReadyH.cons (o := _) rfl (fun K hK => ?_) ?_
      · obtain ⟨bm, Vm, hmk, hrow, hbu, hge⟩ := made_row Try.underlying32 info3 rfl (by decide) c.W.toNat (by first | exact HWL.out.2.2.1 | exact HWL.out.2.2.2) _ (by first | exact HWL.out.1 | exact HWL.out.2.1) V
        go_simp
        clear hmk
        have HVm := Lib.hid (show Below W1.heap.size W1 Vm ∧ (Vm.heap[bm]? = some (.cells (List.replicate c.W.toNat (.int .i64 0)).toArray 3 (0, 0)) ∧ W1.heap.size ≤ bm) ∧ True ∧ True from ⟨HV.out.1.trans (hbu.mono HV.out.1.size), ⟨hrow, Nat.le_trans HV.out.1.size hge⟩, trivial, trivial⟩)
        clear hge hrow hbu
        refine hK.out _ _ ?_ (fun hHelda6 => ?_)
        · (try dsimp only); exact HCF.out _ HVm.out.1
        clear hK K hHelda
        try simp only [Act.put, List.getElem_toArray, List.getElem_cons_zero, List.getElem_cons_succ, List.setIfInBounds_toArray, List.set_cons_zero, List.set_cons_succ]
        refine wpAnyH_ready (rs := [6, 8]) (by kernel_rfl) (by simp) ?_
        refine AllReadyH.cons (o := _) rfl (fun K hK => ?_) ?_
        · obtain ⟨bc, Vmc, hmk, hrow, hbu, hge⟩ := made_row Try.underlying79 info85 rfl (by decide) c.L.toNat (by first | exact HWL.out.2.2.1 | exact HWL.out.2.2.2) _ (by first | exact HWL.out.1 | exact HWL.out.2.1) Vm
          go_simp
          clear hmk
          have HVmc := Lib.hid (show Below W1.heap.size W1 Vmc ∧ (Vmc.heap[bm]? = some (.cells (List.replicate c.W.toNat (.int .i64 0)).toArray 3 (0, 0)) ∧ W1.heap.size ≤ bm) ∧ (Vmc.heap[bc]? = some (.cells (List.replicate c.L.toNat (.slice none 0 0)).toArray 85 (0, 0)) ∧ W1.heap.size ≤ bc) ∧ True from ⟨HVm.out.1.trans (hbu.mono HVm.out.1.size), ⟨(hbu.block _ (blk_lt HVm.out.2.1.1)).trans HVm.out.2.1.1, HVm.out.2.1.2⟩, ⟨hrow, Nat.le_trans HVm.out.1.size hge⟩, trivial⟩)
          have HDVmc := Lib.hid (show bm < bc from Nat.lt_of_lt_of_le (blk_lt HVm.out.2.1.1) hge)
          clear hge hrow hbu
          refine hK.out _ _ ?_ (fun hHelda7 => ?_)
          · (try dsimp only); exact HCF.out _ HVmc.out.1
          clear hK K hHelda6
          try simp only [Act.put, List.getElem_toArray, List.getElem_cons_zero, List.getElem_cons_succ, List.setIfInBounds_toArray, List.set_cons_zero, List.set_cons_succ]
          refine wpAnyH_take (i := 7) (oi := _) (v := ?va8) rfl (by kernel_rfl) (by kernel_rfl) (by kernel_rfl) (fun _ _ _ h => h) (Or.inl ⟨by rfl, ?hya8⟩) (by assumption) ?resta8
          case hya8 => (intro w hSw; (try dsimp only at hSw); go_simp; all_goals with_reducible rfl)
          try simp only [Act.put, List.getElem_toArray, List.getElem_cons_zero, List.getElem_cons_succ, List.setIfInBounds_toArray, List.set_cons_zero, List.set_cons_succ]
          refine wpAnyH_ready (rs := [8]) (by kernel_rfl) (by simp) ?_
          refine AllReadyH.cons (o := _) rfl (fun K hK => ?_) AllReadyH.nil
          go_simp
          obtain ⟨n9, hn9⟩ : ∃ n, Vmc.heap.size = n := ⟨_, rfl⟩
          obtain ⟨Vmcs, hVmcs⟩ : ∃ W, Vmc.alloc (.cells stZ 81) = W := ⟨_, rfl⟩
          rw [hVmcs, hn9]
          have hbu : Below Vmc.heap.size Vmc Vmcs := by rw [← hVmcs]; exact (Below.refl _ _).alloc (Nat.le_refl _) _
          have hrow : Vmcs.heap[n9]? = some (.cells stZ 81 (0, 0)) := by rw [← hVmcs, ← hn9]; exact Go.heap_alloc_new _ _
          have hge : Vmc.heap.size ≤ n9 := Nat.le_of_eq hn9
          have HVmcs := Lib.hid (show Below W1.heap.size W1 Vmcs ∧ (Vmcs.heap[bm]? = some (.cells (List.replicate c.W.toNat (.int .i64 0)).toArray 3 (0, 0)) ∧ W1.heap.size ≤ bm) ∧ (Vmcs.heap[bc]? = some (.cells (List.replicate c.L.toNat (.slice none 0 0)).toArray 85 (0, 0)) ∧ W1.heap.size ≤ bc) ∧ (Vmcs.heap[n9]? = some (.cells stZ 81 (0, 0)) ∧ W1.heap.size ≤ n9) from ⟨HVmc.out.1.trans (hbu.mono HVmc.out.1.size), ⟨(hbu.block _ (blk_lt HVmc.out.2.1.1)).trans HVmc.out.2.1.1, HVmc.out.2.1.2⟩, ⟨(hbu.block _ (blk_lt HVmc.out.2.2.1.1)).trans HVmc.out.2.2.1.1, HVmc.out.2.2.1.2⟩, ⟨hrow, Nat.le_trans HVmc.out.1.size hge⟩⟩)
          have HDVmcs := Lib.hid (show bm < n9 ∧ bc < n9 from ⟨Nat.lt_of_lt_of_le (blk_lt HVmc.out.2.1.1) hge, Nat.lt_of_lt_of_le (blk_lt HVmc.out.2.2.1.1) hge⟩)
          clear hge hrow hbu hVmcs hn9
          refine hK.out _ _ ?_ (fun hHelda9 => ?_)
          · (try dsimp only); exact HCF.out _ HVmcs.out.1
          clear hK K hHelda7
          try simp only [Act.put, List.getElem_toArray, List.getElem_cons_zero, List.getElem_cons_succ, List.setIfInBounds_toArray, List.set_cons_zero, List.set_cons_succ]
          refine wpAnyH_ready (rs := [9]) (by kernel_rfl) (by simp) ?_
          refine AllReadyH.cons (o := _) rfl (fun K hK => ?_) AllReadyH.nil
          refine wp_store_row 81 (.tmp 9) (.tmp 29) rfl n9 (stI c bm bc) rfl rfl 81 stZ HVmcs.out.2.2.2.1 info81s rfl (by rw [stI_eq]; exact stC_one _ _ _ _) ?_
          refine hK.out _ _ ?_ (fun hHelda10 => ?_)
          · (try dsimp only); exact HCF.out _ ((HVmcs.out.1).grown (grownBy_setRow _ _ _) HVmcs.out.1.size (fun k hk => by obtain rfl := Option.some.inj hk; exact HVmcs.out.2.2.2.2))
          clear hK K hHelda9
          try simp only [Act.put, List.getElem_toArray, List.getElem_cons_zero, List.getElem_cons_succ, List.setIfInBounds_toArray, List.set_cons_zero, List.set_cons_succ]
          refine wpAnyH_done (by kernel_rfl) ?_ _
          go_wp2_with fail
          go_meet
          have hz1 := HX.out.2.1
          have hb1 := HX.out.1
          have d2 := HDVmc.out
          have d3 := HDVmcs.out
          have gm := HVmcs.out.2.1.2
          have gc := HVmcs.out.2.2.1.2
          have gs := HVmcs.out.2.2.2.2
          have lm := blk_lt HVmcs.out.2.1.1
          have lc := blk_lt HVmcs.out.2.2.1.1
          have ls := blk_lt HVmcs.out.2.2.2.1
          have ho := HW.out.2.2
          have hg := grownBy_setRow Vmcs n9 (stI c bm bc)
          refine ⟨bm, bc, n9, rfl, ?_, ?_⟩
          · rw [setRow_size]; exact ⟨by omega, by omega, by omega, by omega, by omega, by omega, by omega, by omega, by omega, by omega⟩
          · rw [setRow_size]
            have hx0 := (HVmcs.out.1.block n0 (by omega)).trans HX.out.2.2.1
            have hx1 := (HVmcs.out.1.block n1 (by omega)).trans HX.out.2.2.2.1
            refine ⟨by rw [← stI_eq]; exact setRow_heap _ _ _ _ _ _ HVmcs.out.2.2.2.1, by rw [setRow_other _ _ _ _ (by omega)]; exact hx0, by rw [setRow_other _ _ _ _ (by omega)]; exact hx1, init_RS HK.out.2.1 (by omega) (by rw [setRow_other _ _ _ _ (by omega)]; exact HVmcs.out.2.1.1) (by rw [setRow_other _ _ _ _ (by omega)]; exact HVmcs.out.2.2.1.1), ⟨rfl, Or.inl ⟨rfl, rfl⟩⟩, ?_, by rw [setRow_size]; exact Nat.le_refl _⟩
            exact (hb1.trans (HVmcs.out.1.mono (by omega))).grown hg (by omega) (fun q hq => by obtain rfl := Option.some.inj hq; omega)
        refine AllReadyH.cons (o := _) rfl (fun K hK => ?_) AllReadyH.nil
        go_simp
        obtain ⟨n9, hn9⟩ : ∃ n, Vm.heap.size = n := ⟨_, rfl⟩
        obtain ⟨Vms, hVms⟩ : ∃ W, Vm.alloc (.cells stZ 81) = W := ⟨_, rfl⟩
        rw [hVms, hn9]
        have hbu : Below Vm.heap.size Vm Vms := by rw [← hVms]; exact (Below.refl _ _).alloc (Nat.le_refl _) _
        have hrow : Vms.heap[n9]? = some (.cells stZ 81 (0, 0)) := by rw [← hVms, ← hn9]; exact Go.heap_alloc_new _ _
        have hge : Vm.heap.size ≤ n9 := Nat.le_of_eq hn9
        have HVms := Lib.hid (show Below W1.heap.size W1 Vms ∧ (Vms.heap[bm]? = some (.cells (List.replicate c.W.toNat (.int .i64 0)).toArray 3 (0, 0)) ∧ W1.heap.size ≤ bm) ∧ True ∧ (Vms.heap[n9]? = some (.cells stZ 81 (0, 0)) ∧ W1.heap.size ≤ n9) from ⟨HVm.out.1.trans (hbu.mono HVm.out.1.size), ⟨(hbu.block _ (blk_lt HVm.out.2.1.1)).trans HVm.out.2.1.1, HVm.out.2.1.2⟩, trivial, ⟨hrow, Nat.le_trans HVm.out.1.size hge⟩⟩)
        have HDVms := Lib.hid (show bm < n9 from Nat.lt_of_lt_of_le (blk_lt HVm.out.2.1.1) hge)
        clear hge hrow hbu hVms hn9
        refine hK.out _ _ ?_ (fun hHelda11 => ?_)
        · (try dsimp only); exact HCF.out _ HVms.out.1
        clear hK K hHelda6
        try simp only [Act.put, List.getElem_toArray, List.getElem_cons_zero, List.getElem_cons_succ, List.setIfInBounds_toArray, List.set_cons_zero, List.set_cons_succ]
        refine wpAnyH_ready (rs := [6]) (by kernel_rfl) (by simp) ?_
        refine AllReadyH.cons (o := _) rfl (fun K hK => ?_) AllReadyH.nil
        obtain ⟨bc, Vmsc, hmk, hrow, hbu, hge⟩ := made_row Try.underlying79 info85 rfl (by decide) c.L.toNat (by first | exact HWL.out.2.2.1 | exact HWL.out.2.2.2) _ (by first | exact HWL.out.1 | exact HWL.out.2.1) Vms
        go_simp
        clear hmk
        have HVmsc := Lib.hid (show Below W1.heap.size W1 Vmsc ∧ (Vmsc.heap[bm]? = some (.cells (List.replicate c.W.toNat (.int .i64 0)).toArray 3 (0, 0)) ∧ W1.heap.size ≤ bm) ∧ (Vmsc.heap[bc]? = some (.cells (List.replicate c.L.toNat (.slice none 0 0)).toArray 85 (0, 0)) ∧ W1.heap.size ≤ bc) ∧ (Vmsc.heap[n9]? = some (.cells stZ 81 (0, 0)) ∧ W1.heap.size ≤ n9) from ⟨HVms.out.1.trans (hbu.mono HVms.out.1.size), ⟨(hbu.block _ (blk_lt HVms.out.2.1.1)).trans HVms.out.2.1.1, HVms.out.2.1.2⟩, ⟨hrow, Nat.le_trans HVms.out.1.size hge⟩, ⟨(hbu.block _ (blk_lt HVms.out.2.2.2.1)).trans HVms.out.2.2.2.1, HVms.out.2.2.2.2⟩⟩)
        have HDVmsc := Lib.hid (show bm < bc ∧ n9 < bc from ⟨Nat.lt_of_lt_of_le (blk_lt HVms.out.2.1.1) hge, Nat.lt_of_lt_of_le (blk_lt HVms.out.2.2.2.1) hge⟩)
        clear hge hrow hbu
        refine hK.out _ _ ?_ (fun hHelda12 => ?_)
        · (try dsimp only); exact HCF.out _ HVmsc.out.1
        clear hK K hHelda11
        try simp only [Act.put, List.getElem_toArray, List.getElem_cons_zero, List.getElem_cons_succ, List.setIfInBounds_toArray, List.set_cons_zero, List.set_cons_succ]
        refine wpAnyH_take (i := 7) (oi := _) (v := ?va13) rfl (by kernel_rfl) (by kernel_rfl) (by kernel_rfl) (fun _ _ _ h => h) (Or.inl ⟨by rfl, ?hya13⟩) (by assumption) ?resta13
        case hya13 => (intro w hSw; (try dsimp only at hSw); go_simp; all_goals with_reducible rfl)
        try simp only [Act.put, List.getElem_toArray, List.getElem_cons_zero, List.getElem_cons_succ, List.setIfInBounds_toArray, List.set_cons_zero, List.set_cons_succ]
        refine wpAnyH_ready (rs := [9]) (by kernel_rfl) (by simp) ?_
        refine AllReadyH.cons (o := _) rfl (fun K hK => ?_) AllReadyH.nil
        refine wp_store_row 81 (.tmp 9) (.tmp 29) rfl n9 (stI c bm bc) rfl rfl 81 stZ HVmsc.out.2.2.2.1 info81s rfl (by rw [stI_eq]; exact stC_one _ _ _ _) ?_
        refine hK.out _ _ ?_ (fun hHelda14 => ?_)
        · (try dsimp only); exact HCF.out _ ((HVmsc.out.1).grown (grownBy_setRow _ _ _) HVmsc.out.1.size (fun k hk => by obtain rfl := Option.some.inj hk; exact HVmsc.out.2.2.2.2))
        clear hK K hHelda12
        try simp only [Act.put, List.getElem_toArray, List.getElem_cons_zero, List.getElem_cons_succ, List.setIfInBounds_toArray, List.set_cons_zero, List.set_cons_succ]
        refine wpAnyH_done (by kernel_rfl) ?_ _
        go_wp2_with fail
        go_meet
        have hz1 := HX.out.2.1
        have hb1 := HX.out.1
        have d2 := HDVms.out
        have d3 := HDVmsc.out
        have gm := HVmsc.out.2.1.2
        have gc := HVmsc.out.2.2.1.2
        have gs := HVmsc.out.2.2.2.2
        have lm := blk_lt HVmsc.out.2.1.1
        have lc := blk_lt HVmsc.out.2.2.1.1
        have ls := blk_lt HVmsc.out.2.2.2.1
        have ho := HW.out.2.2
        have hg := grownBy_setRow Vmsc n9 (stI c bm bc)
        refine ⟨bm, bc, n9, rfl, ?_, ?_⟩
        · rw [setRow_size]; exact ⟨by omega, by omega, by omega, by omega, by omega, by omega, by omega, by omega, by omega, by omega⟩
        · rw [setRow_size]
          have hx0 := (HVmsc.out.1.block n0 (by omega)).trans HX.out.2.2.1
          have hx1 := (HVmsc.out.1.block n1 (by omega)).trans HX.out.2.2.2.1
          refine ⟨by rw [← stI_eq]; exact setRow_heap _ _ _ _ _ _ HVmsc.out.2.2.2.1, by rw [setRow_other _ _ _ _ (by omega)]; exact hx0, by rw [setRow_other _ _ _ _ (by omega)]; exact hx1, init_RS HK.out.2.1 (by omega) (by rw [setRow_other _ _ _ _ (by omega)]; exact HVmsc.out.2.1.1) (by rw [setRow_other _ _ _ _ (by omega)]; exact HVmsc.out.2.2.1.1), ⟨rfl, Or.inl ⟨rfl, rfl⟩⟩, ?_, by rw [setRow_size]; exact Nat.le_refl _⟩
          exact (hb1.trans (HVmsc.out.1.mono (by omega))).grown hg (by omega) (fun q hq => by obtain rfl := Option.some.inj hq; omega)
      refine AllReadyH.cons (o := _) rfl (fun K hK => ?_) ?_
      · obtain ⟨bc, Vc, hmk, hrow, hbu, hge⟩ := made_row Try.underlying79 info85 rfl (by decide) c.L.toNat (by first | exact HWL.out.2.2.1 | exact HWL.out.2.2.2) _ (by first | exact HWL.out.1 | exact HWL.out.2.1) V
        go_simp
        clear hmk
        have HVc := Lib.hid (show Below W1.heap.size W1 Vc ∧ True ∧ (Vc.heap[bc]? = some (.cells (List.replicate c.L.toNat (.slice none 0 0)).toArray 85 (0, 0)) ∧ W1.heap.size ≤ bc) ∧ True from ⟨HV.out.1.trans (hbu.mono HV.out.1.size), trivial, ⟨hrow, Nat.le_trans HV.out.1.size hge⟩, trivial⟩)
        clear hge hrow hbu
        refine hK.out _ _ ?_ (fun hHelda15 => ?_)
        · (try dsimp only); exact HCF.out _ HVc.out.1
        clear hK K hHelda
        try simp only [Act.put, List.getElem_toArray, List.getElem_cons_zero, List.getElem_cons_succ, List.setIfInBounds_toArray, List.set_cons_zero, List.set_cons_succ]
        refine wpAnyH_ready (rs := [3, 8]) (by kernel_rfl) (by simp) ?_
        refine AllReadyH.cons (o := _) rfl (fun K hK => ?_) ?_
        · obtain ⟨bm, Vcm, hmk, hrow, hbu, hge⟩ := made_row Try.underlying32 info3 rfl (by decide) c.W.toNat (by first | exact HWL.out.2.2.1 | exact HWL.out.2.2.2) _ (by first | exact HWL.out.1 | exact HWL.out.2.1) Vc
          go_simp
          clear hmk
          have HVcm := Lib.hid (show Below W1.heap.size W1 Vcm ∧ (Vcm.heap[bm]? = some (.cells (List.replicate c.W.toNat (.int .i64 0)).toArray 3 (0, 0)) ∧ W1.heap.size ≤ bm) ∧ (Vcm.heap[bc]? = some (.cells (List.replicate c.L.toNat (.slice none 0 0)).toArray 85 (0, 0)) ∧ W1.heap.size ≤ bc) ∧ True from ⟨HVc.out.1.trans (hbu.mono HVc.out.1.size), ⟨hrow, Nat.le_trans HVc.out.1.size hge⟩, ⟨(hbu.block _ (blk_lt HVc.out.2.2.1.1)).trans HVc.out.2.2.1.1, HVc.out.2.2.1.2⟩, trivial⟩)
          have HDVcm := Lib.hid (show bc < bm from Nat.lt_of_lt_of_le (blk_lt HVc.out.2.2.1.1) hge)
          clear hge hrow hbu
          refine hK.out _ _ ?_ (fun hHelda16 => ?_)
          · (try dsimp only); exact HCF.out _ HVcm.out.1
          clear hK K hHelda15
          try simp only [Act.put, List.getElem_toArray, List.getElem_cons_zero, List.getElem_cons_succ, List.setIfInBounds_toArray, List.set_cons_zero, List.set_cons_succ]
          refine wpAnyH_take (i := 7) (oi := _) (v := ?va17) rfl (by kernel_rfl) (by kernel_rfl) (by kernel_rfl) (fun _ _ _ h => h) (Or.inl ⟨by rfl, ?hya17⟩) (by assumption) ?resta17
          case hya17 => (intro w hSw; (try dsimp only at hSw); go_simp; all_goals with_reducible rfl)
          try simp only [Act.put, List.getElem_toArray, List.getElem_cons_zero, List.getElem_cons_succ, List.setIfInBounds_toArray, List.set_cons_zero, List.set_cons_succ]
          refine wpAnyH_ready (rs := [8]) (by kernel_rfl) (by simp) ?_
          refine AllReadyH.cons (o := _) rfl (fun K hK => ?_) AllReadyH.nil
          go_simp
          obtain ⟨n9, hn9⟩ : ∃ n, Vcm.heap.size = n := ⟨_, rfl⟩
          obtain ⟨Vcms, hVcms⟩ : ∃ W, Vcm.alloc (.cells stZ 81) = W := ⟨_, rfl⟩
          rw [hVcms, hn9]
          have hbu : Below Vcm.heap.size Vcm Vcms := by rw [← hVcms]; exact (Below.refl _ _).alloc (Nat.le_refl _) _
          have hrow : Vcms.heap[n9]? = some (.cells stZ 81 (0, 0)) := by rw [← hVcms, ← hn9]; exact Go.heap_alloc_new _ _
          have hge : Vcm.heap.size ≤ n9 := Nat.le_of_eq hn9
          have HVcms := Lib.hid (show Below W1.heap.size W1 Vcms ∧ (Vcms.heap[bm]? = some (.cells (List.replicate c.W.toNat (.int .i64 0)).toArray 3 (0, 0)) ∧ W1.heap.size ≤ bm) ∧ (Vcms.heap[bc]? = some (.cells (List.replicate c.L.toNat (.slice none 0 0)).toArray 85 (0, 0)) ∧ W1.heap.size ≤ bc) ∧ (Vcms.heap[n9]? = some (.cells stZ 81 (0, 0)) ∧ W1.heap.size ≤ n9) from ⟨HVcm.out.1.trans (hbu.mono HVcm.out.1.size), ⟨(hbu.block _ (blk_lt HVcm.out.2.1.1)).trans HVcm.out.2.1.1, HVcm.out.2.1.2⟩, ⟨(hbu.block _ (blk_lt HVcm.out.2.2.1.1)).trans HVcm.out.2.2.1.1, HVcm.out.2.2.1.2⟩, ⟨hrow, Nat.le_trans HVcm.out.1.size hge⟩⟩)
          have HDVcms := Lib.hid (show bc < n9 ∧ bm < n9 from ⟨Nat.lt_of_lt_of_le (blk_lt HVcm.out.2.2.1.1) hge, Nat.lt_of_lt_of_le (blk_lt HVcm.out.2.1.1) hge⟩)
          clear hge hrow hbu hVcms hn9
          refine hK.out _ _ ?_ (fun hHelda18 => ?_)
          · (try dsimp only); exact HCF.out _ HVcms.out.1
          clear hK K hHelda16
          try simp only [Act.put, List.getElem_toArray, List.getElem_cons_zero, List.getElem_cons_succ, List.setIfInBounds_toArray, List.set_cons_zero, List.set_cons_succ]
          refine wpAnyH_ready (rs := [9]) (by kernel_rfl) (by simp) ?_
          refine AllReadyH.cons (o := _) rfl (fun K hK => ?_) AllReadyH.nil
          refine wp_store_row 81 (.tmp 9) (.tmp 29) rfl n9 (stI c bm bc) rfl rfl 81 stZ HVcms.out.2.2.2.1 info81s rfl (by rw [stI_eq]; exact stC_one _ _ _ _) ?_
          refine hK.out _ _ ?_ (fun hHelda19 => ?_)
          · (try dsimp only); exact HCF.out _ ((HVcms.out.1).grown (grownBy_setRow _ _ _) HVcms.out.1.size (fun k hk => by obtain rfl := Option.some.inj hk; exact HVcms.out.2.2.2.2))
          clear hK K hHelda18
          try simp only [Act.put, List.getElem_toArray, List.getElem_cons_zero, List.getElem_cons_succ, List.setIfInBounds_toArray, List.set_cons_zero, List.set_cons_succ]
          refine wpAnyH_done (by kernel_rfl) ?_ _
          go_wp2_with fail
          go_meet
          have hz1 := HX.out.2.1
          have hb1 := HX.out.1
          have d2 := HDVcm.out
          have d3 := HDVcms.out
          have gm := HVcms.out.2.1.2
          have gc := HVcms.out.2.2.1.2
          have gs := HVcms.out.2.2.2.2
          have lm := blk_lt HVcms.out.2.1.1
          have lc := blk_lt HVcms.out.2.2.1.1
          have ls := blk_lt HVcms.out.2.2.2.1
          have ho := HW.out.2.2
          have hg := grownBy_setRow Vcms n9 (stI c bm bc)
          refine ⟨bm, bc, n9, rfl, ?_, ?_⟩
          · rw [setRow_size]; exact ⟨by omega, by omega, by omega, by omega, by omega, by omega, by omega, by omega, by omega, by omega⟩
          · rw [setRow_size]
            have hx0 := (HVcms.out.1.block n0 (by omega)).trans HX.out.2.2.1
            have hx1 := (HVcms.out.1.block n1 (by omega)).trans HX.out.2.2.2.1
            refine ⟨by rw [← stI_eq]; exact setRow_heap _ _ _ _ _ _ HVcms.out.2.2.2.1, by rw [setRow_other _ _ _ _ (by omega)]; exact hx0, by rw [setRow_other _ _ _ _ (by omega)]; exact hx1, init_RS HK.out.2.1 (by omega) (by rw [setRow_other _ _ _ _ (by omega)]; exact HVcms.out.2.1.1) (by rw [setRow_other _ _ _ _ (by omega)]; exact HVcms.out.2.2.1.1), ⟨rfl, Or.inl ⟨rfl, rfl⟩⟩, ?_, by rw [setRow_size]; exact Nat.le_refl _⟩
            exact (hb1.trans (HVcms.out.1.mono (by omega))).grown hg (by omega) (fun q hq => by obtain rfl := Option.some.inj hq; omega)
        refine AllReadyH.cons (o := _) rfl (fun K hK => ?_) AllReadyH.nil
        go_simp
        obtain ⟨n9, hn9⟩ : ∃ n, Vc.heap.size = n := ⟨_, rfl⟩
        obtain ⟨Vcs, hVcs⟩ : ∃ W, Vc.alloc (.cells stZ 81) = W := ⟨_, rfl⟩
        rw [hVcs, hn9]
        have hbu : Below Vc.heap.size Vc Vcs := by rw [← hVcs]; exact (Below.refl _ _).alloc (Nat.le_refl _) _
        have hrow : Vcs.heap[n9]? = some (.cells stZ 81 (0, 0)) := by rw [← hVcs, ← hn9]; exact Go.heap_alloc_new _ _
        have hge : Vc.heap.size ≤ n9 := Nat.le_of_eq hn9
        have HVcs := Lib.hid (show Below W1.heap.size W1 Vcs ∧ True ∧ (Vcs.heap[bc]? = some (.cells (List.replicate c.L.toNat (.slice none 0 0)).toArray 85 (0, 0)) ∧ W1.heap.size ≤ bc) ∧ (Vcs.heap[n9]? = some (.cells stZ 81 (0, 0)) ∧ W1.heap.size ≤ n9) from ⟨HVc.out.1.trans (hbu.mono HVc.out.1.size), trivial, ⟨(hbu.block _ (blk_lt HVc.out.2.2.1.1)).trans HVc.out.2.2.1.1, HVc.out.2.2.1.2⟩, ⟨hrow, Nat.le_trans HVc.out.1.size hge⟩⟩)
        have HDVcs := Lib.hid (show bc < n9 from Nat.lt_of_lt_of_le (blk_lt HVc.out.2.2.1.1) hge)
        clear hge hrow hbu hVcs hn9
        refine hK.out _ _ ?_ (fun hHelda20 => ?_)
        · (try dsimp only); exact HCF.out _ HVcs.out.1
        clear hK K hHelda15
        try simp only [Act.put, List.getElem_toArray, List.getElem_cons_zero, List.getElem_cons_succ, List.setIfInBounds_toArray, List.set_cons_zero, List.set_cons_succ]
        refine wpAnyH_ready (rs := [3]) (by kernel_rfl) (by simp) ?_
        refine AllReadyH.cons (o := _) rfl (fun K hK => ?_) AllReadyH.nil
        obtain ⟨bm, Vcsm, hmk, hrow, hbu, hge⟩ := made_row Try.underlying32 info3 rfl (by decide) c.W.toNat (by first | exact HWL.out.2.2.1 | exact HWL.out.2.2.2) _ (by first | exact HWL.out.1 | exact HWL.out.2.1) Vcs
        go_simp
        clear hmk
        have HVcsm := Lib.hid (show Below W1.heap.size W1 Vcsm ∧ (Vcsm.heap[bm]? = some (.cells (List.replicate c.W.toNat (.int .i64 0)).toArray 3 (0, 0)) ∧ W1.heap.size ≤ bm) ∧ (Vcsm.heap[bc]? = some (.cells (List.replicate c.L.toNat (.slice none 0 0)).toArray 85 (0, 0)) ∧ W1.heap.size ≤ bc) ∧ (Vcsm.heap[n9]? = some (.cells stZ 81 (0, 0)) ∧ W1.heap.size ≤ n9) from ⟨HVcs.out.1.trans (hbu.mono HVcs.out.1.size), ⟨hrow, Nat.le_trans HVcs.out.1.size hge⟩, ⟨(hbu.block _ (blk_lt HVcs.out.2.2.1.1)).trans HVcs.out.2.2.1.1, HVcs.out.2.2.1.2⟩, ⟨(hbu.block _ (blk_lt HVcs.out.2.2.2.1)).trans HVcs.out.2.2.2.1, HVcs.out.2.2.2.2⟩⟩)
        have HDVcsm := Lib.hid (show bc < bm ∧ n9 < bm from ⟨Nat.lt_of_lt_of_le (blk_lt HVcs.out.2.2.1.1) hge, Nat.lt_of_lt_of_le (blk_lt HVcs.out.2.2.2.1) hge⟩)
        clear hge hrow hbu
        refine hK.out _ _ ?_ (fun hHelda21 => ?_)
        · (try dsimp only); exact HCF.out _ HVcsm.out.1
        clear hK K hHelda20
        try simp only [Act.put, List.getElem_toArray, List.getElem_cons_zero, List.getElem_cons_succ, List.setIfInBounds_toArray, List.set_cons_zero, List.set_cons_succ]
        refine wpAnyH_take (i := 7) (oi := _) (v := ?va22) rfl (by kernel_rfl) (by kernel_rfl) (by kernel_rfl) (fun _ _ _ h => h) (Or.inl ⟨by rfl, ?hya22⟩) (by assumption) ?resta22
        case hya22 => (intro w hSw; (try dsimp only at hSw); go_simp; all_goals with_reducible rfl)
        try simp only [Act.put, List.getElem_toArray, List.getElem_cons_zero, List.getElem_cons_succ, List.setIfInBounds_toArray, List.set_cons_zero, List.set_cons_succ]
        refine wpAnyH_ready (rs := [9]) (by kernel_rfl) (by simp) ?_
        refine AllReadyH.cons (o := _) rfl (fun K hK => ?_) AllReadyH.nil
        refine wp_store_row 81 (.tmp 9) (.tmp 29) rfl n9 (stI c bm bc) rfl rfl 81 stZ HVcsm.out.2.2.2.1 info81s rfl (by rw [stI_eq]; exact stC_one _ _ _ _) ?_
        refine hK.out _ _ ?_ (fun hHelda23 => ?_)
        · (try dsimp only); exact HCF.out _ ((HVcsm.out.1).grown (grownBy_setRow _ _ _) HVcsm.out.1.size (fun k hk => by obtain rfl := Option.some.inj hk; exact HVcsm.out.2.2.2.2))
        clear hK K hHelda21
        try simp only [Act.put, List.getElem_toArray, List.getElem_cons_zero, List.getElem_cons_succ, List.setIfInBounds_toArray, List.set_cons_zero, List.set_cons_succ]
        refine wpAnyH_done (by kernel_rfl) ?_ _
        go_wp2_with fail
        go_meet
        have hz1 := HX.out.2.1
        have hb1 := HX.out.1
        have d2 := HDVcs.out
        have d3 := HDVcsm.out
        have gm := HVcsm.out.2.1.2
        have gc := HVcsm.out.2.2.1.2
        have gs := HVcsm.out.2.2.2.2
        have lm := blk_lt HVcsm.out.2.1.1
        have lc := blk_lt HVcsm.out.2.2.1.1
        have ls := blk_lt HVcsm.out.2.2.2.1
        have ho := HW.out.2.2
        have hg := grownBy_setRow Vcsm n9 (stI c bm bc)
        refine ⟨bm, bc, n9, rfl, ?_, ?_⟩
        · rw [setRow_size]; exact ⟨by omega, by omega, by omega, by omega, by omega, by omega, by omega, by omega, by omega, by omega⟩
        · rw [setRow_size]
          have hx0 := (HVcsm.out.1.block n0 (by omega)).trans HX.out.2.2.1
          have hx1 := (HVcsm.out.1.block n1 (by omega)).trans HX.out.2.2.2.1
          refine ⟨by rw [← stI_eq]; exact setRow_heap _ _ _ _ _ _ HVcsm.out.2.2.2.1, by rw [setRow_other _ _ _ _ (by omega)]; exact hx0, by rw [setRow_other _ _ _ _ (by omega)]; exact hx1, init_RS HK.out.2.1 (by omega) (by rw [setRow_other _ _ _ _ (by omega)]; exact HVcsm.out.2.1.1) (by rw [setRow_other _ _ _ _ (by omega)]; exact HVcsm.out.2.2.1.1), ⟨rfl, Or.inl ⟨rfl, rfl⟩⟩, ?_, by rw [setRow_size]; exact Nat.le_refl _⟩
          exact (hb1.trans (HVcsm.out.1.mono (by omega))).grown hg (by omega) (fun q hq => by obtain rfl := Option.some.inj hq; omega)
      refine AllReadyH.cons (o := _) rfl (fun K hK => ?_) AllReadyH.nil
      go_simp
      obtain ⟨n9, hn9⟩ : ∃ n, V.heap.size = n := ⟨_, rfl⟩
      obtain ⟨Vs, hVs⟩ : ∃ W, V.alloc (.cells stZ 81) = W := ⟨_, rfl⟩
      rw [hVs, hn9]
      have hbu : Below V.heap.size V Vs := by rw [← hVs]; exact (Below.refl _ _).alloc (Nat.le_refl _) _
      have hrow : Vs.heap[n9]? = some (.cells stZ 81 (0, 0)) := by rw [← hVs, ← hn9]; exact Go.heap_alloc_new _ _
      have hge : V.heap.size ≤ n9 := Nat.le_of_eq hn9
      have HVs := Lib.hid (show Below W1.heap.size W1 Vs ∧ True ∧ True ∧ (Vs.heap[n9]? = some (.cells stZ 81 (0, 0)) ∧ W1.heap.size ≤ n9) from ⟨HV.out.1.trans (hbu.mono HV.out.1.size), trivial, trivial, ⟨hrow, Nat.le_trans HV.out.1.size hge⟩⟩)
      clear hge hrow hbu hVs hn9
      refine hK.out _ _ ?_ (fun hHelda24 => ?_)
      · (try dsimp only); exact HCF.out _ HVs.out.1
      clear hK K hHelda
      try simp only [Act.put, List.getElem_toArray, List.getElem_cons_zero, List.getElem_cons_succ, List.setIfInBounds_toArray, List.set_cons_zero, List.set_cons_succ]
      refine wpAnyH_ready (rs := [3, 6]) (by kernel_rfl) (by simp) ?_
      refine AllReadyH.cons (o := _) rfl (fun K hK => ?_) ?_
      · obtain ⟨bm, Vsm, hmk, hrow, hbu, hge⟩ := made_row Try.underlying32 info3 rfl (by decide) c.W.toNat (by first | exact HWL.out.2.2.1 | exact HWL.out.2.2.2) _ (by first | exact HWL.out.1 | exact HWL.out.2.1) Vs
        go_simp
        clear hmk
        have HVsm := Lib.hid (show Below W1.heap.size W1 Vsm ∧ (Vsm.heap[bm]? = some (.cells (List.replicate c.W.toNat (.int .i64 0)).toArray 3 (0, 0)) ∧ W1.heap.size ≤ bm) ∧ True ∧ (Vsm.heap[n9]? = some (.cells stZ 81 (0, 0)) ∧ W1.heap.size ≤ n9) from ⟨HVs.out.1.trans (hbu.mono HVs.out.1.size), ⟨hrow, Nat.le_trans HVs.out.1.size hge⟩, trivial, ⟨(hbu.block _ (blk_lt HVs.out.2.2.2.1)).trans HVs.out.2.2.2.1, HVs.out.2.2.2.2⟩⟩)
        have HDVsm := Lib.hid (show n9 < bm from Nat.lt_of_lt_of_le (blk_lt HVs.out.2.2.2.1) hge)
        clear hge hrow hbu
        refine hK.out _ _ ?_ (fun hHelda25 => ?_)
        · (try dsimp only); exact HCF.out _ HVsm.out.1
        clear hK K hHelda24
        try simp only [Act.put, List.getElem_toArray, List.getElem_cons_zero, List.getElem_cons_succ, List.setIfInBounds_toArray, List.set_cons_zero, List.set_cons_succ]
        refine wpAnyH_ready (rs := [6]) (by kernel_rfl) (by simp) ?_
        refine AllReadyH.cons (o := _) rfl (fun K hK => ?_) AllReadyH.nil
        obtain ⟨bc, Vsmc, hmk, hrow, hbu, hge⟩ := made_row Try.underlying79 info85 rfl (by decide) c.L.toNat (by first | exact HWL.out.2.2.1 | exact HWL.out.2.2.2) _ (by first | exact HWL.out.1 | exact HWL.out.2.1) Vsm
        go_simp
        clear hmk
        have HVsmc := Lib.hid (show Below W1.heap.size W1 Vsmc ∧ (Vsmc.heap[bm]? = some (.cells (List.replicate c.W.toNat (.int .i64 0)).toArray 3 (0, 0)) ∧ W1.heap.size ≤ bm) ∧ (Vsmc.heap[bc]? = some (.cells (List.replicate c.L.toNat (.slice none 0 0)).toArray 85 (0, 0)) ∧ W1.heap.size ≤ bc) ∧ (Vsmc.heap[n9]? = some (.cells stZ 81 (0, 0)) ∧ W1.heap.size ≤ n9) from ⟨HVsm.out.1.trans (hbu.mono HVsm.out.1.size), ⟨(hbu.block _ (blk_lt HVsm.out.2.1.1)).trans HVsm.out.2.1.1, HVsm.out.2.1.2⟩, ⟨hrow, Nat.le_trans HVsm.out.1.size hge⟩, ⟨(hbu.block _ (blk_lt HVsm.out.2.2.2.1)).trans HVsm.out.2.2.2.1, HVsm.out.2.2.2.2⟩⟩)
        have HDVsmc := Lib.hid (show n9 < bc ∧ bm < bc from ⟨Nat.lt_of_lt_of_le (blk_lt HVsm.out.2.2.2.1) hge, Nat.lt_of_lt_of_le (blk_lt HVsm.out.2.1.1) hge⟩)
        clear hge hrow hbu
        refine hK.out _ _ ?_ (fun hHelda26 => ?_)
        · (try dsimp only); exact HCF.out _ HVsmc.out.1
        clear hK K hHelda25
        try simp only [Act.put, List.getElem_toArray, List.getElem_cons_zero, List.getElem_cons_succ, List.setIfInBounds_toArray, List.set_cons_zero, List.set_cons_succ]
        refine wpAnyH_take (i := 7) (oi := _) (v := ?va27) rfl (by kernel_rfl) (by kernel_rfl) (by kernel_rfl) (fun _ _ _ h => h) (Or.inl ⟨by rfl, ?hya27⟩) (by assumption) ?resta27
        case hya27 => (intro w hSw; (try dsimp only at hSw); go_simp; all_goals with_reducible rfl)
        try simp only [Act.put, List.getElem_toArray, List.getElem_cons_zero, List.getElem_cons_succ, List.setIfInBounds_toArray, List.set_cons_zero, List.set_cons_succ]
        refine wpAnyH_ready (rs := [9]) (by kernel_rfl) (by simp) ?_
        refine AllReadyH.cons (o := _) rfl (fun K hK => ?_) AllReadyH.nil
        refine wp_store_row 81 (.tmp 9) (.tmp 29) rfl n9 (stI c bm bc) rfl rfl 81 stZ HVsmc.out.2.2.2.1 info81s rfl (by rw [stI_eq]; exact stC_one _ _ _ _) ?_
        refine hK.out _ _ ?_ (fun hHelda28 => ?_)
        · (try dsimp only); exact HCF.out _ ((HVsmc.out.1).grown (grownBy_setRow _ _ _) HVsmc.out.1.size (fun k hk => by obtain rfl := Option.some.inj hk; exact HVsmc.out.2.2.2.2))
        clear hK K hHelda26
        try simp only [Act.put, List.getElem_toArray, List.getElem_cons_zero, List.getElem_cons_succ, List.setIfInBounds_toArray, List.set_cons_zero, List.set_cons_succ]
        refine wpAnyH_done (by kernel_rfl) ?_ _
        go_wp2_with fail
        go_meet
        have hz1 := HX.out.2.1
        have hb1 := HX.out.1
        have d2 := HDVsm.out
        have d3 := HDVsmc.out
        have gm := HVsmc.out.2.1.2
        have gc := HVsmc.out.2.2.1.2
        have gs := HVsmc.out.2.2.2.2
        have lm := blk_lt HVsmc.out.2.1.1
        have lc := blk_lt HVsmc.out.2.2.1.1
        have ls := blk_lt HVsmc.out.2.2.2.1
        have ho := HW.out.2.2
        have hg := grownBy_setRow Vsmc n9 (stI c bm bc)
        refine ⟨bm, bc, n9, rfl, ?_, ?_⟩
        · rw [setRow_size]; exact ⟨by omega, by omega, by omega, by omega, by omega, by omega, by omega, by omega, by omega, by omega⟩
        · rw [setRow_size]
          have hx0 := (HVsmc.out.1.block n0 (by omega)).trans HX.out.2.2.1
          have hx1 := (HVsmc.out.1.block n1 (by omega)).trans HX.out.2.2.2.1
          refine ⟨by rw [← stI_eq]; exact setRow_heap _ _ _ _ _ _ HVsmc.out.2.2.2.1, by rw [setRow_other _ _ _ _ (by omega)]; exact hx0, by rw [setRow_other _ _ _ _ (by omega)]; exact hx1, init_RS HK.out.2.1 (by omega) (by rw [setRow_other _ _ _ _ (by omega)]; exact HVsmc.out.2.1.1) (by rw [setRow_other _ _ _ _ (by omega)]; exact HVsmc.out.2.2.1.1), ⟨rfl, Or.inl ⟨rfl, rfl⟩⟩, ?_, by rw [setRow_size]; exact Nat.le_refl _⟩
          exact (hb1.trans (HVsmc.out.1.mono (by omega))).grown hg (by omega) (fun q hq => by obtain rfl := Option.some.inj hq; omega)
      refine AllReadyH.cons (o := _) rfl (fun K hK => ?_) AllReadyH.nil
      obtain ⟨bc, Vsc, hmk, hrow, hbu, hge⟩ := made_row Try.underlying79 info85 rfl (by decide) c.L.toNat (by first | exact HWL.out.2.2.1 | exact HWL.out.2.2.2) _ (by first | exact HWL.out.1 | exact HWL.out.2.1) Vs
      go_simp
      clear hmk
      have HVsc := Lib.hid (show Below W1.heap.size W1 Vsc ∧ True ∧ (Vsc.heap[bc]? = some (.cells (List.replicate c.L.toNat (.slice none 0 0)).toArray 85 (0, 0)) ∧ W1.heap.size ≤ bc) ∧ (Vsc.heap[n9]? = some (.cells stZ 81 (0, 0)) ∧ W1.heap.size ≤ n9) from ⟨HVs.out.1.trans (hbu.mono HVs.out.1.size), trivial, ⟨hrow, Nat.le_trans HVs.out.1.size hge⟩, ⟨(hbu.block _ (blk_lt HVs.out.2.2.2.1)).trans HVs.out.2.2.2.1, HVs.out.2.2.2.2⟩⟩)
      have HDVsc := Lib.hid (show n9 < bc from Nat.lt_of_lt_of_le (blk_lt HVs.out.2.2.2.1) hge)
      clear hge hrow hbu
      refine hK.out _ _ ?_ (fun hHelda29 => ?_)
      · (try dsimp only); exact HCF.out _ HVsc.out.1
      clear hK K hHelda24
      try simp only [Act.put, List.getElem_toArray, List.getElem_cons_zero, List.getElem_cons_succ, List.setIfInBounds_toArray, List.set_cons_zero, List.set_cons_succ]
      refine wpAnyH_ready (rs := [3]) (by kernel_rfl) (by simp) ?_
      refine AllReadyH.cons (o := _) rfl (fun K hK => ?_) AllReadyH.nil
      obtain ⟨bm, Vscm, hmk, hrow, hbu, hge⟩ := made_row Try.underlying32 info3 rfl (by decide) c.W.toNat (by first | exact HWL.out.2.2.1 | exact HWL.out.2.2.2) _ (by first | exact HWL.out.1 | exact HWL.out.2.1) Vsc
      go_simp
      clear hmk
      have HVscm := Lib.hid (show Below W1.heap.size W1 Vscm ∧ (Vscm.heap[bm]? = some (.cells (List.replicate c.W.toNat (.int .i64 0)).toArray 3 (0, 0)) ∧ W1.heap.size ≤ bm) ∧ (Vscm.heap[bc]? = some (.cells (List.replicate c.L.toNat (.slice none 0 0)).toArray 85 (0, 0)) ∧ W1.heap.size ≤ bc) ∧ (Vscm.heap[n9]? = some (.cells stZ 81 (0, 0)) ∧ W1.heap.size ≤ n9) from ⟨HVsc.out.1.trans (hbu.mono HVsc.out.1.size), ⟨hrow, Nat.le_trans HVsc.out.1.size hge⟩, ⟨(hbu.block _ (blk_lt HVsc.out.2.2.1.1)).trans HVsc.out.2.2.1.1, HVsc.out.2.2.1.2⟩, ⟨(hbu.block _ (blk_lt HVsc.out.2.2.2.1)).trans HVsc.out.2.2.2.1, HVsc.out.2.2.2.2⟩⟩)
      have HDVscm := Lib.hid (show n9 < bm ∧ bc < bm from ⟨Nat.lt_of_lt_of_le (blk_lt HVsc.out.2.2.2.1) hge, Nat.lt_of_lt_of_le (blk_lt HVsc.out.2.2.1.1) hge⟩)
      clear hge hrow hbu
      refine hK.out _ _ ?_ (fun hHelda30 => ?_)
      · (try dsimp only); exact HCF.out _ HVscm.out.1
      clear hK K hHelda29
      try simp only [Act.put, List.getElem_toArray, List.getElem_cons_zero, List.getElem_cons_succ, List.setIfInBounds_toArray, List.set_cons_zero, List.set_cons_succ]
      refine wpAnyH_take (i := 7) (oi := _) (v := ?va31) rfl (by kernel_rfl) (by kernel_rfl) (by kernel_rfl) (fun _ _ _ h => h) (Or.inl ⟨by rfl, ?hya31⟩) (by assumption) ?resta31
      case hya31 => (intro w hSw; (try dsimp only at hSw); go_simp; all_goals with_reducible rfl)
      try simp only [Act.put, List.getElem_toArray, List.getElem_cons_zero, List.getElem_cons_succ, List.setIfInBounds_toArray, List.set_cons_zero, List.set_cons_succ]
      refine wpAnyH_ready (rs := [9]) (by kernel_rfl) (by simp) ?_
      refine AllReadyH.cons (o := _) rfl (fun K hK => ?_) AllReadyH.nil
      refine wp_store_row 81 (.tmp 9) (.tmp 29) rfl n9 (stI c bm bc) rfl rfl 81 stZ HVscm.out.2.2.2.1 info81s rfl (by rw [stI_eq]; exact stC_one _ _ _ _) ?_
      refine hK.out _ _ ?_ (fun hHelda32 => ?_)
      · (try dsimp only); exact HCF.out _ ((HVscm.out.1).grown (grownBy_setRow _ _ _) HVscm.out.1.size (fun k hk => by obtain rfl := Option.some.inj hk; exact HVscm.out.2.2.2.2))
      clear hK K hHelda30
      try simp only [Act.put, List.getElem_toArray, List.getElem_cons_zero, List.getElem_cons_succ, List.setIfInBounds_toArray, List.set_cons_zero, List.set_cons_succ]
      refine wpAnyH_done (by kernel_rfl) ?_ _
      go_wp2_with fail
      go_meet
      have hz1 := HX.out.2.1
      have hb1 := HX.out.1
      have d2 := HDVsc.out
      have d3 := HDVscm.out
      have gm := HVscm.out.2.1.2
      have gc := HVscm.out.2.2.1.2
      have gs := HVscm.out.2.2.2.2
      have lm := blk_lt HVscm.out.2.1.1
      have lc := blk_lt HVscm.out.2.2.1.1
      have ls := blk_lt HVscm.out.2.2.2.1
      have ho := HW.out.2.2
      have hg := grownBy_setRow Vscm n9 (stI c bm bc)
      refine ⟨bm, bc, n9, rfl, ?_, ?_⟩
      · rw [setRow_size]; exact ⟨by omega, by omega, by omega, by omega, by omega, by omega, by omega, by omega, by omega, by omega⟩
      · rw [setRow_size]
        have hx0 := (HVscm.out.1.block n0 (by omega)).trans HX.out.2.2.1
        have hx1 := (HVscm.out.1.block n1 (by omega)).trans HX.out.2.2.2.1
        refine ⟨by rw [← stI_eq]; exact setRow_heap _ _ _ _ _ _ HVscm.out.2.2.2.1, by rw [setRow_other _ _ _ _ (by omega)]; exact hx0, by rw [setRow_other _ _ _ _ (by omega)]; exact hx1, init_RS HK.out.2.1 (by omega) (by rw [setRow_other _ _ _ _ (by omega)]; exact HVscm.out.2.1.1) (by rw [setRow_other _ _ _ _ (by omega)]; exact HVscm.out.2.2.1.1), ⟨rfl, Or.inl ⟨rfl, rfl⟩⟩, ?_, by rw [setRow_size]; exact Nat.le_refl _⟩
        exact (hb1.trans (HVscm.out.1.mono (by omega))).grown hg (by omega) (fun q hq => by obtain rfl := Option.some.inj hq; omega)
    case rest =>
      obtain ⟨bm, bc, n9, rfl, hF, hI⟩ := hcut
      obtain ⟨nV, hnV⟩ : ∃ n, wc.heap.size = n := ⟨_, rfl⟩
      rw [hnV] at hF hI
      have hn0V : n0 ≤ nV := by have := hF.a1; have := hF.a2; omega
      have HF := Lib.hid (And.intro hF hn0V)
      have HI0 := Lib.hid hI
      clear hF hI hnV hn0V
      have HAW := Lib.hid (fun (u : World) (hu : Below n0 w u) => HX.out.2.2.2.2.below (by rw [HW.out.2.1]; exact hu))
      go_upto_block 0 with fail
      go_cut [10] (fun v10 wx => RI c bm bc n0 n1 n9 nV w v10 (l.foldl (opA c) (initA c)) wx)
      case first =>
        go_wp2_with fail
        go_loopg [10, 11, 12, 13, 30, 31, 32, 33, 34, 35, 36, 37, 38, 39, 40, 41, 42, 43, 44, 45, 46, 47, 48, 49, 50, 51, 52, 53, 54, 55, 56, 57, 58, 59, 60, 61, 62, 63, 64, 65, 66, 67, 68, 69, 70, 71, 72, 73, 74, 75, 76, 77, 78, 79, 80, 81, 82, 83, 84, 85, 86] l.length (fun gk v10 v11 v12 v13 v30 v31 v32 v33 v34 v35 v36 v37 v38 v39 v40 v41 v42 v43 v44 v45 v46 v47 v48 v49 v50 v51 v52 v53 v54 v55 v56 v57 v58 v59 v60 v61 v62 v63 v64 v65 v66 v67 v68 v69 v70 v71 v72 v73 v74 v75 v76 v77 v78 v79 v80 v81 v82 v83 v84 v85 v86 wr => ∃ j : Nat, j + gk = l.length ∧ v11 = .int .i64 (j : Int) ∧ RI c bm bc n0 n1 n9 nV w v10 ((l.take j).foldl (opA c) (initA c)) wr)
        case atStart => exact ⟨0, by omega, rfl, HI0.out⟩
        case round =>
          obtain ⟨j, hj, rfl, hI⟩ := hrel
          obtain ⟨B, hB⟩ : ∃ B, (l.take j).foldl (opA c) (initA c) = B := ⟨_, rfl⟩
          rw [hB] at hI
          obtain ⟨V, cV, rfl, hleV, hrV, hbV⟩ := hI.vv.form lenI
          by_cases hlt : j < l.length
          · have hd : decide (j < l.length) = true := decide_eq_true hlt
            have hlt' : (j : Int) < (l.length : Int) := by omega
            obtain ⟨hokB, hcB, hvB⟩ := stA_bd HK.out.2.1 HK.out.2.2 j (by omega)
            rw [hB] at hokB hcB hvB
            have hop := HK.out.2.2 _ (List.getElem_mem hlt)
            obtain ⟨a, rfl, hca⟩ := (HAW.out wr hI.lo).cell j hlt
            have hst : (l.take (j + 1)).foldl (opA c) (initA c) = opA c B l[j] := by rw [List.take_succ_eq_append_getElem hlt, List.foldl_append, hB]; rfl
            obtain ⟨⟨ia, ik, ip, iv⟩, hoe⟩ : ∃ o, l[j] = o := ⟨_, rfl⟩
            rw [hoe] at hca hst hop
            have x0 := hca 0 _ rfl
            have x1 := hca 1 _ rfl
            have x2 := hca 2 _ rfl
            have x3 := hca 3 _ rfl
            rw [Nat.add_zero] at x0
            rw [add_field _ _ _ (by decide)] at x1 x2 x3
            obtain ⟨q1, q2, q3, q4, q5, q6⟩ := hop
            simp only at q1 q2 q3 q4 q5 q6
            obtain ⟨ka, rfl⟩ : ∃ ka : Nat, ia = (ka : Int) := ⟨ia.toNat, by omega⟩
            obtain ⟨kp, rfl⟩ : ∃ kp : Nat, ip = (kp : Int) := ⟨ip.toNat, by omega⟩
            obtain ⟨W8, hW8⟩ : ∃ W8, wr.alloc (.cells #[.int .i64 (ka : Int), .int .i64 ik, .int .i64 (kp : Int), .int .i64 iv] 63) = W8 := ⟨_, rfl⟩
            obtain ⟨b8, hb8e⟩ : ∃ b, wr.heap.size = b := ⟨_, rfl⟩
            have hb8 : Below wr.heap.size wr W8 := by rw [← hW8]; exact (Below.refl _ _).alloc (Nat.le_refl _) _
            have hx8 : W8.heap[b8]? = some (.cells #[.int .i64 (ka : Int), .int .i64 ik, .int .i64 (kp : Int), .int .i64 iv] 63 (0, 0)) := by rw [← hW8, ← hb8e]; exact Go.heap_alloc_new _ _
            have hI8 := hI.rest hb8 HF.out.2
            have hXV := XV.lt HF.out.1 hI8
            have p0 : W8.cell? ⟨b8, 0, none⟩ = some (.int .i64 (ka : Int)) := by rw [cell_of_row _ _ _ _ _ _ hx8]; rfl
            have p1 : W8.cell? ⟨b8, 1, none⟩ = some (.int .i64 ik) := by rw [cell_of_row _ _ _ _ _ _ hx8]; rfl
            have p2 : W8.cell? ⟨b8, 2, none⟩ = some (.int .i64 (kp : Int)) := by rw [cell_of_row _ _ _ _ _ _ hx8]; rfl
            have p3 : W8.cell? ⟨b8, 3, none⟩ = some (.int .i64 iv) := by rw [cell_of_row _ _ _ _ _ _ hx8]; rfl
            have hlen := HK.out.1
            have HQ := Lib.hid (And.intro hI8 (And.intro hXV (And.intro hokB (And.intro hcB (And.intro hvB (And.intro hst (And.intro q2 q6)))))))
            have HW8 := Lib.hid (And.intro hW8 hb8e)
            have HB8 := Lib.hid (show nV ≤ b8 by rw [← hb8e]; exact hI.sz)
            have hc8 : cnt B ≤ 800000000 := by omega
            have hvb : (B.vs.length + 1) * 8 ≤ 140737488355328 := by omega
            have HC8 := Lib.hid (And.intro hc8 hvb)
            clear hca hoe hb8 hx8 hI8 hXV hokB hcB hvB hst hI hleV hrV hbV hB q6 hlen hc8 hvb
            go_upto_region 11 with fail
            clear x0 x1 x2 x3 hW8 hb8e
            rcases show ik = 1 ∨ ik = 2 ∨ ik = 3 ∨ ik = 4 by omega with hk | hk | hk | hk
            · subst hk
              have hkp : (kp : Int) < c.W := by have := HQ.out.2.2.2.2.2.2.2; omega
              have hc := getR_calls HQ.out.1.rs HQ.out.2.2.1 HQ.out.2.1 HC8.out.1 ka kp HQ.out.2.2.2.2.2.2.1 hkp
              have HC1 := Lib.hid hc
              clear hc hkp
              go_upto_region 14 with (first | (refine wpList_load_row rfl 81 (.tmp 9) rfl n9 rfl 81 _ (0, 0) _ HQ.out.1.st Try.underlying81 rfl info81s ?_) | ((with_reducible refine (HC1.out).mono ?_); rintro y w7 ⟨gv, rfl, hr7, hv7, hk7⟩; have H7 := Lib.hid (And.intro (HQ.out.1.seen HF.out.1 hk7) (And.intro (HQ.out.1.store (A' := { getA c B ka kp with vs := B.vs }) HF.out.1 (hr7.same rfl rfl) hk7 rfl) hv7)); clear hr7 hk7 hv7) | (refine wpList_store_row rfl 81 (.tmp 9) (.tmp 51) rfl n9 _ rfl rfl 81 _ H7.out.1 info81s rfl (stC_one _ _ _ _) ?_))
              clear p0 p1 p2 p3
              obtain ⟨W9, hW9⟩ : ∃ W, (w7.setRow n9 (stC c bm bc (getA c B ka kp))).alloc (.cells #[.int .i64 gv] 3) = W := ⟨_, rfl⟩
              have hb9 : Below (w7.setRow n9 (stC c bm bc (getA c B ka kp))).heap.size (w7.setRow n9 (stC c bm bc (getA c B ka kp))) W9 := by rw [← hW9]; exact (Below.refl _ _).alloc (Nat.le_refl _) _
              have hI9 := RI.rest H7.out.2.1 hb9 HF.out.2
              have hr9 : Rd encI 1 W9 (some ⟨w7.heap.size, 0, none⟩) [gv] := by rw [← hW9]; exact rd_one encI 1 _ gv 3 _ rfl _ (setRow_size _ _ _).symm
              have H9 := Lib.hid (And.intro hI9 (And.intro hr9 hW9))
              clear hb9 hI9 hr9 hW9
              go_wp2_with (at_builtin; rw [H9.out.2.2]; go_must (refine wpList_append_rowN lenI oneI W9 rfl (.tmp 53) (.tmp 55) 32 rfl nV 3 _ 8 Try.underlying32 info3 rfl (by decide) (by decide) _ B.vs B.vs.length rfl rfl H9.out.1.vv _ 1 _ [gv] rfl rfl H9.out.2.1 HC8.out.2 H9.out.1.sz (B.vs.length + 1) rfl (B.vs ++ [gv]) rfl ?_); intro B1 c1 Wa hoa hga hla; have HA := Lib.hid (RI.tell HF.out.1 H9.out.1 hoa hga hla); clear hoa hga hla)
              go_roundg (gk - 1)
              case measure => omega
              case rel =>
                refine ⟨j + 1, by omega, by go_num, ?_⟩
                rw [HQ.out.2.2.2.2.2.1]
                have e1 : opA c B ⟨(ka : Int), 1, (kp : Int), iv⟩ = { getA c B ka kp with vs := B.vs ++ [gv] } := by
                  unfold opA
                  rw [if_pos rfl, ← H7.out.2.2]
                  rfl
                rw [e1]
                exact HA.out
            · subst hk
              have hkp : (kp : Int) < c.W := by have := HQ.out.2.2.2.2.2.2.2; omega
              have hc := putR_calls HQ.out.1.rs HQ.out.2.2.1 HQ.out.2.1 HC8.out.1 ka kp iv HQ.out.2.2.2.2.2.2.1 hkp
              have HC1 := Lib.hid hc
              clear hc hkp
              go_wp2_with (first | (refine wpList_load_row rfl 81 (.tmp 9) rfl n9 rfl 81 _ (0, 0) _ HQ.out.1.st Try.underlying81 rfl info81s ?_) | ((with_reducible refine (HC1.out).mono ?_); rintro y w7 ⟨rfl, hr7, hk7⟩; have H7 := Lib.hid (And.intro (HQ.out.1.seen HF.out.1 hk7) (HQ.out.1.store HF.out.1 hr7 hk7 (put_vs c B ka kp iv))); clear hr7 hk7 p0 p1 p2 p3) | (refine wpList_store_row rfl 81 (.tmp 9) (.tmp 66) rfl n9 _ rfl rfl 81 _ H7.out.1 info81s rfl (stC_one _ _ _ _) ?_))
              go_roundg (gk - 1)
              case measure => omega
              case rel =>
                refine ⟨j + 1, by omega, by go_num, ?_⟩
                rw [HQ.out.2.2.2.2.2.1]
                have e1 : opA c B ⟨(ka : Int), 2, (kp : Int), iv⟩ = putA c B ka kp iv := by
                  unfold opA
                  rw [if_neg (show ¬ (2 : Int) = 1 by decide), if_pos rfl]
                  rfl
                rw [e1]
                exact H7.out.2
            · subst hk
              have hkl : ka < B.cs.length := by have := HQ.out.2.2.1.cl; have := HQ.out.2.2.2.2.2.2.1; omega
              obtain ⟨es, hes⟩ : ∃ es, B.cs[ka]? = some es := ⟨_, List.getElem?_eq_getElem hkl⟩
              obtain ⟨P, cq, hcell, hfz, hle, hrd, hP, hro⟩ := HQ.out.1.rs.row hes
              have h16 : es.length ≤ 16 := by have := HQ.out.2.2.1.len ka es hes; omega
              have hac := acquireR_calls es P cq W8.drew hrd.drew hP (by omega)
              unfold RowPost at hac
              obtain ⟨fs, hfs⟩ : ∃ fs, (es.map acE).filter (fun e => anyT e.v) = fs := ⟨_, rfl⟩
              rw [hfs] at hac
              have hklI : (ka : Int) < (B.cs.length : Int) := by omega
              have y5 := (st9 HQ.out.1.st).2.2.2.2.2.1
              have HAC := Lib.hid hac
              have H16 := Lib.hid (And.intro hes (And.intro hcell (And.intro hfs (And.intro y5 (And.intro p0 hro)))))
              clear hes hcell hfz hle hrd hP hro h16 hac hfs y5 p0 p1 p2 p3 hkl
              go_upto_region 18 with fail
              refine wp_region_held_drew (S := (fun w' => w'.cell? ⟨n9, 5, none⟩ = some (.slice (some ⟨bc, 0, none⟩) B.cs.length B.cs.length) ∧ w'.cell? ⟨b8, 0, none⟩ = some (.int .i64 (ka : Int)))) (by kernel_rfl) ?_ (fun hHeldb => ?_)
              · (try dsimp only); exact ⟨H16.out.2.2.2.1, H16.out.2.2.2.2.1⟩
              refine wpAnyH_take (i := 0) (oi := _) (v := ?vb1) rfl (by kernel_rfl) (by kernel_rfl) (by kernel_rfl) (fun _ _ _ h => h) (Or.inl ⟨by rfl, ?hyb1⟩) (by assumption) ?restb1
              case hyb1 => (intro w hSw; (try dsimp only at hSw); go_simp; all_goals with_reducible rfl)
              try simp only [Act.put, List.getElem_toArray, List.getElem_cons_zero, List.getElem_cons_succ, List.setIfInBounds_toArray, List.set_cons_zero, List.set_cons_succ]
              refine wpAnyH_take (i := 1) (oi := _) (v := ?vb2) rfl (by kernel_rfl) (by kernel_rfl) (by kernel_rfl) (fun _ _ _ h => h) (Or.inl ⟨by rfl, ?hyb2⟩) (by assumption) ?restb2
              case hyb2 => (intro w hSw; (try dsimp only at hSw); go_simp; all_goals with_reducible rfl)
              try simp only [Act.put, List.getElem_toArray, List.getElem_cons_zero, List.getElem_cons_succ, List.setIfInBounds_toArray, List.set_cons_zero, List.set_cons_succ]
              refine wpAnyH_take (i := 2) (oi := _) (v := ?vb3) rfl (by kernel_rfl) (by kernel_rfl) (by kernel_rfl) (fun _ _ _ h => h) (Or.inl ⟨by rfl, ?hyb3⟩) (by assumption) ?restb3
              case hyb3 => (intro w hSw; (try dsimp only at hSw); go_simp; all_goals with_reducible rfl)
              try simp only [Act.put, List.getElem_toArray, List.getElem_cons_zero, List.getElem_cons_succ, List.setIfInBounds_toArray, List.set_cons_zero, List.set_cons_succ]
              refine wpAnyH_take (i := 3) (oi := _) (v := ?vb4) rfl (by kernel_rfl) (by kernel_rfl) (by kernel_rfl) (fun _ _ _ h => h) (Or.inl ⟨by rfl, ?hyb4⟩) (by assumption) ?restb4
              case hyb4 => (intro w hSw; (try dsimp only at hSw); go_simp; all_goals with_reducible rfl)
              try simp only [Act.put, List.getElem_toArray, List.getElem_cons_zero, List.getElem_cons_succ, List.setIfInBounds_toArray, List.set_cons_zero, List.set_cons_succ]
              refine wpAnyH_take (i := 4) (oi := _) (v := ?vb5) rfl (by kernel_rfl) (by kernel_rfl) (by kernel_rfl) (fun _ _ _ h => h) (Or.inl ⟨by rfl, ?hyb5⟩) (by assumption) ?restb5
              case hyb5 => (intro w hSw; (try dsimp only at hSw); go_simp; all_goals with_reducible rfl)
              try simp only [Act.put, List.getElem_toArray, List.getElem_cons_zero, List.getElem_cons_succ, List.setIfInBounds_toArray, List.set_cons_zero, List.set_cons_succ]
              refine wpAnyH_take (i := 5) (oi := _) (v := ?vb6) rfl (by kernel_rfl) (by kernel_rfl) (by kernel_rfl) (fun _ _ _ h => h) (Or.inl ⟨by rfl, ?hyb6⟩) (by assumption) ?restb6
              case hyb6 => (intro w hSw; (try dsimp only at hSw); go_simp; all_goals with_reducible rfl)
              try simp only [Act.put, List.getElem_toArray, List.getElem_cons_zero, List.getElem_cons_succ, List.setIfInBounds_toArray, List.set_cons_zero, List.set_cons_succ]
              refine wpAnyH_take (i := 6) (oi := _) (v := ?vb7) rfl (by kernel_rfl) (by kernel_rfl) (by kernel_rfl) (fun _ _ _ h => h) (Or.inl ⟨by rfl, ?hyb7⟩) (by assumption) ?restb7
              case hyb7 => (intro w hSw; (try dsimp only at hSw); go_simp; all_goals with_reducible rfl)
              try simp only [Act.put, List.getElem_toArray, List.getElem_cons_zero, List.getElem_cons_succ, List.setIfInBounds_toArray, List.set_cons_zero, List.set_cons_succ]
              refine wpAnyH_take (i := 7) (oi := _) (v := ?vb8) rfl (by kernel_rfl) (by kernel_rfl) (by kernel_rfl) (fun _ _ _ h => h) (Or.inl ⟨by rfl, ?hyb8⟩) (by assumption) ?restb8
              case hyb8 => (intro w hSw; (try dsimp only at hSw); go_simp; all_goals with_reducible rfl)
              try simp only [Act.put, List.getElem_toArray, List.getElem_cons_zero, List.getElem_cons_succ, List.setIfInBounds_toArray, List.set_cons_zero, List.set_cons_succ]
              refine wpAnyH_take (i := 8) (oi := _) (v := ?vb9) rfl (by kernel_rfl) (by kernel_rfl) (by kernel_rfl) (fun _ _ _ h => h) (Or.inl ⟨by rfl, ?hyb9⟩) (by assumption) ?restb9
              case hyb9 => (intro w hSw; (try dsimp only at hSw); go_simp; all_goals with_reducible rfl)
              try simp only [Act.put, List.getElem_toArray, List.getElem_cons_zero, List.getElem_cons_succ, List.setIfInBounds_toArray, List.set_cons_zero, List.set_cons_succ]
              refine wpAnyH_ready (rs := [9]) (by kernel_rfl) (by simp) ?_
              refine AllReadyH.cons (o := _) rfl (fun K hK => ?_) AllReadyH.nil
              have hcell := H16.out.2.1
              go_simp
              clear hcell
              refine hK.out _ _ ?_ (fun hHeldb10 => ?_)
              · (try dsimp only); exact ⟨H16.out.2.2.2.1, H16.out.2.2.2.2.1⟩
              clear hK K hHeldb
              try simp only [Act.put, List.getElem_toArray, List.getElem_cons_zero, List.getElem_cons_succ, List.setIfInBounds_toArray, List.set_cons_zero, List.set_cons_succ]
              refine wpAnyH_ready (rs := [10]) (by kernel_rfl) (by simp) ?_
              refine AllReadyH.cons (o := _) rfl (fun K hK => ?_) AllReadyH.nil
              go_simp
              try go_wp2_with fail
              (with_reducible refine (HAC.out).mono ?_); rintro y w7 ⟨B7, c7, rfl, ho7, hb7⟩
              have hI7 := RI.rest HQ.out.1 (show Below W8.heap.size W8 w7 from (bb_drew (Below.refl _ _)).trans hb7) HF.out.2
              have hro7 := own_RowR (bm := bm) (bc := bc) (X := XV n0 n1 n9 (.slice V B.vs.length cV)) ho7 (by have := HF.out.1.b1; have := HQ.out.1.sz; simp; omega) (by have := HF.out.1.b2; have := HQ.out.1.sz; simp; omega) (fun q hq => HQ.out.2.1 q hq)
              obtain ⟨P9, c9, hc9, hf9, _⟩ := hI7.rs.row H16.out.1
              have hset := RI.setRow HF.out.1 hI7 ka hro7
              have y57 := (st9 hI7.st).2.2.2.2.2.1
              have y58 := (st9 hset.st).2.2.2.2.2.1
              simp only [List.length_set] at y58
              have k07 := ((bb_drew (Below.refl W8.heap.size W8)).trans hb7).cell (p := ⟨b8, 0, none⟩) (blk_of_cell H16.out.2.2.2.2.1)
              rw [H16.out.2.2.2.2.1] at k07
              have k08 : (w7.setCell ⟨bc, ka, none⟩ (.slice B7 fs.length c7)).cell? ⟨b8, 0, none⟩ = some (.int .i64 (ka : Int)) := (World.cell?_of_block ((grownBy_set w7 bc ka (.slice B7 fs.length c7)).block b8 (blk_of_cell k07) (fun h => by have h1 := Option.some.inj h; have h2 := HB8.out; have h3 := HF.out.1.b2; omega))).trans k07
              have H18 := Lib.hid (And.intro (And.intro y57 k07) (And.intro (And.intro y58 k08) (And.intro hset (And.intro hc9 hf9))))
              clear ho7 hb7 hI7 hro7 hc9 hf9 hset y57 y58 k07 k08
              refine hK.out _ _ ?_ (fun hHeldb11 => ?_)
              · (try dsimp only); exact H18.out.1
              clear hK K hHeldb10
              try simp only [Act.put, List.getElem_toArray, List.getElem_cons_zero, List.getElem_cons_succ, List.setIfInBounds_toArray, List.set_cons_zero, List.set_cons_succ]
              refine wpAnyH_take (i := 11) (oi := _) (v := ?vb12) rfl (by kernel_rfl) (by kernel_rfl) (by kernel_rfl) (fun _ _ _ h => h) (Or.inl ⟨by rfl, ?hyb12⟩) (by assumption) ?restb12
              case hyb12 => (intro w hSw; (try dsimp only at hSw); go_simp; all_goals with_reducible rfl)
              try simp only [Act.put, List.getElem_toArray, List.getElem_cons_zero, List.getElem_cons_succ, List.setIfInBounds_toArray, List.set_cons_zero, List.set_cons_succ]
              refine wpAnyH_ready (rs := [12]) (by kernel_rfl) (by simp) ?_
              refine AllReadyH.cons (o := _) rfl (fun K hK => ?_) AllReadyH.nil
              have hc9 := H18.out.2.2.2.1
              have hf9 := H18.out.2.2.2.2
              go_simp
              clear hc9 hf9
              refine hK.out _ _ ?_ (fun hHeldb13 => ?_)
              · (try dsimp only); exact H18.out.2.1
              clear hK K hHeldb11
              try simp only [Act.put, List.getElem_toArray, List.getElem_cons_zero, List.getElem_cons_succ, List.setIfInBounds_toArray, List.set_cons_zero, List.set_cons_succ]
              refine wpAnyH_done (by kernel_rfl) ?_ _
              go_wp2_with fail
              go_roundg (gk - 1)
              case measure => omega
              case rel =>
                refine ⟨j + 1, by omega, by go_num, ?_⟩
                rw [HQ.out.2.2.2.2.2.1]
                have e1 : opA c B ⟨(ka : Int), 3, (kp : Int), iv⟩ = { B with cs := B.cs.set ka fs } := by
                  unfold opA
                  rw [if_neg (show ¬ (3 : Int) = 1 by decide), if_neg (show ¬ (3 : Int) = 2 by decide), if_pos rfl]
                  show acqA B ka = _
                  unfold acqA
                  rw [rowA_some H16.out.1, H16.out.2.2.1]
                rw [e1]
                exact H18.out.2.2.1
            · subst hk
              have hc := releaseR_calls HQ.out.1.rs HQ.out.2.2.1 HQ.out.2.1 (by have := HC8.out.1; omega) ka HQ.out.2.2.2.2.2.2.1
              have HC1 := Lib.hid hc
              clear hc
              go_wp2_with (first | (refine wpList_load_row rfl 81 (.tmp 9) rfl n9 rfl 81 _ (0, 0) _ HQ.out.1.st Try.underlying81 rfl info81s ?_) | ((with_reducible refine (HC1.out).mono ?_); rintro y w7 ⟨rfl, hr7, hk7⟩; have H7 := Lib.hid (And.intro (HQ.out.1.seen HF.out.1 hk7) (HQ.out.1.store HF.out.1 hr7 hk7 (rels_vs ka B _))); clear hr7 hk7 p0 p1 p2 p3) | (refine wpList_store_row rfl 81 (.tmp 9) (.tmp 86) rfl n9 _ rfl rfl 81 _ H7.out.1 info81s rfl (stC_one _ _ _ _) ?_))
              go_roundg (gk - 1)
              case measure => omega
              case rel =>
                refine ⟨j + 1, by omega, by go_num, ?_⟩
                rw [HQ.out.2.2.2.2.2.1]
                have e1 : opA c B ⟨(ka : Int), 4, (kp : Int), iv⟩ = relA B ka := by
                  unfold opA
                  rw [if_neg (show ¬ (4 : Int) = 1 by decide), if_neg (show ¬ (4 : Int) = 2 by decide), if_neg (show ¬ (4 : Int) = 3 by decide)]
                  rfl
                rw [e1]
                exact H7.out.2
          · have hd : decide (j < l.length) = false := decide_eq_false hlt
            obtain rfl : j = l.length := by omega
            have e1 : l.foldl (opA c) (initA c) = B := by rw [← hB, List.take_of_length_le (Nat.le_refl _)]
            have HE := Lib.hid (show RI c bm bc n0 n1 n9 nV w (.slice V B.vs.length cV) (l.foldl (opA c) (initA c)) wr by rw [e1]; exact hI)
            clear hI hleV hrV hbV hB e1
            go_wp2_with fail
            go_meet
            exact HE.out
      case rest =>
        obtain ⟨V, cV, rfl, _, _, _⟩ := hcut.vv.form lenI
        obtain ⟨hokR, hcR, hvR⟩ := stA_bd HK.out.2.1 HK.out.2.2 l.length (Nat.le_refl _)
        rw [List.take_of_length_le (Nat.le_refl _)] at hokR hcR hvR
        have hrun : runA c l = (List.range c.L.toNat).foldl relA (l.foldl (opA c) (initA c)) := rfl
        obtain ⟨R0, hR0⟩ : ∃ R0, l.foldl (opA c) (initA c) = R0 := ⟨_, rfl⟩
        rw [hR0] at hcut hokR hcR hvR hrun ⊢
        have HR0 := Lib.hid (And.intro hcut (And.intro hokR (And.intro hcR (And.intro hvR hrun))))
        clear hcut hokR hcR hvR hrun hR0
        go_wp2_with fail
        go_loopg [14, 87, 88, 89, 90, 91, 92, 93, 94, 95] c.L.toNat (fun gk v14 v87 v88 v89 v90 v91 v92 v93 v94 v95 wr => ∃ (a : Nat) (B : AS), a + gk = c.L.toNat ∧ v14 = .int .i64 (a : Int) ∧ B = (List.range a).foldl relA R0 ∧ Ok c B ∧ cnt B ≤ cnt R0 + 20 * a ∧ RI c bm bc n0 n1 n9 nV w (.slice V R0.vs.length cV) B wr)
        case atStart => exact ⟨0, R0, by omega, rfl, rfl, HR0.out.2.1, Nat.le_refl _, HR0.out.1⟩
        case round =>
          obtain ⟨a, B, ha, rfl, hB, hok, hcn, hI⟩ := hrel
          obtain ⟨y0, y1, y2, y3⟩ : wr.cell? ⟨n0, 0, none⟩ = some (.int .i64 c.L) ∧ wr.cell? ⟨n0, 1, none⟩ = some (.int .i64 c.W) ∧ wr.cell? ⟨n0, 2, none⟩ = some (.int .i64 c.N) ∧ wr.cell? ⟨n0, 3, none⟩ = some (.int .i64 c.H) := by
            refine ⟨?_, ?_, ?_, ?_⟩ <;> (rw [cell_of_row _ _ _ _ _ _ hI.cf]; rfl)
          by_cases hlt : a < c.L.toNat
          · have hlt' : (a : Int) < c.L := by omega
            have hc := releaseR_calls hI.rs hok (XV.lt HF.out.1 hI) (by have := HR0.out.2.2.1; omega) a hlt'
            have HC1 := Lib.hid hc
            have HQ := Lib.hid (And.intro hI (And.intro hB (And.intro hok (And.intro hcn hlt))))
            clear hc hI hB hok hcn hlt y1 y2 y3
            go_wp2_with (first | (refine wpList_load_row rfl 81 (.tmp 9) rfl n9 rfl 81 _ (0, 0) _ HQ.out.1.st Try.underlying81 rfl info81s ?_) | ((with_reducible refine (HC1.out).mono ?_); rintro y w7 ⟨rfl, hr7, hk7⟩; have H7 := Lib.hid (And.intro (HQ.out.1.seen HF.out.1 hk7) (HQ.out.1.store HF.out.1 hr7 hk7 (rels_vs a B _))); clear hr7 hk7 y0) | (refine wpList_store_row rfl 81 (.tmp 9) (.tmp 95) rfl n9 _ rfl rfl 81 _ H7.out.1 info81s rfl (stC_one _ _ _ _) ?_))
            go_roundg (gk - 1)
            case measure => have := HQ.out.2.2.2.2; omega
            case rel =>
              exact ⟨a + 1, relA B a, by have := HQ.out.2.2.2.2; omega, by go_num, by rw [range_succ_foldl, ← HQ.out.2.1], HQ.out.2.2.1.rel a, by have := cnt_rel HQ.out.2.2.1 a; have := HQ.out.2.2.2.1; omega, H7.out.2⟩
          · have hlt' : ¬ (a : Int) < c.L := by omega
            obtain rfl : a = c.L.toNat := by omega
            have hBr : runA c l = B := by rw [HR0.out.2.2.2.2, ← hB]
            have hBv : B.vs = R0.vs := by rw [hB, rels_all_vs]
            have hml : B.m.length ≤ 256 := by have := hok.ml; omega
            have hrm : Rd encI 1 wr (some ⟨bm, 0, none⟩) B.m := ⟨by omega, fun k hk => ⟨_, rfl, fun j v hv => by
              have hj : j = 0 := by have := (List.getElem?_eq_some_iff.1 hv).1; simp at this; exact this
              subst hj
              have := (hI.rs.word k hk).1
              rw [getD_in _ _ hk] at this
              rw [Nat.mul_one, Nat.add_zero, add_at, this]
              simpa using hv⟩⟩
            have hvv := hI.vv
            rw [hBv] at hvv
            obtain ⟨_, _, hee, _, hrv, _⟩ := hvv.form lenI
            cases hee
            have H25 := Lib.hid (And.intro hI (And.intro hBr (And.intro hBv (And.intro hrm hrv))))
            clear hI hBr hBv hrm hrv hvv hB hok hcn hml y1 y2 y3
            go_upto_region 25 with fail
            clear y0
            refine wp_region_held_drew (S := (fun w' => w'.cell? ⟨n9, 4, none⟩ = some (.slice (some ⟨bm, 0, none⟩) B.m.length B.m.length) ∧ w'.rangeAt n9 6 [.int .i64 (B.f : Int), .int .i64 (B.wr : Int), .int .i64 (B.h : Int)])) (by kernel_rfl) ?_ (fun hHeldc => ?_)
            · (try dsimp only); exact ⟨(st9 H25.out.1.st).2.2.2.2.1, cnt_range H25.out.1.st⟩
            refine wpAnyH_take (i := 0) (oi := _) (v := ?vc1) rfl (by kernel_rfl) (by kernel_rfl) (by kernel_rfl) (fun _ _ _ h => h) (Or.inl ⟨by rfl, ?hyc1⟩) (by assumption) ?restc1
            case hyc1 => (intro w hSw; (try dsimp only at hSw); go_simp; all_goals with_reducible rfl)
            try simp only [Act.put, List.getElem_toArray, List.getElem_cons_zero, List.getElem_cons_succ, List.setIfInBounds_toArray, List.set_cons_zero, List.set_cons_succ]
            refine wpAnyH_take (i := 1) (oi := _) (v := ?vc2) rfl (by kernel_rfl) (by kernel_rfl) (by kernel_rfl) (fun _ _ _ h => h) (Or.inl ⟨by rfl, ?hyc2⟩) (by assumption) ?restc2
            case hyc2 => (intro w hSw; (try dsimp only at hSw); go_simp; all_goals with_reducible rfl)
            try simp only [Act.put, List.getElem_toArray, List.getElem_cons_zero, List.getElem_cons_succ, List.setIfInBounds_toArray, List.set_cons_zero, List.set_cons_succ]
            refine wpAnyH_take (i := 2) (oi := _) (v := ?vc3) rfl (by kernel_rfl) (by kernel_rfl) (by kernel_rfl) (fun _ _ _ h => h) (Or.inl ⟨by rfl, ?hyc3⟩) (by assumption) ?restc3
            case hyc3 => (intro w hSw; (try dsimp only at hSw); go_simp; all_goals with_reducible rfl)
            try simp only [Act.put, List.getElem_toArray, List.getElem_cons_zero, List.getElem_cons_succ, List.setIfInBounds_toArray, List.set_cons_zero, List.set_cons_succ]
            refine wpAnyH_take (i := 3) (oi := _) (v := ?vc4) rfl (by kernel_rfl) (by kernel_rfl) (by kernel_rfl) (fun _ _ _ h => h) (Or.inl ⟨by rfl, ?hyc4⟩) (by assumption) ?restc4
            case hyc4 => (intro w hSw; (try dsimp only at hSw); go_simp; all_goals with_reducible rfl)
            try simp only [Act.put, List.getElem_toArray, List.getElem_cons_zero, List.getElem_cons_succ, List.setIfInBounds_toArray, List.set_cons_zero, List.set_cons_succ]
            refine wpAnyH_take (i := 4) (oi := _) (v := ?vc5) rfl (by kernel_rfl) (by kernel_rfl) (by kernel_rfl) (fun _ _ _ h => h) (Or.inl ⟨by rfl, ?hyc5⟩) (by assumption) ?restc5
            case hyc5 => (intro w hSw; (try dsimp only at hSw); (refine exec_load_mid 45 (.tmp 99) ?_ n9 6 ?_ _ _ hSw.2 Try.underlying45 rfl info45s) <;> rfl)
            try simp only [Act.put, List.getElem_toArray, List.getElem_cons_zero, List.getElem_cons_succ, List.setIfInBounds_toArray, List.set_cons_zero, List.set_cons_succ]
            refine wpAnyH_take (i := 5) (oi := _) (v := ?vc6) rfl (by kernel_rfl) (by kernel_rfl) (by kernel_rfl) (fun _ _ _ h => h) (Or.inl ⟨by rfl, ?hyc6⟩) (by assumption) ?restc6
            case hyc6 => (intro w hSw; (try dsimp only at hSw); go_simp; all_goals with_reducible rfl)
            try simp only [Act.put, List.getElem_toArray, List.getElem_cons_zero, List.getElem_cons_succ, List.setIfInBounds_toArray, List.set_cons_zero, List.set_cons_succ]
            refine wpAnyH_take (i := 6) (oi := _) (v := ?vc7) rfl (by kernel_rfl) (by kernel_rfl) (by kernel_rfl) (fun _ _ _ h => h) (Or.inl ⟨by rfl, ?hyc7⟩) (by assumption) ?restc7
            case hyc7 => (intro w hSw; (try dsimp only at hSw); go_simp; all_goals with_reducible rfl)
            try simp only [Act.put, List.getElem_toArray, List.getElem_cons_zero, List.getElem_cons_succ, List.setIfInBounds_toArray, List.set_cons_zero, List.set_cons_succ]
            refine wpAnyH_ready (rs := [7]) (by kernel_rfl) (by simp) ?_
            refine AllReadyH.cons (o := _) rfl (fun K hK => ?_) AllReadyH.nil
            refine wp_store_row 45 (.tmp 6) (.tmp 100) rfl n1 #[.int .i64 (B.f : Int), .int .i64 (B.wr : Int), .int .i64 (B.h : Int)] rfl rfl 45 cz3 H25.out.1.ct info45s rfl (by simp [Value.oneCell']) ?_
            refine hK.out _ _ ?_ (fun hHeldc8 => ?_)
            · (try dsimp only); exact ⟨by rw [cell_setRow_other _ _ _ _ (by have := HF.out.1.c3; simp; omega)]; exact (st9 H25.out.1.st).2.2.2.2.1, fun j v hv => by rw [cell_setRow_other _ _ _ _ (by have := HF.out.1.c3; simp; omega)]; exact cnt_range H25.out.1.st j v hv⟩
            clear hK K hHeldc
            try simp only [Act.put, List.getElem_toArray, List.getElem_cons_zero, List.getElem_cons_succ, List.setIfInBounds_toArray, List.set_cons_zero, List.set_cons_succ]
            refine wpAnyH_take (i := 8) (oi := _) (v := ?vc9) rfl (by kernel_rfl) (by kernel_rfl) (by kernel_rfl) (fun _ _ _ h => h) (Or.inl ⟨by rfl, ?hyc9⟩) (by assumption) ?restc9
            case hyc9 => (intro w hSw; (try dsimp only at hSw); go_simp; all_goals with_reducible rfl)
            try simp only [Act.put, List.getElem_toArray, List.getElem_cons_zero, List.getElem_cons_succ, List.setIfInBounds_toArray, List.set_cons_zero, List.set_cons_succ]
            refine wpAnyH_done (by kernel_rfl) ?_ _
            go_wp2_with fail
            have hx3 := setRow_heap wr.drew n1 cz3 #[.int .i64 (B.f : Int), .int .i64 (B.wr : Int), .int .i64 (B.h : Int)] 45 (0, 0) H25.out.1.ct
            refine bodyPost_ret (v := .tuple #[.slice V R0.vs.length cV, .slice (some ⟨bm, 0, none⟩) B.m.length B.m.length, .agg #[.int .i64 (B.f : Int), .int .i64 (B.wr : Int), .int .i64 (B.h : Int)], .int .i64 0]) (res17 _ _ n1 _ _ _ _ _ _ rfl rfl rfl rfl hx3) rfl ?_
            unfold RunPost
            rw [if_pos HK.out.1, H25.out.2.1, H25.out.2.2.1, HW.out.2.1]
            have hg := grownBy_setRow wr.drew n1 #[.int .i64 (B.f : Int), .int .i64 (B.wr : Int), .int .i64 (B.h : Int)]
            refine ⟨V, cV, ⟨bm, 0, none⟩, rfl, H25.out.2.2.2.2.keep (fun a ha h0 => ?_), H25.out.2.2.2.1.keep (fun a ha h0 => ?_), (H25.out.1.lo.drew).grown hg (by have := H25.out.1.sz; have := HF.out.1.a2; have := HF.out.1.a1; simp; omega) (fun q hq => by obtain rfl := Option.some.inj hq; have := HF.out.1.a1; omega)⟩
            · refine setRow_other _ _ _ _ (fun e => ?_)
              subst ha
              have h1 := H25.out.1.vv
              have h2 := (h1.blk a.block rfl).1
              have := HF.out.1.a2; omega
            · obtain rfl := Option.some.inj ha
              exact setRow_other _ _ _ _ (by have := HF.out.1.c1; simp; omega)
  · have HK := Lib.hid hk
    have hkc : (chkF c l != 0) = true := by simpa using hk
    obtain ⟨m, hm⟩ : ∃ m, chkF c l = m := ⟨_, rfl⟩
    rw [hm] at HC hkc
    have HM := Lib.hid hm
    clear hk hm
    obtain ⟨y0, y1, y2, y3⟩ := HCF.out W1 (Below.refl _ _)
    go_enter Try.func17, Try.ntmps17
    go_upto_region 1 with fail
    rw [HW.out.1]
    rw [HW.out.2.1, HW.out.2.2]
    go_upto_region 3 with ((with_reducible refine (HC.out).mono ?_); rintro e w3 ⟨rfl, hb3⟩; have H3 := Lib.hid (And.intro hb3 ((hb3.block _ (blk_lt HX.out.2.2.2.1)).trans HX.out.2.2.2.1)); clear hb3)
    clear y0 y1 y2 y3
    go_wp2_with (refine wpList_store_row rfl 45 (.tmp 6) (.tmp 20) rfl n1 cz3 rfl rfl 45 _ H3.out.2 info45s rfl (by simp [Value.oneCell']) ?_)
    have hx3 := setRow_heap w3 n1 cz3 cz3 45 (0, 0) H3.out.2
    refine bodyPost_ret (v := .tuple #[.slice none 0 0, .slice none 0 0, .agg cz3, .int .i64 m]) (res17 _ _ n1 _ _ _ _ _ _ rfl rfl rfl rfl hx3) rfl ?_
    unfold RunPost
    rw [if_neg HK.out, HM.out, HW.out.2.1]
    exact ⟨rfl, (HX.out.1.trans (H3.out.1.mono (by have := HX.out.2.1; omega))).grown (grownBy_setRow _ _ _) (by have := HX.out.2.1; have := H3.out.1.size; omega) (fun q hq => by obtain rfl := Option.some.inj hq; have := HW.out.2.2; omega)⟩
end Go.Proofs.Ytggidakiflnhhaa
