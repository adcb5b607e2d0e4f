import Derived.Test.YthpcipfloofbcaaBG
import Derived.BigRegion
import Derived.Deep.RegionHeldLaw
import Derived.Deep.DeepCutAuto
namespace Go.Proofs.Ythpcipfloofbcaa
open Go.RowKit
set_option maxHeartbeats 8000000
set_option maxRecDepth 100000
set_option linter.unusedSimpArgs false
set_option linter.unusedVariables false

theorem wI_at {s : St} {a : Int} (h : wI a ((s.ms.length : Int) - 1) = true) : 0 ≤ a ∧ a < s.ms.length ∧ ∃ x, s.at a = some x ∧ ∃ hi : a.toNat < s.ms.length, s.ms[a.toNat] = x := by
  have h1 := wI_true h
  have hi : a.toNat < s.ms.length := by omega
  refine ⟨h1.1, by omega, s.ms[a.toNat], ?_, hi, rfl⟩
  unfold St.at; rw [if_pos h1.1]; exact List.getElem?_eq_getElem hi
theorem wI_none {s : St} {a : Int} (h : wI a ((s.ms.length : Int) - 1) = false) : s.at a = none := by
  have h1 := wI_false h
  unfold St.at
  split
  · rw [List.getElem?_eq_none_iff]; omega
  · rfl
def finR : Except Int St → St × Int
  | .ok s' => (s', 0)
  | .error k => (St.zero, k)
theorem step_good {s : St} {m : Mov} (hf : Fine s) (hk : 1 ≤ m.k ∧ m.k ≤ 4) : stepF s m = finR (moveF s m) := by
  unfold stepF; rw [if_pos ((check_iff s).2 hf), if_pos hk]; cases moveF s m <;> rfl
theorem ask_fin (s : St) : finR (askF s) = askR s := by unfold askR; cases askF s <;> rfl
theorem moveF1 (s : St) (m : Mov) (hk : m.k = 1) : moveF s m = sendF s m := by unfold moveF; rw [if_pos hk]
theorem moveF2 (s : St) (m : Mov) (hk : m.k = 2) : moveF s m = idleF s m := by unfold moveF; rw [if_neg (by omega), if_pos hk]
theorem moveF3 (s : St) (m : Mov) (hk : m.k = 3) : moveF s m = arriveF s m := by unfold moveF; rw [if_neg (by omega), if_neg (by omega), if_pos hk]
theorem moveF4 (s : St) (m : Mov) (hk : m.k = 4) : moveF s m = askF s := by unfold moveF; rw [if_neg (by omega), if_neg (by omega), if_neg (by omega)]

theorem mi_start {w w1 w2 : World} {m : Mov} {s : St} {g cc : Nat} {FA : Option Addr} {Fc : Nat} {M0 F0 : Value} (hlo : Below w.heap.size w w2) (hsz : w.heap.size + 3 ≤ w1.heap.size) (hs2 : w1.heap.size ≤ w2.heap.size)
    (h0 : w2.heap[w.heap.size]? = some (.cells (cellsS s M0 F0) 44 (0, 0))) (h1 : w2.heap[w.heap.size + 1]? = some (.cells #[.int .i64 m.k, .int .i64 m.a, .int .i64 m.b] 55 (0, 0))) (h2 : w2.heap[w.heap.size + 2]? = some (.cells zeroS 44 (0, 0)))
    (ho1 : Own encM 3 79 w2 w1.heap.size (.slice (some ⟨g, 0, none⟩) s.ms.length cc) s.ms) (ho2 : Own encI 1 3 w2 w1.heap.size (.slice FA s.fl.length Fc) s.fl) {Y : World} (hY : fill9 w2 w.heap.size s (some ⟨g, 0, none⟩) cc FA Fc = Y) : MI w m s g cc (.slice FA s.fl.length Fc) Y := by
  unfold fill9 at hY
  have q0 := filledT (.slice (some ⟨g, 0, none⟩) s.ms.length cc) (.slice FA s.fl.length Fc) (.int .i64 s.wn) (.int .i64 s.ws) (.int .i64 s.wr) (.int .i64 s.ls) (.int .i64 s.lr) (.int .i64 s.wv) (.bool s.told) h0
  have q2 := filled_other (w := w2) (bo := w.heap.size) (.slice (some ⟨g, 0, none⟩) s.ms.length cc) (.slice FA s.fl.length Fc) (.int .i64 s.wn) (.int .i64 s.ws) (.int .i64 s.wr) (.int .i64 s.ls) (.int .i64 s.lr) (.int .i64 s.wv) (.bool s.told)
  have q3 := filled_below w.heap.size w2 w.heap.size (Nat.le_refl _) (.slice (some ⟨g, 0, none⟩) s.ms.length cc) (.slice FA s.fl.length Fc) (.int .i64 s.wn) (.int .i64 s.ws) (.int .i64 s.wr) (.int .i64 s.ls) (.int .i64 s.lr) (.int .i64 s.wv) (.bool s.told)
  rw [hY] at q0 q2 q3
  have hg : w2.grownBy Y (some w.heap.size) := ⟨q3.1.os, q3.1.tape, q3.1.output, by rw [q3.2]; exact Nat.le_refl _, fun i _ hi => q2 i (fun e => hi (by rw [e]))⟩
  refine ⟨hlo.trans q3.1, by rw [q3.2]; omega, q0, (q2 _ (by omega)).trans h1, (q2 _ (by omega)).trans h2, World.ownsRow.mono (ho1.grown hg (.inr fun e => by have := (ho1.blk _ e).1; omega)) hsz, World.ownsRow.mono (ho2.grown hg ?_) hsz⟩
  cases hv : (Value.slice FA s.fl.length Fc).ownBlock with
  | none => exact .inl rfl
  | some k => right; intro e; cases e; have := (ho2.blk _ hv).1; omega

/-- append, as one step of a region that draws: of whatever length -/
theorem step_append_any {α : Type} {P : Program} {enc : α → List Value} {sz : Nat} (hs : ∀ x, (enc x).length = sz) (h1 : ∀ x, ∀ u ∈ enc x, u.oneCell' = true)
    {w : World} {ops : Array Oper} {o : Oper} {a : Act} {K : Act → World → Prop} {Q : Exit → Act → World → Prop} {E : Prop} (hgd : o.guard = none) (s x : Operand) (t : TypeId)
    (ho : o.op = .call { callee := .builtin .append, args := #[s, x], argTypes := #[t, t] })
    (base : Nat) (e : TypeId) (z : Value) (bytes : Nat) (ht : P.underlying t = some (.slice e)) (hinfo : (P.info? e).map (fun i => (i.zero, i.size, i.bytes)) = some (some z, sz, bytes))
    (hzs : z.cells.size = sz) (hsz : 0 < sz) (hb0 : 0 < bytes)
    (g0 n c0 : Nat) (xs : List α) (hn : xs.length = n) (hv : a.eval s = .slice (some ⟨g0, 0, none⟩) n c0) (hown : Own enc sz e w base (.slice (some ⟨g0, 0, none⟩) n c0) xs)
    (ad : Addr) (m c : Nat) (ys : List α) (hx : a.eval x = .slice (some ad) m c) (hm : ys.length = m) (hr : Rd enc sz w (some ad) ys)
    (hbytes : (n + m) * bytes ≤ 140737488355328) (hbase : base ≤ w.heap.size)
    (h : ∀ g cap w', Own enc sz e w' base (.slice (some ⟨g, 0, none⟩) (n + m) cap) (xs ++ ys) → w.grownBy w' (some g0) → K (a.put o.dst (.slice (some ⟨g, 0, none⟩) (n + m) cap)) w') :
    if Region.wanted o (yielded ops a.tmps) = true then Oper.wp P o a w K Q else E := by
  subst hn
  by_cases hm0 : 0 < m
  · exact step_append_typed hs h1 hgd s x t ho base e z bytes ht hinfo hzs hsz hb0 (.slice (some ⟨g0, 0, none⟩) xs.length c0) xs hv hown ad m c ys hx hm hm0 hr hbytes hbase h
  · obtain rfl : m = 0 := by omega
    obtain rfl : ys = [] := List.length_eq_zero_iff.1 hm
    obtain ⟨i0, hi, hz0, hz1, hz2⟩ := info_parts hinfo
    obtain ⟨A9, c9, hv9, hle, _, _⟩ := hown.form hs
    obtain ⟨_, _, rfl⟩ := Value.slice.inj hv9
    refine step_append_fits hgd s x t ho base e i0 sz ht hi hz1 g0 xs.length c0 (xs.flatMap enc) hv hown ad 0 c [] hx (by simp) (fun j u hj => by simp at hj) (fun u hu => by simp at hu) (by omega) (fun w' hw' hg => h g0 c0 w' ?_ hg)
    rw [List.append_nil] at hw' ⊢
    exact hw'

theorem rd_take {α : Type} {enc : α → List Value} {sz : Nat} {w : World} {A : Option Addr} {xs : List α} (h : Rd enc sz w A xs) (i : Nat) : Rd enc sz w A (xs.take i) :=
  ⟨by have := h.small; simp; omega, fun k hk => by
    simp only [List.length_take] at hk
    obtain ⟨a, ha, hc⟩ := h.cell k (by omega)
    exact ⟨a, ha, fun j v hv => hc j v (by simpa using hv)⟩⟩
theorem rd_drop {α : Type} {enc : α → List Value} {sz : Nat} {w : World} {a : Addr} {xs : List α} (h : Rd enc sz w (some a) xs) (i : Nat) : Rd enc sz w (some (a.add (i * sz))) (xs.drop i) :=
  ⟨by have := h.small; simp; omega, fun k hk => by
    simp only [List.length_drop] at hk
    obtain ⟨b, hb, hc⟩ := h.cell (i + k) (by omega)
    cases hb
    refine ⟨_, rfl, fun j v hv => ?_⟩
    rw [Go.Deep.add_add, show i * sz + (k * sz + j) = (i + k) * sz + j by rw [Nat.add_mul, Nat.add_assoc]]
    exact hc j v (by simpa using hv)⟩

theorem rstep_ask {w Y w5 Z : World} {m : Mov} {s r : St} {g cc Fc : Nat} {FA A' B' : Option Addr} {c' d' : Nat} (k : Int) (h : MI w m s g cc (.slice FA s.fl.length Fc) Y) (hb : Below Y.heap.size Y w5) (hr : RdS w5 A' B' r) (hor : (A' = some ⟨g, 0, none⟩ ∧ B' = FA) ∨ (A' = none ∧ B' = none))
    (hZ : fill9 w5 (w.heap.size + 2) r A' c' B' d' = Z) :
    Z.heap[w.heap.size + 2]? = some (.cells (cellsS r (.slice A' r.ms.length c') (.slice B' r.fl.length d')) 44 (0, 0)) ∧ SPost w (r, k) (.returned (.tuple #[r.v A' c' B' d', .int .i64 k])) Z := by
  unfold fill9 at hZ
  have hsz := h.sz
  have h2 := (hb.block _ (by omega)).trans h.r2
  have q0 := filledT (.slice A' r.ms.length c') (.slice B' r.fl.length d') (.int .i64 r.wn) (.int .i64 r.ws) (.int .i64 r.wr) (.int .i64 r.ls) (.int .i64 r.lr) (.int .i64 r.wv) (.bool r.told) h2
  have q2 := filled_other (w := w5) (bo := w.heap.size + 2) (.slice A' r.ms.length c') (.slice B' r.fl.length d') (.int .i64 r.wn) (.int .i64 r.ws) (.int .i64 r.wr) (.int .i64 r.ls) (.int .i64 r.lr) (.int .i64 r.wv) (.bool r.told)
  have q3 := filled_below w.heap.size w5 (w.heap.size + 2) (by omega) (.slice A' r.ms.length c') (.slice B' r.fl.length d') (.int .i64 r.wn) (.int .i64 r.ws) (.int .i64 r.wr) (.int .i64 r.ls) (.int .i64 r.lr) (.int .i64 r.wv) (.bool r.told)
  rw [hZ] at q0 q2 q3
  have hg := h.ne.1
  have hA : ∀ a, A' = some a → w.heap.size + 3 ≤ a.block := fun a ha => by
    rcases hor with ⟨e1, _⟩ | ⟨e1, _⟩
    · rw [e1] at ha; cases ha; exact hg
    · rw [e1] at ha; cases ha
  have hB : ∀ a, B' = some a → w.heap.size + 3 ≤ a.block := fun a ha => by
    rcases hor with ⟨_, e1⟩ | ⟨_, e1⟩
    · rw [e1] at ha; subst ha; exact (h.of.blk a.block rfl).1
    · rw [e1] at ha; cases ha
  exact ⟨q0, A', c', B', d', rfl, ⟨hr.ms.keep (fun a ha => q2 _ (by have := hA a ha; omega)), hr.fl.keep (fun a ha => q2 _ (by have := hB a ha; omega))⟩, (h.lo.trans (hb.mono h.lo.size)).trans q3.1, fun a ha => by have := hA a ha; omega, fun a ha => by have := hB a ha; omega⟩
theorem MI.rds {w Y : World} {m : Mov} {s : St} {g cc Fc : Nat} {FA : Option Addr} (h : MI w m s g cc (.slice FA s.fl.length Fc) Y) : RdS Y (some ⟨g, 0, none⟩) FA s := by
  obtain ⟨A1, c1, hv1, hr1⟩ := h.om.rd lenM
  obtain ⟨A2, c2, hv2, hr2⟩ := h.of.rd lenI
  obtain ⟨rfl, _, _⟩ := Value.slice.inj hv1
  obtain ⟨rfl, _, _⟩ := Value.slice.inj hv2
  exact ⟨hr1, hr2⟩

theorem MI.far {w V w5 : World} {m : Mov} {s : St} {g cc Fc N b : Nat} {a : Addr} (h : MI w m s g cc (.slice (some a) s.fl.length Fc) V) (hg : g < N) (ha : a.block < N) (hN : w.heap.size + 3 ≤ N) (hb : N ≤ b) (hg1 : V.grownBy w5 (some b)) : MI w m s g cc (.slice (some a) s.fl.length Fc) w5 :=
  h.grown hg1 (fun k hk => by
    have hk' := Option.some.inj hk
    subst hk'
    exact ⟨by omega, by omega, by simp [Value.ownBlock]; omega⟩)

theorem MI.setF2 {w W : World} {m : Mov} {s : St} {g c N : Nat} {Fv Fv' : Value} {fl' : List Int} (h : MI w m s g c Fv W) (ho : Own encI 1 3 W N Fv' fl') (hN : w.heap.size + 3 ≤ N) : MI w m { s with fl := fl' } g c Fv' (W.setCell ⟨w.heap.size, 1, none⟩ Fv') :=
  h.setF (w1 := W) ⟨rfl, rfl, rfl, Nat.le_refl _, fun _ _ _ => rfl⟩ (World.ownsRow.mono ho hN)

theorem rstep_calls (s : St) (A : Option Addr) (c : Nat) (B : Option Addr) (d : Nat) (m : Mov) (w : World) (h : RdS w A B s) :
    Calls Try.prog 24 #[s.v A c B d, m.v] w (SPost w (stepF s m)) := by
  obtain ⟨W, hW⟩ : ∃ W, ((w.alloc (.cells (cellsS s (.slice A s.ms.length c) (.slice B s.fl.length d)) 44)).alloc (.cells #[.int .i64 m.k, .int .i64 m.a, .int .i64 m.b] 55)).alloc (.cells zeroS 44) = W := ⟨_, rfl⟩
  have hb : Below w.heap.size w W := by
    rw [← hW]
    exact (((Below.refl _ _).alloc (Nat.le_refl _) _).alloc (by simp) _).alloc (by simp; omega) _
  have hsz : W.heap.size = w.heap.size + 3 := by rw [← hW]; simp
  have hb0 : W.heap[w.heap.size]? = some (.cells (cellsS s (.slice A s.ms.length c) (.slice B s.fl.length d)) 44 (0, 0)) := by
    rw [← hW, Below.heap_alloc _ _ _ (by simp; omega), Below.heap_alloc _ _ _ (by simp)]; exact heap_alloc_new w _
  have hb1 : W.heap[w.heap.size + 1]? = some (.cells #[.int .i64 m.k, .int .i64 m.a, .int .i64 m.b] 55 (0, 0)) := by
    rw [← hW, Below.heap_alloc _ _ _ (by simp)]
    have := heap_alloc_new (w.alloc (.cells (cellsS s (.slice A s.ms.length c) (.slice B s.fl.length d)) 44)) (.cells #[.int .i64 m.k, .int .i64 m.a, .int .i64 m.b] 55)
    simpa using this
  have hb2 : W.heap[w.heap.size + 2]? = some (.cells zeroS 44 (0, 0)) := by
    rw [← hW]
    have := heap_alloc_new ((w.alloc (.cells (cellsS s (.slice A s.ms.length c) (.slice B s.fl.length d)) 44)).alloc (.cells #[.int .i64 m.k, .int .i64 m.a, .int .i64 m.b] 55)) (.cells zeroS 44)
    simpa using this
  have hck := rcheck_calls s A c B d W (h.below hb)
  have hwi := rwithin_calls
  have HWI := Lib.hid hwi
  have HC := Lib.hid hck
  have HW := Lib.hid (And.intro hW (And.intro hb (And.intro hsz (And.intro hb0 (And.intro hb1 hb2)))))
  have HR := Lib.hid h
  clear hck hwi hW hb hsz hb0 hb1 hb2 h
  by_cases hk : checkF s = 0
  · have hkc : (checkF s != 0) = false := by rw [bne_eq_false_iff_eq]; exact hk
    have hfine := (check_iff s).1 hk
    have hn0 := hfine.n0
    have hn1 := hfine.n1
    have HK := Lib.hid hfine
    clear hk hfine
    go_enter Try.func24, Try.ntmps24
    go_wp2_with fail
    rw [HW.out.1]
    (with_reducible refine (HC.out).mono ?_); rintro e w1 ⟨rfl, hb1⟩
    have g0 := (hb1.block _ (by have := HW.out.2.2.1; omega)).trans HW.out.2.2.2.1
    have g1 := (hb1.block _ (by have := HW.out.2.2.1; omega)).trans HW.out.2.2.2.2.1
    have g2 := (hb1.block _ (by have := HW.out.2.2.1; omega)).trans HW.out.2.2.2.2.2
    have hlo : Below w.heap.size w w1 := HW.out.2.1.trans (hb1.mono HW.out.2.1.size)
    have hxs : w.heap.size + 3 ≤ w1.heap.size := by have := hb1.size; have := HW.out.2.2.1; omega
    have hcp := rcopied_calls s A c B d w1 (HR.out.below hlo) HK.out
    obtain ⟨z0, z1, z2, z3, z4, z5, z6, z7, z8⟩ := nineT g0
    have HCP := Lib.hid hcp
    have HG := Lib.hid (And.intro g0 (And.intro g1 (And.intro g2 (And.intro hlo hxs))))
    clear g0 g1 g2 hlo hxs hcp hb1
    go_upto_region 4 with fail
    go_wp2_with fail
    (with_reducible refine (HCP.out).mono ?_); rintro e w2 ⟨g, cc, Fv, rfl, ho1, ho2, hb2⟩
    obtain ⟨FA, Fc, rfl, _⟩ := ho2.rd lenI
    have r0 := (hb2.block _ (by have := HG.out.2.2.2.2; omega)).trans HG.out.1
    have r1 := (hb2.block _ (by have := HG.out.2.2.2.2; omega)).trans HG.out.2.1
    have r2 := (hb2.block _ (by have := HG.out.2.2.2.2; omega)).trans HG.out.2.2.1
    obtain ⟨Y, hY⟩ : ∃ Y, fill9 w2 w.heap.size s (some ⟨g, 0, none⟩) cc FA Fc = Y := ⟨_, rfl⟩
    have hmi := mi_start (m := m) (HG.out.2.2.2.1.trans (hb2.mono HG.out.2.2.2.1.size)) HG.out.2.2.2.2 hb2.size r0 r1 r2 ho1 ho2 hY
    unfold fill9 at hY
    have HY := Lib.hid (And.intro hY hmi)
    clear z0 z1 z2 z3 z4 z5 z6 z7 z8
    obtain ⟨z0, z1, z2, z3, z4, z5, z6, z7, z8⟩ := nineT r0
    obtain ⟨f0, f1, f2, f3, f4, f5, f6, f7, f8⟩ := nineFT r0
    clear hY hmi r0 r1 r2 ho1 ho2 hb2
    go_upto_region 5 with fail
    rw [HY.out.1]
    clear z0 z1 z2 z3 z4 z5 z6 z7 z8 f0 f1 f2 f3 f4 f5 f6 f7 f8
    obtain ⟨z0, z1, z2, z3, z4, z5, z6, z7, z8⟩ := nineT HY.out.2.r0
    have m0 := cell_of_row _ _ 0 _ _ _ HY.out.2.r1
    have m1 := cell_of_row _ _ 1 _ _ _ HY.out.2.r1
    have m2 := cell_of_row _ _ 2 _ _ _ HY.out.2.r1
    simp at m0 m1 m2
    obtain ⟨p0, p1, p2, p3, p4, p5, p6, p7, p8⟩ := nineT HY.out.2.r2
    obtain ⟨f0, f1, f2, f3, f4, f5, f6, f7, f8⟩ := nineFT HY.out.2.r2
    go_upto_region 8 with fail
    by_cases k1 : m.k = 1
    · have b1 : (m.k == 1) = true := by rw [beq_iff_eq]; exact k1
      have HKK := Lib.hid ((step_good (m := m) HK.out (by omega)).trans (by rw [moveF1 _ _ k1]))
      clear k1
      cases ha : wI m.a ((s.ms.length : Int) - 1) with
      | false =>
        have hid : finR (sendF s m) = (St.zero, 4) := by unfold sendF; rw [wI_none ha]; rfl
        have hr : stepF s m = (St.zero, 4) := by rw [HKK.out, hid]
        obtain ⟨Z, hZ⟩ : ∃ Z, fill9 Y (w.heap.size + 2) St.zero none 0 none 0 = Z := ⟨_, rfl⟩
        have hfa := rstep_fail HY.out.2.lo HY.out.2.r2 4 hZ
        simp only [fill9, St.zero, List.length_nil] at hZ
        have HZ := Lib.hid (And.intro hZ (And.intro hfa hr))
        clear hZ hfa hr hid
        go_wp2_with (go_at_call 40; (with_reducible refine (HWI.out _ _ _).mono ?_); rintro e w' ⟨rfl, rfl⟩)
        rw [HZ.out.1]
        refine bodyPost_ret (rstep_results _ Z _ St.zero _ _ 4 rfl rfl HZ.out.2.1.1) rfl ?_
        rw [HZ.out.2.2]
        exact HZ.out.2.1.2
      | true =>
        obtain ⟨h0, h1, x, hat, hi, hx⟩ := wI_at ha
        cases hb : wI m.b ((s.ms.length : Int) - 1) with
        | false =>
          have hid : finR (sendF s m) = (St.zero, 4) := by unfold sendF; rw [hat]; simp [wI_none hb, finR]
          clear hat
          have hr : stepF s m = (St.zero, 4) := by rw [HKK.out, hid]
          obtain ⟨Z, hZ⟩ : ∃ Z, fill9 Y (w.heap.size + 2) St.zero none 0 none 0 = Z := ⟨_, rfl⟩
          have hfa := rstep_fail HY.out.2.lo HY.out.2.r2 4 hZ
          simp only [fill9, St.zero, List.length_nil] at hZ
          have HZ := Lib.hid (And.intro hZ (And.intro hfa hr))
          clear hZ hfa hr hid
          go_wp2_with (go_at_call 40; (with_reducible refine (HWI.out _ _ _).mono ?_); rintro e w' ⟨rfl, rfl⟩)
          rw [HZ.out.1]
          refine bodyPost_ret (rstep_results _ Z _ St.zero _ _ 4 rfl rfl HZ.out.2.1.1) rfl ?_
          rw [HZ.out.2.2]
          exact HZ.out.2.1.2
        | true =>
          obtain ⟨bh0, bh1, bx, bhat, _, _⟩ := wI_at hb
          have HB := Lib.hid bhat
          clear bhat
          obtain ⟨hca, hfa⟩ := HY.out.2.om.cell lenM rfl m.a.toNat hi 0 (.bool x.act) (by rw [hx]; rfl)
          obtain ⟨hca1, hfa1⟩ := HY.out.2.om.cell lenM rfl m.a.toNat hi 1 (.int .i64 x.sent) (by rw [hx]; rfl)
          simp only [Nat.add_zero] at hca hfa
          have hmx := HK.out.mem x (by rw [← hx]; exact List.getElem_mem _)
          obtain ⟨hm1, hm2, _, _⟩ := hmx
          cases hact : x.act with
          | false =>
            rw [hact] at hca
            have hid : finR (sendF s m) = (St.zero, 11) := by unfold sendF; rw [hat]; simp [HB.out, hact, finR]
            clear hat hact
            have hr : stepF s m = (St.zero, 11) := by rw [HKK.out, hid]
            obtain ⟨Z, hZ⟩ : ∃ Z, fill9 Y (w.heap.size + 2) St.zero none 0 none 0 = Z := ⟨_, rfl⟩
            have hfa := rstep_fail HY.out.2.lo HY.out.2.r2 11 hZ
            simp only [fill9, St.zero, List.length_nil] at hZ
            have HZ := Lib.hid (And.intro hZ (And.intro hfa hr))
            clear hZ hr hid
            go_wp2_with (go_at_call 40; (with_reducible refine (HWI.out _ _ _).mono ?_); rintro e w' ⟨rfl, rfl⟩)
            rw [HZ.out.1]
            refine bodyPost_ret (rstep_results _ Z _ St.zero _ _ 11 rfl rfl HZ.out.2.1.1) rfl ?_
            rw [HZ.out.2.2]
            exact HZ.out.2.1.2
          | true =>
            rw [hact] at hca
            have hsf : sendF s m = (if decide (x.sent < 1000000) && decide ((s.fl.length : Int) < 100) then .ok { s.put m.a { x with sent := x.sent + 1 } with fl := s.fl ++ [m.b] } else .error 5) := by unfold sendF; rw [hat]; simp only [HB.out, hact]; rfl
            have HSF := Lib.hid hsf
            clear hsf
            by_cases hs1 : x.sent = 1000000
            · have c1 : (x.sent == 1000000) = true := by rw [beq_iff_eq]; exact hs1
              have hid : finR (sendF s m) = (St.zero, 5) := by rw [HSF.out, if_neg (by simp; omega)]; rfl
              clear hat hact hs1
              have hr : stepF s m = (St.zero, 5) := by rw [HKK.out, hid]
              obtain ⟨Z, hZ⟩ : ∃ Z, fill9 Y (w.heap.size + 2) St.zero none 0 none 0 = Z := ⟨_, rfl⟩
              have hfa := rstep_fail HY.out.2.lo HY.out.2.r2 5 hZ
              simp only [fill9, St.zero, List.length_nil] at hZ
              have HZ := Lib.hid (And.intro hZ (And.intro hfa hr))
              clear hZ hr hid
              go_wp2_with (go_at_call 40; (with_reducible refine (HWI.out _ _ _).mono ?_); rintro e w' ⟨rfl, rfl⟩)
              rw [HZ.out.1]
              refine bodyPost_ret (rstep_results _ Z _ St.zero _ _ 5 rfl rfl HZ.out.2.1.1) rfl ?_
              rw [HZ.out.2.2]
              exact HZ.out.2.1.2
            · have c1 : (x.sent == 1000000) = false := by rw [beq_eq_false_iff_ne]; exact hs1
              have hf100 := HK.out.fl
              by_cases hs2 : (s.fl.length : Int) = 100
              · have c2 : ((s.fl.length : Int) == 100) = true := by rw [beq_iff_eq]; exact hs2
                have hid : finR (sendF s m) = (St.zero, 5) := by rw [HSF.out, if_neg (by simp; omega)]; rfl
                clear hat hact hs1 hs2
                have hr : stepF s m = (St.zero, 5) := by rw [HKK.out, hid]
                obtain ⟨Z, hZ⟩ : ∃ Z, fill9 Y (w.heap.size + 2) St.zero none 0 none 0 = Z := ⟨_, rfl⟩
                have hfa := rstep_fail HY.out.2.lo HY.out.2.r2 5 hZ
                simp only [fill9, St.zero, List.length_nil] at hZ
                have HZ := Lib.hid (And.intro hZ (And.intro hfa hr))
                clear hZ hr hid
                go_wp2_with (go_at_call 40; (with_reducible refine (HWI.out _ _ _).mono ?_); rintro e w' ⟨rfl, rfl⟩)
                rw [HZ.out.1]
                refine bodyPost_ret (rstep_results _ Z _ St.zero _ _ 5 rfl rfl HZ.out.2.1.1) rfl ?_
                rw [HZ.out.2.2]
                exact HZ.out.2.1.2
              · have c2 : ((s.fl.length : Int) == 100) = false := by rw [beq_eq_false_iff_ne]; exact hs2
                obtain ⟨s2, hs2'⟩ : ∃ s2 : St, { s with ms := s.ms.set m.a.toNat { x with sent := x.sent + 1 } } = s2 := ⟨_, rfl⟩
                obtain ⟨fl2, hfl2⟩ : ∃ fl2, s2.fl ++ [m.b] = fl2 := ⟨_, rfl⟩
                have HF2 := Lib.hid hfl2
                have hr : stepF s m = ({ s2 with fl := fl2 }, 0) := by
                  rw [HKK.out, HSF.out, if_pos (by simp; omega), ← hfl2, ← hs2']; rfl
                clear hfl2
                have hmi := HY.out.2.setM m.a.toNat hi 1 (by omega) (.int .i64 (x.sent + 1)) { x with sent := x.sent + 1 } (by rw [hx]; rfl)
                have e1 : s2.ms.length = s.ms.length := by rw [← hs2']; simp
                have e2 : s2.fl = s.fl := by rw [← hs2']
                rw [hs2'] at hmi
                obtain ⟨Y2, hY2⟩ : ∃ Y2, Y.setCell ⟨g, m.a.toNat * 3 + 1, none⟩ (.int .i64 (x.sent + 1)) = Y2 := ⟨_, rfl⟩
                rw [hY2] at hmi
                obtain ⟨V, hV⟩ : ∃ V, Y2.alloc (.cells #[.int .i64 m.b] 3) = V := ⟨_, rfl⟩
                have hVb : Below Y2.heap.size Y2 V := by rw [← hV]; exact (Below.refl _ _).alloc (Nat.le_refl _) _
                have hVr : Rd encI 1 V (some ⟨Y2.heap.size, 0, none⟩) [m.b] := by rw [← hV]; exact rd_lit1 Y2 m.b 3 _ rfl
                have hmV := hmi.below hVb
                have H2 := Lib.hid (And.intro hY2 (And.intro hmi (And.intro hV (And.intro hmV (And.intro hVr (And.intro (show (s2.fl.length + 1) * 8 ≤ 140737488355328 by rw [e2]; omega) (show w.heap.size + 3 ≤ V.heap.size from hmV.sz)))))))
                have HE := Lib.hid (And.intro e1 e2)
                have HRr := Lib.hid hr
                clear hY2 hmi hr hs2' e1 e2 hat hx hact hV hVb hVr hmV hs1 hs2
                go_upto_region 16 with (go_at_call 40; (with_reducible refine (HWI.out _ _ _).mono ?_); rintro e w' ⟨rfl, rfl⟩)
                rw [H2.out.1]
                clear z0 z1 z2 z3 z4 z5 z6 z7 z8 p0 p1 p2 p3 p4 p5 p6 p7 p8 f0 f1 f2 f3 f4 f5 f6 f7 f8 m0 m2 hca hfa hca1 hfa1
                have z1 := (nineT H2.out.2.1.r0).2.1
                have m2 := cell_of_row _ _ 2 _ _ _ H2.out.2.1.r1
                simp at m2
                go_upto_region 34 with (at_builtin; go_loud (rw [H2.out.2.2.1]; refine wpList_append_typed lenI oneI V rfl (.tmp 75) (.tmp 78) 23 rfl (w.heap.size + 3) 3 (.int .i64 0) 8 Try.underlying23 info3 rfl (by decide) (by decide) (.slice FA s.fl.length Fc) s2.fl rfl H2.out.2.2.2.1.of ⟨Y2.heap.size, 0, none⟩ 1 1 [m.b] rfl rfl H2.out.2.2.2.2.1 H2.out.2.2.2.2.2.1 H2.out.2.2.2.2.2.2 ?_; intro v' w5 hown1 hgrow; replace hgrow : V.grownBy w5 (Value.slice FA s.fl.length Fc).ownBlock := hgrow; rw [HF2.out] at hown1; obtain ⟨FA2, Fc2, rfl, _, _, _⟩ := hown1.form lenI; have hrow5 := (hgrow.block w.heap.size (by have := H2.out.2.2.2.1.sz; omega) (fun e => by have := (H2.out.2.2.2.1.of.blk _ e.symm).1; omega)).trans H2.out.2.2.2.1.r0; have t1 := (nineT hrow5).2.1; have g1 := (nineFT hrow5).2.1; have HO := Lib.hid (And.intro hown1 hgrow); clear hown1 hgrow hrow5))
                have hmi3 := H2.out.2.2.2.1.setF HO.out.2 HO.out.1
                obtain ⟨Y3, hY3⟩ : ∃ Y3, w5.setCell ⟨w.heap.size, 1, none⟩ (.slice FA2 fl2.length Fc2) = Y3 := ⟨_, rfl⟩
                rw [hY3] at hmi3
                have H3 := Lib.hid (And.intro hY3 hmi3)
                clear hY3 hmi3 z1 m2 t1 g1
                rw [H3.out.1]
                skip
                obtain ⟨z0, z1, z2, z3, z4, z5, z6, z7, z8⟩ := nineT H3.out.2.r0
                obtain ⟨p0, p1, p2, p3, p4, p5, p6, p7, p8⟩ := nineT H3.out.2.r2
                obtain ⟨f0, f1, f2, f3, f4, f5, f6, f7, f8⟩ := nineFT H3.out.2.r2
                obtain ⟨Z, hZ⟩ : ∃ Z, fill9 Y3 (w.heap.size + 2) { s2 with fl := fl2 } (some ⟨g, 0, none⟩) cc FA2 Fc2 = Z := ⟨_, rfl⟩
                have hfa := rstep_done H3.out.2 hZ
                simp only [fill9] at hZ
                have HZ := Lib.hid (And.intro hZ hfa)
                clear hZ hfa
                go_wp2_with fail
                rw [HZ.out.1]
                refine bodyPost_ret (rstep_results _ Z _ _ _ _ 0 rfl rfl HZ.out.2.1) rfl ?_
                rw [HRr.out]
                exact HZ.out.2.2
    · have b1 : (m.k == 1) = false := by rw [beq_eq_false_iff_ne]; exact k1
      by_cases k2 : m.k = 2
      · have b2 : (m.k == 2) = true := by rw [beq_iff_eq]; exact k2
        have HKK := Lib.hid ((step_good (m := m) HK.out (by omega)).trans (by rw [moveF2 _ _ k2]))
        clear k1 k2
        cases ha : wI m.a ((s.ms.length : Int) - 1) with
        | false =>
          have hid : finR (idleF s m) = (St.zero, 4) := by unfold idleF; rw [wI_none ha]; rfl
          have hr : stepF s m = (St.zero, 4) := by rw [HKK.out, hid]
          obtain ⟨Z, hZ⟩ : ∃ Z, fill9 Y (w.heap.size + 2) St.zero none 0 none 0 = Z := ⟨_, rfl⟩
          have hfa := rstep_fail HY.out.2.lo HY.out.2.r2 4 hZ
          simp only [fill9, St.zero, List.length_nil] at hZ
          have HZ := Lib.hid (And.intro hZ (And.intro hfa hr))
          clear hZ hfa hr hid
          go_wp2_with (go_at_call 40; (with_reducible refine (HWI.out _ _ _).mono ?_); rintro e w' ⟨rfl, rfl⟩)
          rw [HZ.out.1]
          refine bodyPost_ret (rstep_results _ Z _ St.zero _ _ 4 rfl rfl HZ.out.2.1.1) rfl ?_
          rw [HZ.out.2.2]
          exact HZ.out.2.1.2
        | true =>
          obtain ⟨h0, h1, x, hat, hi, hx⟩ := wI_at ha
          obtain ⟨hca, hfa⟩ := HY.out.2.om.cell lenM rfl m.a.toNat hi 0 (.bool x.act) (by rw [hx]; rfl)
          simp only [Nat.add_zero] at hca hfa
          cases hact : x.act with
          | false =>
            rw [hact] at hca
            have hid : finR (idleF s m) = (St.zero, 11) := by unfold idleF; rw [hat]; simp [hact, finR]
            have HX := Lib.hid (And.intro hat (And.intro hx hact))
            clear hat hact
            have hr : stepF s m = (St.zero, 11) := by rw [HKK.out, hid]
            obtain ⟨Z, hZ⟩ : ∃ Z, fill9 Y (w.heap.size + 2) St.zero none 0 none 0 = Z := ⟨_, rfl⟩
            have hfa := rstep_fail HY.out.2.lo HY.out.2.r2 11 hZ
            simp only [fill9, St.zero, List.length_nil] at hZ
            have HZ := Lib.hid (And.intro hZ (And.intro hfa hr))
            clear hZ hr hid
            go_wp2_with (go_at_call 40; (with_reducible refine (HWI.out _ _ _).mono ?_); rintro e w' ⟨rfl, rfl⟩)
            rw [HZ.out.1]
            refine bodyPost_ret (rstep_results _ Z _ St.zero _ _ 11 rfl rfl HZ.out.2.1.1) rfl ?_
            rw [HZ.out.2.2]
            exact HZ.out.2.1.2
          | true =>
            rw [hact] at hca
            obtain ⟨s2, hs2⟩ : ∃ s2 : St, { s with ms := s.ms.set m.a.toNat { x with act := false } } = s2 := ⟨_, rfl⟩
            have hr : stepF s m = (s2, 0) := by
              rw [HKK.out]; unfold idleF; rw [hat, ← hs2]; simp only [hact, if_true, finR, St.put]
            have hmi := HY.out.2.setM m.a.toNat hi 0 (by omega) (.bool false) { x with act := false } (by rw [hx]; rfl)
            simp only [Nat.add_zero] at hmi
            have e1 : s2.ms.length = s.ms.length := by rw [← hs2]; simp
            have e2 : s2.fl.length = s.fl.length := by rw [← hs2]
            rw [hs2, ← e2] at hmi
            obtain ⟨Y2, hY2⟩ : ∃ Y2, Y.setCell ⟨g, m.a.toNat * 3, none⟩ (.bool false) = Y2 := ⟨_, rfl⟩
            rw [hY2] at hmi
            have H2 := Lib.hid (And.intro hY2 hmi)
            have HRr := Lib.hid hr
            clear hY2 hmi hr hs2 e1 e2 hat hx hact
            go_upto_region 34 with (go_at_call 40; (with_reducible refine (HWI.out _ _ _).mono ?_); rintro e w' ⟨rfl, rfl⟩)
            rw [H2.out.1]
            clear z0 z1 z2 z3 z4 z5 z6 z7 z8 p0 p1 p2 p3 p4 p5 p6 p7 p8 f0 f1 f2 f3 f4 f5 f6 f7 f8 hca hfa
            obtain ⟨z0, z1, z2, z3, z4, z5, z6, z7, z8⟩ := nineT H2.out.2.r0
            obtain ⟨p0, p1, p2, p3, p4, p5, p6, p7, p8⟩ := nineT H2.out.2.r2
            obtain ⟨f0, f1, f2, f3, f4, f5, f6, f7, f8⟩ := nineFT H2.out.2.r2
            obtain ⟨Z, hZ⟩ : ∃ Z, fill9 Y2 (w.heap.size + 2) s2 (some ⟨g, 0, none⟩) cc FA Fc = Z := ⟨_, rfl⟩
            have hfa := rstep_done H2.out.2 hZ
            simp only [fill9] at hZ
            have HZ := Lib.hid (And.intro hZ hfa)
            clear hZ hfa
            go_wp2_with fail
            rw [HZ.out.1]
            refine bodyPost_ret (rstep_results _ Z _ _ _ _ 0 rfl rfl HZ.out.2.1) rfl ?_
            rw [HRr.out]
            exact HZ.out.2.2
      · have b2 : (m.k == 2) = false := by rw [beq_eq_false_iff_ne]; exact k2
        by_cases k3 : m.k = 3
        · have b3 : (m.k == 3) = true := by rw [beq_iff_eq]; exact k3
          have HKK := Lib.hid ((step_good (m := m) HK.out (by omega)).trans (by rw [moveF3 _ _ k3]))
          clear k1 k2 k3
          have hfn := HK.out.fl
          cases ha : wI m.a ((s.fl.length : Int) - 1) with
          | false =>
            have hid : finR (arriveF s m) = (St.zero, 4) := by unfold arriveF; rw [if_neg (fun hh => by have := wI_false ha; omega)]; rfl
            have hr : stepF s m = (St.zero, 4) := by rw [HKK.out, hid]
            obtain ⟨Z, hZ⟩ : ∃ Z, fill9 Y (w.heap.size + 2) St.zero none 0 none 0 = Z := ⟨_, rfl⟩
            have hfa := rstep_fail HY.out.2.lo HY.out.2.r2 4 hZ
            simp only [fill9, St.zero, List.length_nil] at hZ
            have HZ := Lib.hid (And.intro hZ (And.intro hfa hr))
            clear hZ hfa hr hid
            go_wp2_with (go_at_call 40; (with_reducible refine (HWI.out _ _ _).mono ?_); rintro e w' ⟨rfl, rfl⟩)
            rw [HZ.out.1]
            refine bodyPost_ret (rstep_results _ Z _ St.zero _ _ 4 rfl rfl HZ.out.2.1.1) rfl ?_
            rw [HZ.out.2.2]
            exact HZ.out.2.1.2
          | true =>
            obtain ⟨i, hi⟩ : ∃ i : Nat, m.a = (i : Int) := ⟨m.a.toNat, by have := wI_true ha; omega⟩
            have hil : i < s.fl.length := by have := wI_true ha; omega
            obtain ⟨a, hFA, hqc⟩ := HY.out.2.rds.fl.int i hil
            obtain ⟨q, hq⟩ : ∃ q, s.fl[i] = q := ⟨_, rfl⟩
            have hqf := HK.out.flt q (by rw [← hq]; exact List.getElem_mem _)
            obtain ⟨hq0, hq1⟩ := hqf
            have hqi : q.toNat < s.ms.length := by omega
            obtain ⟨x, hx⟩ : ∃ x, s.ms[q.toNat] = x := ⟨_, rfl⟩
            have hgd : s.fl.getD m.a.toNat 0 = q := by rw [hi, Int.toNat_natCast, List.getD_eq_getElem?_getD, List.getElem?_eq_getElem hil, hq]; rfl
            have hat : s.at q = some x := by unfold St.at; rw [if_pos hq0, List.getElem?_eq_getElem hqi, hx]
            have haf : arriveF s m = (if x.recv < 1000000 then .ok { s.put q { x with recv := x.recv + 1, act := true } with fl := s.fl.eraseIdx i } else .error 5) := by
              unfold arriveF; rw [if_pos ⟨by omega, by omega⟩, hgd]; simp only [hat]; rw [hi, Int.toNat_natCast]
            obtain ⟨hca, hfa⟩ := HY.out.2.om.cell lenM rfl q.toNat hqi 0 (.bool x.act) (by rw [hx]; rfl)
            obtain ⟨hca1, hfa1⟩ := HY.out.2.om.cell lenM rfl q.toNat hqi 2 (.int .i64 x.recv) (by rw [hx]; rfl)
            simp only [Nat.add_zero] at hca hfa
            have hmx := HK.out.mem x (by rw [← hx]; exact List.getElem_mem _)
            obtain ⟨_, _, hm3, hm4⟩ := hmx
            rw [hq] at hqc
            subst hFA
            rw [hi] at m1 ha
            have HXX := Lib.hid (And.intro hi (And.intro hq (And.intro hx (And.intro hat haf))))
            clear hi hq hx hat haf hgd
            by_cases hs1 : x.recv = 1000000
            · have c1 : (x.recv == 1000000) = true := by rw [beq_iff_eq]; exact hs1
              have hid : finR (arriveF s m) = (St.zero, 5) := by rw [HXX.out.2.2.2.2, if_neg (by omega)]; rfl
              clear hs1
              have hr : stepF s m = (St.zero, 5) := by rw [HKK.out, hid]
              obtain ⟨Z, hZ⟩ : ∃ Z, fill9 Y (w.heap.size + 2) St.zero none 0 none 0 = Z := ⟨_, rfl⟩
              have hfa := rstep_fail HY.out.2.lo HY.out.2.r2 5 hZ
              simp only [fill9, St.zero, List.length_nil] at hZ
              have HZ := Lib.hid (And.intro hZ (And.intro hfa hr))
              clear hZ hr hid
              go_wp2_with (go_at_call 40; (with_reducible refine (HWI.out _ _ _).mono ?_); rintro e w' ⟨rfl, rfl⟩)
              rw [HZ.out.1]
              refine bodyPost_ret (rstep_results _ Z _ St.zero _ _ 5 rfl rfl HZ.out.2.1.1) rfl ?_
              rw [HZ.out.2.2]
              exact HZ.out.2.1.2
            · have c1 : (x.recv == 1000000) = false := by rw [beq_eq_false_iff_ne]; exact hs1
              obtain ⟨V, hV⟩ : ∃ V, (Y.alloc (.cells #[] 3)).drew = V := ⟨_, rfl⟩
              have hVb : Below Y.heap.size Y V := by rw [← hV]; exact ((Below.refl _ _).alloc (Nat.le_refl _) _).drew
              have hV0 : Own encI 1 3 V (w.heap.size + 3) (.slice (some ⟨Y.heap.size, 0, none⟩) 0 0) [] := by rw [← hV]; exact own_rest (Own.empty _ _ _ _ _ HY.out.2.sz) ((Below.refl _ _).drew)
              have hmV := HY.out.2.below hVb
              have hcap : s.fl.length ≤ Fc := by
                obtain ⟨A9, c9, hv, hle, _, _⟩ := HY.out.2.of.form lenI
                obtain ⟨_, _, rfl⟩ := Value.slice.inj hv
                exact hle
              have hid : stepF s m = ({ s.put q { x with recv := x.recv + 1, act := true } with fl := s.fl.eraseIdx i }, 0) := by rw [HKK.out, HXX.out.2.2.2.2, if_pos (by omega)]; rfl
              have HRr := Lib.hid hid
              have HV := Lib.hid (And.intro hV (And.intro hVb (And.intro hV0 hmV)))
              clear hV hVb hV0 hmV hid hs1
              go_upto_region 27 with (go_at_call 40; (with_reducible refine (HWI.out _ _ _).mono ?_); rintro e w' ⟨rfl, rfl⟩)
              go_cut [128] (fun s128 wx => s128 = .bool false ∧ Y = wx)
              case first =>
                go_wp2_with fail
                go_meet
                exact ⟨rfl, rfl⟩
              case rest =>
              obtain ⟨rfl, rfl⟩ := hcut
              go_upto_region 29 with fail
              have r0V := HY.out.2.r0
              have zA1 : (Y.alloc (.cells #[] 3)).cell? ⟨w.heap.size, 1, none⟩ = some (.slice (some a) s.fl.length Fc) := by
                have := (nineT HV.out.2.2.2.r0).2.1
                rw [← HV.out.1] at this; exact this
              have mA1 : (Y.alloc (.cells #[] 3)).cell? ⟨w.heap.size + 1, 1, none⟩ = some (.int .i64 i) := by
                have := cell_of_row _ _ 1 _ _ _ HV.out.2.2.2.r1
                rw [← HV.out.1] at this
                simp at this
                rw [← HXX.out.1]; exact this
              have k1 : IntKind.i64.wrap ((i : Int) + 1) = (i : Int) + 1 := by rw [IntKind.wrap_i64]; omega
              have k2 : (i : Int) ≤ (Fc : Int) := by omega
              have k3 : (0 : Int) ≤ (i : Int) + 1 := by omega
              have k4 : ((i : Int) + 1).toNat = i + 1 := by omega
              have k5 : (i : Int) + 1 ≤ (s.fl.length : Int) := by omega
              have k6 : i + 1 ≤ s.fl.length := by omega
              have k7 : i ≤ Fc := by omega
              clear r0V
              obtain ⟨fl2, hfl2⟩ : ∃ fl2, s.fl.eraseIdx i = fl2 := ⟨_, rfl⟩
              have hE := hfl2
              rw [List.eraseIdx_eq_take_drop_succ] at hE
              have hlen2 : fl2.length + 1 = s.fl.length := by rw [← hfl2, List.length_eraseIdx, if_pos hil]; omega
              have HF2 := Lib.hid (And.intro hfl2 (And.intro hE hlen2))
              have hE0 : Own encI 1 3 V Y.heap.size (.slice (some ⟨Y.heap.size, 0, none⟩) 0 0) [] := by rw [← HV.out.1]; exact own_rest (Own.empty _ _ _ _ _ (Nat.le_refl _)) ((Below.refl _ _).drew)
              have hrdV : Rd encI 1 V (some a) s.fl := HY.out.2.rds.fl.below HV.out.2.1
              have hgY : g < Y.heap.size := (HY.out.2.om.blk g rfl).2.1
              have haY : a.block < Y.heap.size := (HY.out.2.of.blk a.block rfl).2.1
              have HE0 := Lib.hid (And.intro hE0 (And.intro hrdV (And.intro hgY (And.intro haY (show Y.heap.size ≤ V.heap.size from HV.out.2.1.size)))))
              clear hfl2 hE hlen2 hE0 hrdV hgY haY
              go_cut [144] (fun s144 wx => ∃ FA2 Fc2, MI w m { s with fl := fl2 } g cc (.slice FA2 fl2.length Fc2) wx)
              case first =>
                clear z0 z2 z3 z4 z5 z6 z7 z8 p0 p1 p2 p3 p4 p5 p6 p7 p8 f0 f1 f2 f3 f4 f5 f6 f7 f8 m0 m2 hca hfa hca1 hfa1 b1 b2 b3 c1 hqc ha hq0 hq1 hm3 hm4 hn0 hn1 hkc
                have hd1 : (s.fl.take i).length = i := by simp; omega
                have hd2 : (s.fl.drop (i + 1)).length = s.fl.length - (i + 1) := by simp
                have hd3 : i + (s.fl.length - (i + 1)) = fl2.length := by have := HF2.out.2.2; omega
                have HD := Lib.hid (And.intro hd1 (And.intro hd2 (And.intro (show (0 + i) * 8 ≤ 140737488355328 by omega) (And.intro (show (i + (s.fl.length - (i + 1))) * 8 ≤ 140737488355328 by omega) hd3))))
                clear hd1 hd2 hd3
                by_cases hFc : Fc = i + 1
                · have k8 : (Fc = i + 1) = True := by simp [hFc]
                  have HFC := Lib.hid (And.intro hFc (And.intro hil hcap))
                  clear hFc
                  refine wp_region_held_drew (S := (fun w' => w'.cell? ⟨w.heap.size + 1, 1, none⟩ = some (.int .i64 (i : Int)))) (by kernel_rfl) ?_ (fun hHelda0 => ?_)
                  · (try dsimp only); (first | exact m1 | exact mA1 | exact n1 | exact n2 | go_keep)
                  refine wpAnyH_take (i := 1) (oi := _) (v := ?av1) rfl (by kernel_rfl) (by kernel_rfl) (by kernel_rfl) (fun _ _ _ h => h) (Or.inl ⟨by rfl, ?ahy1⟩) (by assumption) ?arest1
                  case ahy1 => (intro w hSw; (try dsimp only at hSw); go_simp; all_goals with_reducible rfl)
                  try simp only [Act.put, List.getElem_toArray, List.getElem_cons_zero, List.getElem_cons_succ, List.setIfInBounds_toArray, List.set_cons_zero, List.set_cons_succ]
                  refine wpAnyH_take (i := 3) (oi := _) (v := ?av2) rfl (by kernel_rfl) (by kernel_rfl) (by kernel_rfl) (fun _ _ _ h => h) (Or.inl ⟨by rfl, ?ahy2⟩) (by assumption) ?arest2
                  case ahy2 => (intro w hSw; (try dsimp only at hSw); go_simp; all_goals with_reducible rfl)
                  try simp only [Act.put, List.getElem_toArray, List.getElem_cons_zero, List.getElem_cons_succ, List.setIfInBounds_toArray, List.set_cons_zero, List.set_cons_succ]
                  refine wpAnyH_take (i := 4) (oi := _) (v := ?av3) rfl (by kernel_rfl) (by kernel_rfl) (by kernel_rfl) (fun _ _ _ h => h) (Or.inl ⟨by rfl, ?ahy3⟩) (by assumption) ?arest3
                  case ahy3 => (intro w hSw; (try dsimp only at hSw); go_simp; all_goals with_reducible rfl)
                  try simp only [Act.put, List.getElem_toArray, List.getElem_cons_zero, List.getElem_cons_succ, List.setIfInBounds_toArray, List.set_cons_zero, List.set_cons_succ]
                  refine wpAnyH_take (i := 7) (oi := _) (v := ?av4) rfl (by kernel_rfl) (by kernel_rfl) (by kernel_rfl) (fun _ _ _ h => h) (Or.inl ⟨by rfl, ?ahy4⟩) (by assumption) ?arest4
                  case ahy4 => (intro w hSw; (try dsimp only at hSw); go_simp; all_goals with_reducible rfl)
                  try simp only [Act.put, List.getElem_toArray, List.getElem_cons_zero, List.getElem_cons_succ, List.setIfInBounds_toArray, List.set_cons_zero, List.set_cons_succ]
                  refine wpAnyH_take (i := 9) (oi := _) (v := ?av5) rfl (by kernel_rfl) (by kernel_rfl) (by kernel_rfl) (fun _ _ _ h => h) (Or.inl ⟨by rfl, ?ahy5⟩) (by assumption) ?arest5
                  case ahy5 => (intro w hSw; (try dsimp only at hSw); go_simp; all_goals with_reducible rfl)
                  try simp only [Act.put, List.getElem_toArray, List.getElem_cons_zero, List.getElem_cons_succ, List.setIfInBounds_toArray, List.set_cons_zero, List.set_cons_succ]
                  refine wpAnyH_take (i := 10) (oi := _) (v := ?av6) rfl (by kernel_rfl) (by kernel_rfl) (by kernel_rfl) (fun _ _ _ h => h) (Or.inl ⟨by rfl, ?ahy6⟩) (by assumption) ?arest6
                  case ahy6 => (intro w hSw; (try dsimp only at hSw); go_simp; all_goals with_reducible rfl)
                  try simp only [Act.put, List.getElem_toArray, List.getElem_cons_zero, List.getElem_cons_succ, List.setIfInBounds_toArray, List.set_cons_zero, List.set_cons_succ]
                  refine wpAnyH_take (i := 11) (oi := _) (v := ?av7) rfl (by kernel_rfl) (by kernel_rfl) (by kernel_rfl) (fun _ _ _ h => h) (Or.inl ⟨by rfl, ?ahy7⟩) (by assumption) ?arest7
                  case ahy7 => (intro w hSw; (try dsimp only at hSw); go_simp; all_goals with_reducible rfl)
                  try simp only [Act.put, List.getElem_toArray, List.getElem_cons_zero, List.getElem_cons_succ, List.setIfInBounds_toArray, List.set_cons_zero, List.set_cons_succ]
                  refine wpAnyH_ready (rs := [0, 2, 8]) (by kernel_rfl) (by simp) ?_
                  refine AllReadyH.cons (o := _) rfl (fun K hK => ?_) ?_
                  · go_simp
                    try go_wp2_with fail
                    refine hK.out _ _ ?_ (fun hHelda8 => ?_)
                    · (try dsimp only); (first | exact m1 | exact mA1 | exact n1 | exact n2 | go_keep)
                    clear hK K hHelda0
                    try simp only [Act.put, List.getElem_toArray, List.getElem_cons_zero, List.getElem_cons_succ, List.setIfInBounds_toArray, List.set_cons_zero, List.set_cons_succ]
                    refine wpAnyH_ready (rs := [2, 8]) (by kernel_rfl) (by simp) ?_
                    refine AllReadyH.cons (o := _) rfl (fun K hK => ?_) ?_
                    · go_simp
                      try go_wp2_with fail
                      refine hK.out _ _ ?_ (fun hHelda9 => ?_)
                      · (try dsimp only); (first | exact m1 | exact mA1 | exact n1 | exact n2 | go_keep)
                      clear hK K hHelda8
                      try simp only [Act.put, List.getElem_toArray, List.getElem_cons_zero, List.getElem_cons_succ, List.setIfInBounds_toArray, List.set_cons_zero, List.set_cons_succ]
                      refine wpAnyH_take (i := 5) (oi := _) (v := ?av10) rfl (by kernel_rfl) (by kernel_rfl) (by kernel_rfl) (fun _ _ _ h => h) (Or.inl ⟨by rfl, ?ahy10⟩) (by assumption) ?arest10
                      case ahy10 => (intro w hSw; (try dsimp only at hSw); go_simp; all_goals with_reducible rfl)
                      try simp only [Act.put, List.getElem_toArray, List.getElem_cons_zero, List.getElem_cons_succ, List.setIfInBounds_toArray, List.set_cons_zero, List.set_cons_succ]
                      refine wpAnyH_ready (rs := [6, 8]) (by kernel_rfl) (by simp) ?_
                      refine AllReadyH.cons (o := _) rfl (fun K hK => ?_) ?_
                      · (first | ((rw [HV.out.1]; refine step_append_any lenI oneI rfl (.tmp 130) (.tmp 135) 23 rfl Y.heap.size 3 (.int .i64 0) 8 Try.underlying23 info3 rfl (by decide) (by decide) Y.heap.size 0 0 [] rfl (by simp [Act.eval, Act.put]) HE0.out.1 a i Fc (s.fl.take i) (by simp [Act.eval, Act.put]) HD.out.1 (rd_take HE0.out.2.1 i) HD.out.2.2.1 HE0.out.2.2.2.2 ?_; simp only [Nat.zero_add, List.nil_append]; intro g2 cap2 w5 hown1 hg1; have hm5 : MI w m s g cc (.slice (some a) s.fl.length Fc) w5 := HV.out.2.2.2.far HE0.out.2.2.1 HE0.out.2.2.2.1 HY.out.2.sz (Nat.le_refl _) hg1; have x1 := (nineT hm5.r0).2.1; have n1 := cell_of_row _ _ 1 _ _ _ hm5.r1; simp at n1; rw [HXX.out.1] at n1; have H5 := Lib.hid (And.intro hown1 (And.intro hm5 hg1.size)); clear hown1 hg1 hm5)) | ((refine step_append_any lenI oneI rfl (.tmp 136) (.tmp 142) 23 rfl Y.heap.size 3 (.int .i64 0) 8 Try.underlying23 info3 rfl (by decide) (by decide) g2 i cap2 (s.fl.take i) HD.out.1 (by simp [Act.eval, Act.put]) H5.out.1 a (s.fl.length - (i + 1)) (Fc - (i + 1)) (s.fl.drop (i + 1)) (by simp [Act.eval, Act.put]) HD.out.2.1 (by have h9 := HFC.out; rw [List.drop_eq_nil_of_le (by omega)]; exact Rd.nil _ _ _ _) HD.out.2.2.2.1 (Nat.le_trans HE0.out.2.2.2.2 H5.out.2.2) ?_; rw [HD.out.2.2.2.2, HF2.out.2.1]; intro g3 cap3 w6 hown2 hg2; have hm6 : MI w m s g cc (.slice (some a) s.fl.length Fc) w6 := H5.out.2.1.far HE0.out.2.2.1 HE0.out.2.2.2.1 HY.out.2.sz (H5.out.1.blk _ rfl).1 hg2; have x2 := (nineT hm6.r0).2.1; have y2 := (nineFT hm6.r0).2.1; have n2 := cell_of_row _ _ 1 _ _ _ hm6.r1; simp at n2; rw [HXX.out.1] at n2; have H6 := Lib.hid (And.intro hown2 hm6); clear hown2 hg2 hm6)))
                        refine hK.out _ _ ?_ (fun hHelda11 => ?_)
                        · (try dsimp only); (first | exact m1 | exact mA1 | exact n1 | exact n2 | go_keep)
                        clear hK K hHelda9
                        try simp only [Act.put, List.getElem_toArray, List.getElem_cons_zero, List.getElem_cons_succ, List.setIfInBounds_toArray, List.set_cons_zero, List.set_cons_succ]
                        refine wpAnyH_ready (rs := [8]) (by kernel_rfl) (by simp) ?_
                        refine AllReadyH.cons (o := _) rfl (fun K hK => ?_) ?_
                        · go_simp
                          try go_wp2_with fail
                          refine hK.out _ _ ?_ (fun hHelda12 => ?_)
                          · (try dsimp only); (first | exact m1 | exact mA1 | exact n1 | exact n2 | go_keep)
                          clear hK K hHelda11
                          try simp only [Act.put, List.getElem_toArray, List.getElem_cons_zero, List.getElem_cons_succ, List.setIfInBounds_toArray, List.set_cons_zero, List.set_cons_succ]
                          refine wpAnyH_take (i := 12) (oi := _) (v := ?av13) rfl (by kernel_rfl) (by kernel_rfl) (by kernel_rfl) (fun _ _ _ h => h) (Or.inl ⟨by rfl, ?ahy13⟩) (by assumption) ?arest13
                          case ahy13 => (intro w hSw; (try dsimp only at hSw); go_simp; all_goals with_reducible rfl)
                          try simp only [Act.put, List.getElem_toArray, List.getElem_cons_zero, List.getElem_cons_succ, List.setIfInBounds_toArray, List.set_cons_zero, List.set_cons_succ]
                          refine wpAnyH_ready (rs := [13]) (by kernel_rfl) (by simp) ?_
                          refine AllReadyH.cons (o := _) rfl (fun K hK => ?_) ?_
                          · (first | ((rw [HV.out.1]; refine step_append_any lenI oneI rfl (.tmp 130) (.tmp 135) 23 rfl Y.heap.size 3 (.int .i64 0) 8 Try.underlying23 info3 rfl (by decide) (by decide) Y.heap.size 0 0 [] rfl (by simp [Act.eval, Act.put]) HE0.out.1 a i Fc (s.fl.take i) (by simp [Act.eval, Act.put]) HD.out.1 (rd_take HE0.out.2.1 i) HD.out.2.2.1 HE0.out.2.2.2.2 ?_; simp only [Nat.zero_add, List.nil_append]; intro g2 cap2 w5 hown1 hg1; have hm5 : MI w m s g cc (.slice (some a) s.fl.length Fc) w5 := HV.out.2.2.2.far HE0.out.2.2.1 HE0.out.2.2.2.1 HY.out.2.sz (Nat.le_refl _) hg1; have x1 := (nineT hm5.r0).2.1; have n1 := cell_of_row _ _ 1 _ _ _ hm5.r1; simp at n1; rw [HXX.out.1] at n1; have H5 := Lib.hid (And.intro hown1 (And.intro hm5 hg1.size)); clear hown1 hg1 hm5)) | ((refine step_append_any lenI oneI rfl (.tmp 136) (.tmp 142) 23 rfl Y.heap.size 3 (.int .i64 0) 8 Try.underlying23 info3 rfl (by decide) (by decide) g2 i cap2 (s.fl.take i) HD.out.1 (by simp [Act.eval, Act.put]) H5.out.1 a (s.fl.length - (i + 1)) (Fc - (i + 1)) (s.fl.drop (i + 1)) (by simp [Act.eval, Act.put]) HD.out.2.1 (by have h9 := HFC.out; rw [List.drop_eq_nil_of_le (by omega)]; exact Rd.nil _ _ _ _) HD.out.2.2.2.1 (Nat.le_trans HE0.out.2.2.2.2 H5.out.2.2) ?_; rw [HD.out.2.2.2.2, HF2.out.2.1]; intro g3 cap3 w6 hown2 hg2; have hm6 : MI w m s g cc (.slice (some a) s.fl.length Fc) w6 := H5.out.2.1.far HE0.out.2.2.1 HE0.out.2.2.2.1 HY.out.2.sz (H5.out.1.blk _ rfl).1 hg2; have x2 := (nineT hm6.r0).2.1; have y2 := (nineFT hm6.r0).2.1; have n2 := cell_of_row _ _ 1 _ _ _ hm6.r1; simp at n2; rw [HXX.out.1] at n2; have H6 := Lib.hid (And.intro hown2 hm6); clear hown2 hg2 hm6)))
                            refine hK.out _ _ ?_ (fun hHelda14 => ?_)
                            · (try dsimp only); (first | exact m1 | exact mA1 | exact n1 | exact n2 | go_keep)
                            clear hK K hHelda12
                            try simp only [Act.put, List.getElem_toArray, List.getElem_cons_zero, List.getElem_cons_succ, List.setIfInBounds_toArray, List.set_cons_zero, List.set_cons_succ]
                            refine wpAnyH_take (i := 14) (oi := _) (v := ?av15) rfl (by kernel_rfl) (by kernel_rfl) (by kernel_rfl) (fun _ _ _ h => h) (Or.inl ⟨by rfl, ?ahy15⟩) (by assumption) ?arest15
                            case ahy15 => (intro w hSw; (try dsimp only at hSw); go_simp; all_goals with_reducible rfl)
                            try simp only [Act.put, List.getElem_toArray, List.getElem_cons_zero, List.getElem_cons_succ, List.setIfInBounds_toArray, List.set_cons_zero, List.set_cons_succ]
                            refine wpAnyH_ready (rs := [15]) (by kernel_rfl) (by simp) ?_
                            refine AllReadyH.cons (o := _) rfl (fun K hK => ?_) ?_
                            · go_simp
                              try go_wp2_with fail
                              refine hK.out _ _ ?_ (fun hHelda16 => ?_)
                              · (try dsimp only); (first | exact m1 | exact mA1 | exact n1 | exact n2 | go_keep)
                              clear hK K hHelda14
                              try simp only [Act.put, List.getElem_toArray, List.getElem_cons_zero, List.getElem_cons_succ, List.setIfInBounds_toArray, List.set_cons_zero, List.set_cons_succ]
                              refine wpAnyH_done (by kernel_rfl) ?_ _
                              go_wp2_with fail
                              go_meet
                              exact ⟨some ⟨g3, 0, none⟩, cap3, H6.out.2.setF2 H6.out.1 HY.out.2.sz⟩
                            exact AllReadyH.nil
                          exact AllReadyH.nil
                        exact AllReadyH.nil
                      refine AllReadyH.cons (o := _) rfl (fun K hK => ?_) ?_
                      · go_simp
                        try go_wp2_with fail
                        refine hK.out _ _ ?_ (fun hHelda17 => ?_)
                        · (try dsimp only); (first | exact m1 | exact mA1 | exact n1 | exact n2 | go_keep)
                        clear hK K hHelda9
                        try simp only [Act.put, List.getElem_toArray, List.getElem_cons_zero, List.getElem_cons_succ, List.setIfInBounds_toArray, List.set_cons_zero, List.set_cons_succ]
                        refine wpAnyH_take (i := 12) (oi := _) (v := ?av18) rfl (by kernel_rfl) (by kernel_rfl) (by kernel_rfl) (fun _ _ _ h => h) (Or.inl ⟨by rfl, ?ahy18⟩) (by assumption) ?arest18
                        case ahy18 => (intro w hSw; (try dsimp only at hSw); go_simp; all_goals with_reducible rfl)
                        try simp only [Act.put, List.getElem_toArray, List.getElem_cons_zero, List.getElem_cons_succ, List.setIfInBounds_toArray, List.set_cons_zero, List.set_cons_succ]
                        refine wpAnyH_ready (rs := [6]) (by kernel_rfl) (by simp) ?_
                        refine AllReadyH.cons (o := _) rfl (fun K hK => ?_) ?_
                        · (first | ((rw [HV.out.1]; refine step_append_any lenI oneI rfl (.tmp 130) (.tmp 135) 23 rfl Y.heap.size 3 (.int .i64 0) 8 Try.underlying23 info3 rfl (by decide) (by decide) Y.heap.size 0 0 [] rfl (by simp [Act.eval, Act.put]) HE0.out.1 a i Fc (s.fl.take i) (by simp [Act.eval, Act.put]) HD.out.1 (rd_take HE0.out.2.1 i) HD.out.2.2.1 HE0.out.2.2.2.2 ?_; simp only [Nat.zero_add, List.nil_append]; intro g2 cap2 w5 hown1 hg1; have hm5 : MI w m s g cc (.slice (some a) s.fl.length Fc) w5 := HV.out.2.2.2.far HE0.out.2.2.1 HE0.out.2.2.2.1 HY.out.2.sz (Nat.le_refl _) hg1; have x1 := (nineT hm5.r0).2.1; have n1 := cell_of_row _ _ 1 _ _ _ hm5.r1; simp at n1; rw [HXX.out.1] at n1; have H5 := Lib.hid (And.intro hown1 (And.intro hm5 hg1.size)); clear hown1 hg1 hm5)) | ((refine step_append_any lenI oneI rfl (.tmp 136) (.tmp 142) 23 rfl Y.heap.size 3 (.int .i64 0) 8 Try.underlying23 info3 rfl (by decide) (by decide) g2 i cap2 (s.fl.take i) HD.out.1 (by simp [Act.eval, Act.put]) H5.out.1 a (s.fl.length - (i + 1)) (Fc - (i + 1)) (s.fl.drop (i + 1)) (by simp [Act.eval, Act.put]) HD.out.2.1 (by have h9 := HFC.out; rw [List.drop_eq_nil_of_le (by omega)]; exact Rd.nil _ _ _ _) HD.out.2.2.2.1 (Nat.le_trans HE0.out.2.2.2.2 H5.out.2.2) ?_; rw [HD.out.2.2.2.2, HF2.out.2.1]; intro g3 cap3 w6 hown2 hg2; have hm6 : MI w m s g cc (.slice (some a) s.fl.length Fc) w6 := H5.out.2.1.far HE0.out.2.2.1 HE0.out.2.2.2.1 HY.out.2.sz (H5.out.1.blk _ rfl).1 hg2; have x2 := (nineT hm6.r0).2.1; have y2 := (nineFT hm6.r0).2.1; have n2 := cell_of_row _ _ 1 _ _ _ hm6.r1; simp at n2; rw [HXX.out.1] at n2; have H6 := Lib.hid (And.intro hown2 hm6); clear hown2 hg2 hm6)))
                          refine hK.out _ _ ?_ (fun hHelda19 => ?_)
                          · (try dsimp only); (first | exact m1 | exact mA1 | exact n1 | exact n2 | go_keep)
                          clear hK K hHelda17
                          try simp only [Act.put, List.getElem_toArray, List.getElem_cons_zero, List.getElem_cons_succ, List.setIfInBounds_toArray, List.set_cons_zero, List.set_cons_succ]
                          refine wpAnyH_ready (rs := [13]) (by kernel_rfl) (by simp) ?_
                          refine AllReadyH.cons (o := _) rfl (fun K hK => ?_) ?_
                          · (first | ((rw [HV.out.1]; refine step_append_any lenI oneI rfl (.tmp 130) (.tmp 135) 23 rfl Y.heap.size 3 (.int .i64 0) 8 Try.underlying23 info3 rfl (by decide) (by decide) Y.heap.size 0 0 [] rfl (by simp [Act.eval, Act.put]) HE0.out.1 a i Fc (s.fl.take i) (by simp [Act.eval, Act.put]) HD.out.1 (rd_take HE0.out.2.1 i) HD.out.2.2.1 HE0.out.2.2.2.2 ?_; simp only [Nat.zero_add, List.nil_append]; intro g2 cap2 w5 hown1 hg1; have hm5 : MI w m s g cc (.slice (some a) s.fl.length Fc) w5 := HV.out.2.2.2.far HE0.out.2.2.1 HE0.out.2.2.2.1 HY.out.2.sz (Nat.le_refl _) hg1; have x1 := (nineT hm5.r0).2.1; have n1 := cell_of_row _ _ 1 _ _ _ hm5.r1; simp at n1; rw [HXX.out.1] at n1; have H5 := Lib.hid (And.intro hown1 (And.intro hm5 hg1.size)); clear hown1 hg1 hm5)) | ((refine step_append_any lenI oneI rfl (.tmp 136) (.tmp 142) 23 rfl Y.heap.size 3 (.int .i64 0) 8 Try.underlying23 info3 rfl (by decide) (by decide) g2 i cap2 (s.fl.take i) HD.out.1 (by simp [Act.eval, Act.put]) H5.out.1 a (s.fl.length - (i + 1)) (Fc - (i + 1)) (s.fl.drop (i + 1)) (by simp [Act.eval, Act.put]) HD.out.2.1 (by have h9 := HFC.out; rw [List.drop_eq_nil_of_le (by omega)]; exact Rd.nil _ _ _ _) HD.out.2.2.2.1 (Nat.le_trans HE0.out.2.2.2.2 H5.out.2.2) ?_; rw [HD.out.2.2.2.2, HF2.out.2.1]; intro g3 cap3 w6 hown2 hg2; have hm6 : MI w m s g cc (.slice (some a) s.fl.length Fc) w6 := H5.out.2.1.far HE0.out.2.2.1 HE0.out.2.2.2.1 HY.out.2.sz (H5.out.1.blk _ rfl).1 hg2; have x2 := (nineT hm6.r0).2.1; have y2 := (nineFT hm6.r0).2.1; have n2 := cell_of_row _ _ 1 _ _ _ hm6.r1; simp at n2; rw [HXX.out.1] at n2; have H6 := Lib.hid (And.intro hown2 hm6); clear hown2 hg2 hm6)))
                            refine hK.out _ _ ?_ (fun hHelda20 => ?_)
                            · (try dsimp only); (first | exact m1 | exact mA1 | exact n1 | exact n2 | go_keep)
                            clear hK K hHelda19
                            try simp only [Act.put, List.getElem_toArray, List.getElem_cons_zero, List.getElem_cons_succ, List.setIfInBounds_toArray, List.set_cons_zero, List.set_cons_succ]
                            refine wpAnyH_take (i := 14) (oi := _) (v := ?av21) rfl (by kernel_rfl) (by kernel_rfl) (by kernel_rfl) (fun _ _ _ h => h) (Or.inl ⟨by rfl, ?ahy21⟩) (by assumption) ?arest21
                            case ahy21 => (intro w hSw; (try dsimp only at hSw); go_simp; all_goals with_reducible rfl)
                            try simp only [Act.put, List.getElem_toArray, List.getElem_cons_zero, List.getElem_cons_succ, List.setIfInBounds_toArray, List.set_cons_zero, List.set_cons_succ]
                            refine wpAnyH_ready (rs := [15]) (by kernel_rfl) (by simp) ?_
                            refine AllReadyH.cons (o := _) rfl (fun K hK => ?_) ?_
                            · go_simp
                              try go_wp2_with fail
                              refine hK.out _ _ ?_ (fun hHelda22 => ?_)
                              · (try dsimp only); (first | exact m1 | exact mA1 | exact n1 | exact n2 | go_keep)
                              clear hK K hHelda20
                              try simp only [Act.put, List.getElem_toArray, List.getElem_cons_zero, List.getElem_cons_succ, List.setIfInBounds_toArray, List.set_cons_zero, List.set_cons_succ]
                              refine wpAnyH_done (by kernel_rfl) ?_ _
                              go_wp2_with fail
                              go_meet
                              exact ⟨some ⟨g3, 0, none⟩, cap3, H6.out.2.setF2 H6.out.1 HY.out.2.sz⟩
                            exact AllReadyH.nil
                          exact AllReadyH.nil
                        exact AllReadyH.nil
                      exact AllReadyH.nil
                    refine AllReadyH.cons (o := _) rfl (fun K hK => ?_) ?_
                    · go_simp
                      try go_wp2_with fail
                      refine hK.out _ _ ?_ (fun hHelda23 => ?_)
                      · (try dsimp only); (first | exact m1 | exact mA1 | exact n1 | exact n2 | go_keep)
                      clear hK K hHelda8
                      try simp only [Act.put, List.getElem_toArray, List.getElem_cons_zero, List.getElem_cons_succ, List.setIfInBounds_toArray, List.set_cons_zero, List.set_cons_succ]
                      refine wpAnyH_take (i := 12) (oi := _) (v := ?av24) rfl (by kernel_rfl) (by kernel_rfl) (by kernel_rfl) (fun _ _ _ h => h) (Or.inl ⟨by rfl, ?ahy24⟩) (by assumption) ?arest24
                      case ahy24 => (intro w hSw; (try dsimp only at hSw); go_simp; all_goals with_reducible rfl)
                      try simp only [Act.put, List.getElem_toArray, List.getElem_cons_zero, List.getElem_cons_succ, List.setIfInBounds_toArray, List.set_cons_zero, List.set_cons_succ]
                      refine wpAnyH_ready (rs := [2]) (by kernel_rfl) (by simp) ?_
                      refine AllReadyH.cons (o := _) rfl (fun K hK => ?_) ?_
                      · go_simp
                        try go_wp2_with fail
                        refine hK.out _ _ ?_ (fun hHelda25 => ?_)
                        · (try dsimp only); (first | exact m1 | exact mA1 | exact n1 | exact n2 | go_keep)
                        clear hK K hHelda23
                        try simp only [Act.put, List.getElem_toArray, List.getElem_cons_zero, List.getElem_cons_succ, List.setIfInBounds_toArray, List.set_cons_zero, List.set_cons_succ]
                        refine wpAnyH_take (i := 5) (oi := _) (v := ?av26) rfl (by kernel_rfl) (by kernel_rfl) (by kernel_rfl) (fun _ _ _ h => h) (Or.inl ⟨by rfl, ?ahy26⟩) (by assumption) ?arest26
                        case ahy26 => (intro w hSw; (try dsimp only at hSw); go_simp; all_goals with_reducible rfl)
                        try simp only [Act.put, List.getElem_toArray, List.getElem_cons_zero, List.getElem_cons_succ, List.setIfInBounds_toArray, List.set_cons_zero, List.set_cons_succ]
                        refine wpAnyH_ready (rs := [6]) (by kernel_rfl) (by simp) ?_
                        refine AllReadyH.cons (o := _) rfl (fun K hK => ?_) ?_
                        · (first | ((rw [HV.out.1]; refine step_append_any lenI oneI rfl (.tmp 130) (.tmp 135) 23 rfl Y.heap.size 3 (.int .i64 0) 8 Try.underlying23 info3 rfl (by decide) (by decide) Y.heap.size 0 0 [] rfl (by simp [Act.eval, Act.put]) HE0.out.1 a i Fc (s.fl.take i) (by simp [Act.eval, Act.put]) HD.out.1 (rd_take HE0.out.2.1 i) HD.out.2.2.1 HE0.out.2.2.2.2 ?_; simp only [Nat.zero_add, List.nil_append]; intro g2 cap2 w5 hown1 hg1; have hm5 : MI w m s g cc (.slice (some a) s.fl.length Fc) w5 := HV.out.2.2.2.far HE0.out.2.2.1 HE0.out.2.2.2.1 HY.out.2.sz (Nat.le_refl _) hg1; have x1 := (nineT hm5.r0).2.1; have n1 := cell_of_row _ _ 1 _ _ _ hm5.r1; simp at n1; rw [HXX.out.1] at n1; have H5 := Lib.hid (And.intro hown1 (And.intro hm5 hg1.size)); clear hown1 hg1 hm5)) | ((refine step_append_any lenI oneI rfl (.tmp 136) (.tmp 142) 23 rfl Y.heap.size 3 (.int .i64 0) 8 Try.underlying23 info3 rfl (by decide) (by decide) g2 i cap2 (s.fl.take i) HD.out.1 (by simp [Act.eval, Act.put]) H5.out.1 a (s.fl.length - (i + 1)) (Fc - (i + 1)) (s.fl.drop (i + 1)) (by simp [Act.eval, Act.put]) HD.out.2.1 (by have h9 := HFC.out; rw [List.drop_eq_nil_of_le (by omega)]; exact Rd.nil _ _ _ _) HD.out.2.2.2.1 (Nat.le_trans HE0.out.2.2.2.2 H5.out.2.2) ?_; rw [HD.out.2.2.2.2, HF2.out.2.1]; intro g3 cap3 w6 hown2 hg2; have hm6 : MI w m s g cc (.slice (some a) s.fl.length Fc) w6 := H5.out.2.1.far HE0.out.2.2.1 HE0.out.2.2.2.1 HY.out.2.sz (H5.out.1.blk _ rfl).1 hg2; have x2 := (nineT hm6.r0).2.1; have y2 := (nineFT hm6.r0).2.1; have n2 := cell_of_row _ _ 1 _ _ _ hm6.r1; simp at n2; rw [HXX.out.1] at n2; have H6 := Lib.hid (And.intro hown2 hm6); clear hown2 hg2 hm6)))
                          refine hK.out _ _ ?_ (fun hHelda27 => ?_)
                          · (try dsimp only); (first | exact m1 | exact mA1 | exact n1 | exact n2 | go_keep)
                          clear hK K hHelda25
                          try simp only [Act.put, List.getElem_toArray, List.getElem_cons_zero, List.getElem_cons_succ, List.setIfInBounds_toArray, List.set_cons_zero, List.set_cons_succ]
                          refine wpAnyH_ready (rs := [13]) (by kernel_rfl) (by simp) ?_
                          refine AllReadyH.cons (o := _) rfl (fun K hK => ?_) ?_
                          · (first | ((rw [HV.out.1]; refine step_append_any lenI oneI rfl (.tmp 130) (.tmp 135) 23 rfl Y.heap.size 3 (.int .i64 0) 8 Try.underlying23 info3 rfl (by decide) (by decide) Y.heap.size 0 0 [] rfl (by simp [Act.eval, Act.put]) HE0.out.1 a i Fc (s.fl.take i) (by simp [Act.eval, Act.put]) HD.out.1 (rd_take HE0.out.2.1 i) HD.out.2.2.1 HE0.out.2.2.2.2 ?_; simp only [Nat.zero_add, List.nil_append]; intro g2 cap2 w5 hown1 hg1; have hm5 : MI w m s g cc (.slice (some a) s.fl.length Fc) w5 := HV.out.2.2.2.far HE0.out.2.2.1 HE0.out.2.2.2.1 HY.out.2.sz (Nat.le_refl _) hg1; have x1 := (nineT hm5.r0).2.1; have n1 := cell_of_row _ _ 1 _ _ _ hm5.r1; simp at n1; rw [HXX.out.1] at n1; have H5 := Lib.hid (And.intro hown1 (And.intro hm5 hg1.size)); clear hown1 hg1 hm5)) | ((refine step_append_any lenI oneI rfl (.tmp 136) (.tmp 142) 23 rfl Y.heap.size 3 (.int .i64 0) 8 Try.underlying23 info3 rfl (by decide) (by decide) g2 i cap2 (s.fl.take i) HD.out.1 (by simp [Act.eval, Act.put]) H5.out.1 a (s.fl.length - (i + 1)) (Fc - (i + 1)) (s.fl.drop (i + 1)) (by simp [Act.eval, Act.put]) HD.out.2.1 (by have h9 := HFC.out; rw [List.drop_eq_nil_of_le (by omega)]; exact Rd.nil _ _ _ _) HD.out.2.2.2.1 (Nat.le_trans HE0.out.2.2.2.2 H5.out.2.2) ?_; rw [HD.out.2.2.2.2, HF2.out.2.1]; intro g3 cap3 w6 hown2 hg2; have hm6 : MI w m s g cc (.slice (some a) s.fl.length Fc) w6 := H5.out.2.1.far HE0.out.2.2.1 HE0.out.2.2.2.1 HY.out.2.sz (H5.out.1.blk _ rfl).1 hg2; have x2 := (nineT hm6.r0).2.1; have y2 := (nineFT hm6.r0).2.1; have n2 := cell_of_row _ _ 1 _ _ _ hm6.r1; simp at n2; rw [HXX.out.1] at n2; have H6 := Lib.hid (And.intro hown2 hm6); clear hown2 hg2 hm6)))
                            refine hK.out _ _ ?_ (fun hHelda28 => ?_)
                            · (try dsimp only); (first | exact m1 | exact mA1 | exact n1 | exact n2 | go_keep)
                            clear hK K hHelda27
                            try simp only [Act.put, List.getElem_toArray, List.getElem_cons_zero, List.getElem_cons_succ, List.setIfInBounds_toArray, List.set_cons_zero, List.set_cons_succ]
                            refine wpAnyH_take (i := 14) (oi := _) (v := ?av29) rfl (by kernel_rfl) (by kernel_rfl) (by kernel_rfl) (fun _ _ _ h => h) (Or.inl ⟨by rfl, ?ahy29⟩) (by assumption) ?arest29
                            case ahy29 => (intro w hSw; (try dsimp only at hSw); go_simp; all_goals with_reducible rfl)
                            try simp only [Act.put, List.getElem_toArray, List.getElem_cons_zero, List.getElem_cons_succ, List.setIfInBounds_toArray, List.set_cons_zero, List.set_cons_succ]
                            refine wpAnyH_ready (rs := [15]) (by kernel_rfl) (by simp) ?_
                            refine AllReadyH.cons (o := _) rfl (fun K hK => ?_) ?_
                            · go_simp
                              try go_wp2_with fail
                              refine hK.out _ _ ?_ (fun hHelda30 => ?_)
                              · (try dsimp only); (first | exact m1 | exact mA1 | exact n1 | exact n2 | go_keep)
                              clear hK K hHelda28
                              try simp only [Act.put, List.getElem_toArray, List.getElem_cons_zero, List.getElem_cons_succ, List.setIfInBounds_toArray, List.set_cons_zero, List.set_cons_succ]
                              refine wpAnyH_done (by kernel_rfl) ?_ _
                              go_wp2_with fail
                              go_meet
                              exact ⟨some ⟨g3, 0, none⟩, cap3, H6.out.2.setF2 H6.out.1 HY.out.2.sz⟩
                            exact AllReadyH.nil
                          exact AllReadyH.nil
                        exact AllReadyH.nil
                      exact AllReadyH.nil
                    exact AllReadyH.nil
                  refine AllReadyH.cons (o := _) rfl (fun K hK => ?_) ?_
                  · go_simp
                    try go_wp2_with fail
                    refine hK.out _ _ ?_ (fun hHelda31 => ?_)
                    · (try dsimp only); (first | exact m1 | exact mA1 | exact n1 | exact n2 | go_keep)
                    clear hK K hHelda0
                    try simp only [Act.put, List.getElem_toArray, List.getElem_cons_zero, List.getElem_cons_succ, List.setIfInBounds_toArray, List.set_cons_zero, List.set_cons_succ]
                    refine wpAnyH_take (i := 5) (oi := _) (v := ?av32) rfl (by kernel_rfl) (by kernel_rfl) (by kernel_rfl) (fun _ _ _ h => h) (Or.inl ⟨by rfl, ?ahy32⟩) (by assumption) ?arest32
                    case ahy32 => (intro w hSw; (try dsimp only at hSw); go_simp; all_goals with_reducible rfl)
                    try simp only [Act.put, List.getElem_toArray, List.getElem_cons_zero, List.getElem_cons_succ, List.setIfInBounds_toArray, List.set_cons_zero, List.set_cons_succ]
                    refine wpAnyH_ready (rs := [0, 8]) (by kernel_rfl) (by simp) ?_
                    refine AllReadyH.cons (o := _) rfl (fun K hK => ?_) ?_
                    · go_simp
                      try go_wp2_with fail
                      refine hK.out _ _ ?_ (fun hHelda33 => ?_)
                      · (try dsimp only); (first | exact m1 | exact mA1 | exact n1 | exact n2 | go_keep)
                      clear hK K hHelda31
                      try simp only [Act.put, List.getElem_toArray, List.getElem_cons_zero, List.getElem_cons_succ, List.setIfInBounds_toArray, List.set_cons_zero, List.set_cons_succ]
                      refine wpAnyH_ready (rs := [6, 8]) (by kernel_rfl) (by simp) ?_
                      refine AllReadyH.cons (o := _) rfl (fun K hK => ?_) ?_
                      · (first | ((rw [HV.out.1]; refine step_append_any lenI oneI rfl (.tmp 130) (.tmp 135) 23 rfl Y.heap.size 3 (.int .i64 0) 8 Try.underlying23 info3 rfl (by decide) (by decide) Y.heap.size 0 0 [] rfl (by simp [Act.eval, Act.put]) HE0.out.1 a i Fc (s.fl.take i) (by simp [Act.eval, Act.put]) HD.out.1 (rd_take HE0.out.2.1 i) HD.out.2.2.1 HE0.out.2.2.2.2 ?_; simp only [Nat.zero_add, List.nil_append]; intro g2 cap2 w5 hown1 hg1; have hm5 : MI w m s g cc (.slice (some a) s.fl.length Fc) w5 := HV.out.2.2.2.far HE0.out.2.2.1 HE0.out.2.2.2.1 HY.out.2.sz (Nat.le_refl _) hg1; have x1 := (nineT hm5.r0).2.1; have n1 := cell_of_row _ _ 1 _ _ _ hm5.r1; simp at n1; rw [HXX.out.1] at n1; have H5 := Lib.hid (And.intro hown1 (And.intro hm5 hg1.size)); clear hown1 hg1 hm5)) | ((refine step_append_any lenI oneI rfl (.tmp 136) (.tmp 142) 23 rfl Y.heap.size 3 (.int .i64 0) 8 Try.underlying23 info3 rfl (by decide) (by decide) g2 i cap2 (s.fl.take i) HD.out.1 (by simp [Act.eval, Act.put]) H5.out.1 a (s.fl.length - (i + 1)) (Fc - (i + 1)) (s.fl.drop (i + 1)) (by simp [Act.eval, Act.put]) HD.out.2.1 (by have h9 := HFC.out; rw [List.drop_eq_nil_of_le (by omega)]; exact Rd.nil _ _ _ _) HD.out.2.2.2.1 (Nat.le_trans HE0.out.2.2.2.2 H5.out.2.2) ?_; rw [HD.out.2.2.2.2, HF2.out.2.1]; intro g3 cap3 w6 hown2 hg2; have hm6 : MI w m s g cc (.slice (some a) s.fl.length Fc) w6 := H5.out.2.1.far HE0.out.2.2.1 HE0.out.2.2.2.1 HY.out.2.sz (H5.out.1.blk _ rfl).1 hg2; have x2 := (nineT hm6.r0).2.1; have y2 := (nineFT hm6.r0).2.1; have n2 := cell_of_row _ _ 1 _ _ _ hm6.r1; simp at n2; rw [HXX.out.1] at n2; have H6 := Lib.hid (And.intro hown2 hm6); clear hown2 hg2 hm6)))
                        refine hK.out _ _ ?_ (fun hHelda34 => ?_)
                        · (try dsimp only); (first | exact m1 | exact mA1 | exact n1 | exact n2 | go_keep)
                        clear hK K hHelda33
                        try simp only [Act.put, List.getElem_toArray, List.getElem_cons_zero, List.getElem_cons_succ, List.setIfInBounds_toArray, List.set_cons_zero, List.set_cons_succ]
                        refine wpAnyH_ready (rs := [8]) (by kernel_rfl) (by simp) ?_
                        refine AllReadyH.cons (o := _) rfl (fun K hK => ?_) ?_
                        · go_simp
                          try go_wp2_with fail
                          refine hK.out _ _ ?_ (fun hHelda35 => ?_)
                          · (try dsimp only); (first | exact m1 | exact mA1 | exact n1 | exact n2 | go_keep)
                          clear hK K hHelda34
                          try simp only [Act.put, List.getElem_toArray, List.getElem_cons_zero, List.getElem_cons_succ, List.setIfInBounds_toArray, List.set_cons_zero, List.set_cons_succ]
                          refine wpAnyH_take (i := 12) (oi := _) (v := ?av36) rfl (by kernel_rfl) (by kernel_rfl) (by kernel_rfl) (fun _ _ _ h => h) (Or.inl ⟨by rfl, ?ahy36⟩) (by assumption) ?arest36
                          case ahy36 => (intro w hSw; (try dsimp only at hSw); go_simp; all_goals with_reducible rfl)
                          try simp only [Act.put, List.getElem_toArray, List.getElem_cons_zero, List.getElem_cons_succ, List.setIfInBounds_toArray, List.set_cons_zero, List.set_cons_succ]
                          refine wpAnyH_ready (rs := [13]) (by kernel_rfl) (by simp) ?_
                          refine AllReadyH.cons (o := _) rfl (fun K hK => ?_) ?_
                          · (first | ((rw [HV.out.1]; refine step_append_any lenI oneI rfl (.tmp 130) (.tmp 135) 23 rfl Y.heap.size 3 (.int .i64 0) 8 Try.underlying23 info3 rfl (by decide) (by decide) Y.heap.size 0 0 [] rfl (by simp [Act.eval, Act.put]) HE0.out.1 a i Fc (s.fl.take i) (by simp [Act.eval, Act.put]) HD.out.1 (rd_take HE0.out.2.1 i) HD.out.2.2.1 HE0.out.2.2.2.2 ?_; simp only [Nat.zero_add, List.nil_append]; intro g2 cap2 w5 hown1 hg1; have hm5 : MI w m s g cc (.slice (some a) s.fl.length Fc) w5 := HV.out.2.2.2.far HE0.out.2.2.1 HE0.out.2.2.2.1 HY.out.2.sz (Nat.le_refl _) hg1; have x1 := (nineT hm5.r0).2.1; have n1 := cell_of_row _ _ 1 _ _ _ hm5.r1; simp at n1; rw [HXX.out.1] at n1; have H5 := Lib.hid (And.intro hown1 (And.intro hm5 hg1.size)); clear hown1 hg1 hm5)) | ((refine step_append_any lenI oneI rfl (.tmp 136) (.tmp 142) 23 rfl Y.heap.size 3 (.int .i64 0) 8 Try.underlying23 info3 rfl (by decide) (by decide) g2 i cap2 (s.fl.take i) HD.out.1 (by simp [Act.eval, Act.put]) H5.out.1 a (s.fl.length - (i + 1)) (Fc - (i + 1)) (s.fl.drop (i + 1)) (by simp [Act.eval, Act.put]) HD.out.2.1 (by have h9 := HFC.out; rw [List.drop_eq_nil_of_le (by omega)]; exact Rd.nil _ _ _ _) HD.out.2.2.2.1 (Nat.le_trans HE0.out.2.2.2.2 H5.out.2.2) ?_; rw [HD.out.2.2.2.2, HF2.out.2.1]; intro g3 cap3 w6 hown2 hg2; have hm6 : MI w m s g cc (.slice (some a) s.fl.length Fc) w6 := H5.out.2.1.far HE0.out.2.2.1 HE0.out.2.2.2.1 HY.out.2.sz (H5.out.1.blk _ rfl).1 hg2; have x2 := (nineT hm6.r0).2.1; have y2 := (nineFT hm6.r0).2.1; have n2 := cell_of_row _ _ 1 _ _ _ hm6.r1; simp at n2; rw [HXX.out.1] at n2; have H6 := Lib.hid (And.intro hown2 hm6); clear hown2 hg2 hm6)))
                            refine hK.out _ _ ?_ (fun hHelda37 => ?_)
                            · (try dsimp only); (first | exact m1 | exact mA1 | exact n1 | exact n2 | go_keep)
                            clear hK K hHelda35
                            try simp only [Act.put, List.getElem_toArray, List.getElem_cons_zero, List.getElem_cons_succ, List.setIfInBounds_toArray, List.set_cons_zero, List.set_cons_succ]
                            refine wpAnyH_take (i := 14) (oi := _) (v := ?av38) rfl (by kernel_rfl) (by kernel_rfl) (by kernel_rfl) (fun _ _ _ h => h) (Or.inl ⟨by rfl, ?ahy38⟩) (by assumption) ?arest38
                            case ahy38 => (intro w hSw; (try dsimp only at hSw); go_simp; all_goals with_reducible rfl)
                            try simp only [Act.put, List.getElem_toArray, List.getElem_cons_zero, List.getElem_cons_succ, List.setIfInBounds_toArray, List.set_cons_zero, List.set_cons_succ]
                            refine wpAnyH_ready (rs := [15]) (by kernel_rfl) (by simp) ?_
                            refine AllReadyH.cons (o := _) rfl (fun K hK => ?_) ?_
                            · go_simp
                              try go_wp2_with fail
                              refine hK.out _ _ ?_ (fun hHelda39 => ?_)
                              · (try dsimp only); (first | exact m1 | exact mA1 | exact n1 | exact n2 | go_keep)
                              clear hK K hHelda37
                              try simp only [Act.put, List.getElem_toArray, List.getElem_cons_zero, List.getElem_cons_succ, List.setIfInBounds_toArray, List.set_cons_zero, List.set_cons_succ]
                              refine wpAnyH_done (by kernel_rfl) ?_ _
                              go_wp2_with fail
                              go_meet
                              exact ⟨some ⟨g3, 0, none⟩, cap3, H6.out.2.setF2 H6.out.1 HY.out.2.sz⟩
                            exact AllReadyH.nil
                          exact AllReadyH.nil
                        exact AllReadyH.nil
                      refine AllReadyH.cons (o := _) rfl (fun K hK => ?_) ?_
                      · go_simp
                        try go_wp2_with fail
                        refine hK.out _ _ ?_ (fun hHelda40 => ?_)
                        · (try dsimp only); (first | exact m1 | exact mA1 | exact n1 | exact n2 | go_keep)
                        clear hK K hHelda33
                        try simp only [Act.put, List.getElem_toArray, List.getElem_cons_zero, List.getElem_cons_succ, List.setIfInBounds_toArray, List.set_cons_zero, List.set_cons_succ]
                        refine wpAnyH_take (i := 12) (oi := _) (v := ?av41) rfl (by kernel_rfl) (by kernel_rfl) (by kernel_rfl) (fun _ _ _ h => h) (Or.inl ⟨by rfl, ?ahy41⟩) (by assumption) ?arest41
                        case ahy41 => (intro w hSw; (try dsimp only at hSw); go_simp; all_goals with_reducible rfl)
                        try simp only [Act.put, List.getElem_toArray, List.getElem_cons_zero, List.getElem_cons_succ, List.setIfInBounds_toArray, List.set_cons_zero, List.set_cons_succ]
                        refine wpAnyH_ready (rs := [6]) (by kernel_rfl) (by simp) ?_
                        refine AllReadyH.cons (o := _) rfl (fun K hK => ?_) ?_
                        · (first | ((rw [HV.out.1]; refine step_append_any lenI oneI rfl (.tmp 130) (.tmp 135) 23 rfl Y.heap.size 3 (.int .i64 0) 8 Try.underlying23 info3 rfl (by decide) (by decide) Y.heap.size 0 0 [] rfl (by simp [Act.eval, Act.put]) HE0.out.1 a i Fc (s.fl.take i) (by simp [Act.eval, Act.put]) HD.out.1 (rd_take HE0.out.2.1 i) HD.out.2.2.1 HE0.out.2.2.2.2 ?_; simp only [Nat.zero_add, List.nil_append]; intro g2 cap2 w5 hown1 hg1; have hm5 : MI w m s g cc (.slice (some a) s.fl.length Fc) w5 := HV.out.2.2.2.far HE0.out.2.2.1 HE0.out.2.2.2.1 HY.out.2.sz (Nat.le_refl _) hg1; have x1 := (nineT hm5.r0).2.1; have n1 := cell_of_row _ _ 1 _ _ _ hm5.r1; simp at n1; rw [HXX.out.1] at n1; have H5 := Lib.hid (And.intro hown1 (And.intro hm5 hg1.size)); clear hown1 hg1 hm5)) | ((refine step_append_any lenI oneI rfl (.tmp 136) (.tmp 142) 23 rfl Y.heap.size 3 (.int .i64 0) 8 Try.underlying23 info3 rfl (by decide) (by decide) g2 i cap2 (s.fl.take i) HD.out.1 (by simp [Act.eval, Act.put]) H5.out.1 a (s.fl.length - (i + 1)) (Fc - (i + 1)) (s.fl.drop (i + 1)) (by simp [Act.eval, Act.put]) HD.out.2.1 (by have h9 := HFC.out; rw [List.drop_eq_nil_of_le (by omega)]; exact Rd.nil _ _ _ _) HD.out.2.2.2.1 (Nat.le_trans HE0.out.2.2.2.2 H5.out.2.2) ?_; rw [HD.out.2.2.2.2, HF2.out.2.1]; intro g3 cap3 w6 hown2 hg2; have hm6 : MI w m s g cc (.slice (some a) s.fl.length Fc) w6 := H5.out.2.1.far HE0.out.2.2.1 HE0.out.2.2.2.1 HY.out.2.sz (H5.out.1.blk _ rfl).1 hg2; have x2 := (nineT hm6.r0).2.1; have y2 := (nineFT hm6.r0).2.1; have n2 := cell_of_row _ _ 1 _ _ _ hm6.r1; simp at n2; rw [HXX.out.1] at n2; have H6 := Lib.hid (And.intro hown2 hm6); clear hown2 hg2 hm6)))
                          refine hK.out _ _ ?_ (fun hHelda42 => ?_)
                          · (try dsimp only); (first | exact m1 | exact mA1 | exact n1 | exact n2 | go_keep)
                          clear hK K hHelda40
                          try simp only [Act.put, List.getElem_toArray, List.getElem_cons_zero, List.getElem_cons_succ, List.setIfInBounds_toArray, List.set_cons_zero, List.set_cons_succ]
                          refine wpAnyH_ready (rs := [13]) (by kernel_rfl) (by simp) ?_
                          refine AllReadyH.cons (o := _) rfl (fun K hK => ?_) ?_
                          · (first | ((rw [HV.out.1]; refine step_append_any lenI oneI rfl (.tmp 130) (.tmp 135) 23 rfl Y.heap.size 3 (.int .i64 0) 8 Try.underlying23 info3 rfl (by decide) (by decide) Y.heap.size 0 0 [] rfl (by simp [Act.eval, Act.put]) HE0.out.1 a i Fc (s.fl.take i) (by simp [Act.eval, Act.put]) HD.out.1 (rd_take HE0.out.2.1 i) HD.out.2.2.1 HE0.out.2.2.2.2 ?_; simp only [Nat.zero_add, List.nil_append]; intro g2 cap2 w5 hown1 hg1; have hm5 : MI w m s g cc (.slice (some a) s.fl.length Fc) w5 := HV.out.2.2.2.far HE0.out.2.2.1 HE0.out.2.2.2.1 HY.out.2.sz (Nat.le_refl _) hg1; have x1 := (nineT hm5.r0).2.1; have n1 := cell_of_row _ _ 1 _ _ _ hm5.r1; simp at n1; rw [HXX.out.1] at n1; have H5 := Lib.hid (And.intro hown1 (And.intro hm5 hg1.size)); clear hown1 hg1 hm5)) | ((refine step_append_any lenI oneI rfl (.tmp 136) (.tmp 142) 23 rfl Y.heap.size 3 (.int .i64 0) 8 Try.underlying23 info3 rfl (by decide) (by decide) g2 i cap2 (s.fl.take i) HD.out.1 (by simp [Act.eval, Act.put]) H5.out.1 a (s.fl.length - (i + 1)) (Fc - (i + 1)) (s.fl.drop (i + 1)) (by simp [Act.eval, Act.put]) HD.out.2.1 (by have h9 := HFC.out; rw [List.drop_eq_nil_of_le (by omega)]; exact Rd.nil _ _ _ _) HD.out.2.2.2.1 (Nat.le_trans HE0.out.2.2.2.2 H5.out.2.2) ?_; rw [HD.out.2.2.2.2, HF2.out.2.1]; intro g3 cap3 w6 hown2 hg2; have hm6 : MI w m s g cc (.slice (some a) s.fl.length Fc) w6 := H5.out.2.1.far HE0.out.2.2.1 HE0.out.2.2.2.1 HY.out.2.sz (H5.out.1.blk _ rfl).1 hg2; have x2 := (nineT hm6.r0).2.1; have y2 := (nineFT hm6.r0).2.1; have n2 := cell_of_row _ _ 1 _ _ _ hm6.r1; simp at n2; rw [HXX.out.1] at n2; have H6 := Lib.hid (And.intro hown2 hm6); clear hown2 hg2 hm6)))
                            refine hK.out _ _ ?_ (fun hHelda43 => ?_)
                            · (try dsimp only); (first | exact m1 | exact mA1 | exact n1 | exact n2 | go_keep)
                            clear hK K hHelda42
                            try simp only [Act.put, List.getElem_toArray, List.getElem_cons_zero, List.getElem_cons_succ, List.setIfInBounds_toArray, List.set_cons_zero, List.set_cons_succ]
                            refine wpAnyH_take (i := 14) (oi := _) (v := ?av44) rfl (by kernel_rfl) (by kernel_rfl) (by kernel_rfl) (fun _ _ _ h => h) (Or.inl ⟨by rfl, ?ahy44⟩) (by assumption) ?arest44
                            case ahy44 => (intro w hSw; (try dsimp only at hSw); go_simp; all_goals with_reducible rfl)
                            try simp only [Act.put, List.getElem_toArray, List.getElem_cons_zero, List.getElem_cons_succ, List.setIfInBounds_toArray, List.set_cons_zero, List.set_cons_succ]
                            refine wpAnyH_ready (rs := [15]) (by kernel_rfl) (by simp) ?_
                            refine AllReadyH.cons (o := _) rfl (fun K hK => ?_) ?_
                            · go_simp
                              try go_wp2_with fail
                              refine hK.out _ _ ?_ (fun hHelda45 => ?_)
                              · (try dsimp only); (first | exact m1 | exact mA1 | exact n1 | exact n2 | go_keep)
                              clear hK K hHelda43
                              try simp only [Act.put, List.getElem_toArray, List.getElem_cons_zero, List.getElem_cons_succ, List.setIfInBounds_toArray, List.set_cons_zero, List.set_cons_succ]
                              refine wpAnyH_done (by kernel_rfl) ?_ _
                              go_wp2_with fail
                              go_meet
                              exact ⟨some ⟨g3, 0, none⟩, cap3, H6.out.2.setF2 H6.out.1 HY.out.2.sz⟩
                            exact AllReadyH.nil
                          exact AllReadyH.nil
                        exact AllReadyH.nil
                      exact AllReadyH.nil
                    refine AllReadyH.cons (o := _) rfl (fun K hK => ?_) ?_
                    · go_simp
                      try go_wp2_with fail
                      refine hK.out _ _ ?_ (fun hHelda46 => ?_)
                      · (try dsimp only); (first | exact m1 | exact mA1 | exact n1 | exact n2 | go_keep)
                      clear hK K hHelda31
                      try simp only [Act.put, List.getElem_toArray, List.getElem_cons_zero, List.getElem_cons_succ, List.setIfInBounds_toArray, List.set_cons_zero, List.set_cons_succ]
                      refine wpAnyH_take (i := 12) (oi := _) (v := ?av47) rfl (by kernel_rfl) (by kernel_rfl) (by kernel_rfl) (fun _ _ _ h => h) (Or.inl ⟨by rfl, ?ahy47⟩) (by assumption) ?arest47
                      case ahy47 => (intro w hSw; (try dsimp only at hSw); go_simp; all_goals with_reducible rfl)
                      try simp only [Act.put, List.getElem_toArray, List.getElem_cons_zero, List.getElem_cons_succ, List.setIfInBounds_toArray, List.set_cons_zero, List.set_cons_succ]
                      refine wpAnyH_ready (rs := [0]) (by kernel_rfl) (by simp) ?_
                      refine AllReadyH.cons (o := _) rfl (fun K hK => ?_) ?_
                      · go_simp
                        try go_wp2_with fail
                        refine hK.out _ _ ?_ (fun hHelda48 => ?_)
                        · (try dsimp only); (first | exact m1 | exact mA1 | exact n1 | exact n2 | go_keep)
                        clear hK K hHelda46
                        try simp only [Act.put, List.getElem_toArray, List.getElem_cons_zero, List.getElem_cons_succ, List.setIfInBounds_toArray, List.set_cons_zero, List.set_cons_succ]
                        refine wpAnyH_ready (rs := [6]) (by kernel_rfl) (by simp) ?_
                        refine AllReadyH.cons (o := _) rfl (fun K hK => ?_) ?_
                        · (first | ((rw [HV.out.1]; refine step_append_any lenI oneI rfl (.tmp 130) (.tmp 135) 23 rfl Y.heap.size 3 (.int .i64 0) 8 Try.underlying23 info3 rfl (by decide) (by decide) Y.heap.size 0 0 [] rfl (by simp [Act.eval, Act.put]) HE0.out.1 a i Fc (s.fl.take i) (by simp [Act.eval, Act.put]) HD.out.1 (rd_take HE0.out.2.1 i) HD.out.2.2.1 HE0.out.2.2.2.2 ?_; simp only [Nat.zero_add, List.nil_append]; intro g2 cap2 w5 hown1 hg1; have hm5 : MI w m s g cc (.slice (some a) s.fl.length Fc) w5 := HV.out.2.2.2.far HE0.out.2.2.1 HE0.out.2.2.2.1 HY.out.2.sz (Nat.le_refl _) hg1; have x1 := (nineT hm5.r0).2.1; have n1 := cell_of_row _ _ 1 _ _ _ hm5.r1; simp at n1; rw [HXX.out.1] at n1; have H5 := Lib.hid (And.intro hown1 (And.intro hm5 hg1.size)); clear hown1 hg1 hm5)) | ((refine step_append_any lenI oneI rfl (.tmp 136) (.tmp 142) 23 rfl Y.heap.size 3 (.int .i64 0) 8 Try.underlying23 info3 rfl (by decide) (by decide) g2 i cap2 (s.fl.take i) HD.out.1 (by simp [Act.eval, Act.put]) H5.out.1 a (s.fl.length - (i + 1)) (Fc - (i + 1)) (s.fl.drop (i + 1)) (by simp [Act.eval, Act.put]) HD.out.2.1 (by have h9 := HFC.out; rw [List.drop_eq_nil_of_le (by omega)]; exact Rd.nil _ _ _ _) HD.out.2.2.2.1 (Nat.le_trans HE0.out.2.2.2.2 H5.out.2.2) ?_; rw [HD.out.2.2.2.2, HF2.out.2.1]; intro g3 cap3 w6 hown2 hg2; have hm6 : MI w m s g cc (.slice (some a) s.fl.length Fc) w6 := H5.out.2.1.far HE0.out.2.2.1 HE0.out.2.2.2.1 HY.out.2.sz (H5.out.1.blk _ rfl).1 hg2; have x2 := (nineT hm6.r0).2.1; have y2 := (nineFT hm6.r0).2.1; have n2 := cell_of_row _ _ 1 _ _ _ hm6.r1; simp at n2; rw [HXX.out.1] at n2; have H6 := Lib.hid (And.intro hown2 hm6); clear hown2 hg2 hm6)))
                          refine hK.out _ _ ?_ (fun hHelda49 => ?_)
                          · (try dsimp only); (first | exact m1 | exact mA1 | exact n1 | exact n2 | go_keep)
                          clear hK K hHelda48
                          try simp only [Act.put, List.getElem_toArray, List.getElem_cons_zero, List.getElem_cons_succ, List.setIfInBounds_toArray, List.set_cons_zero, List.set_cons_succ]
                          refine wpAnyH_ready (rs := [13]) (by kernel_rfl) (by simp) ?_
                          refine AllReadyH.cons (o := _) rfl (fun K hK => ?_) ?_
                          · (first | ((rw [HV.out.1]; refine step_append_any lenI oneI rfl (.tmp 130) (.tmp 135) 23 rfl Y.heap.size 3 (.int .i64 0) 8 Try.underlying23 info3 rfl (by decide) (by decide) Y.heap.size 0 0 [] rfl (by simp [Act.eval, Act.put]) HE0.out.1 a i Fc (s.fl.take i) (by simp [Act.eval, Act.put]) HD.out.1 (rd_take HE0.out.2.1 i) HD.out.2.2.1 HE0.out.2.2.2.2 ?_; simp only [Nat.zero_add, List.nil_append]; intro g2 cap2 w5 hown1 hg1; have hm5 : MI w m s g cc (.slice (some a) s.fl.length Fc) w5 := HV.out.2.2.2.far HE0.out.2.2.1 HE0.out.2.2.2.1 HY.out.2.sz (Nat.le_refl _) hg1; have x1 := (nineT hm5.r0).2.1; have n1 := cell_of_row _ _ 1 _ _ _ hm5.r1; simp at n1; rw [HXX.out.1] at n1; have H5 := Lib.hid (And.intro hown1 (And.intro hm5 hg1.size)); clear hown1 hg1 hm5)) | ((refine step_append_any lenI oneI rfl (.tmp 136) (.tmp 142) 23 rfl Y.heap.size 3 (.int .i64 0) 8 Try.underlying23 info3 rfl (by decide) (by decide) g2 i cap2 (s.fl.take i) HD.out.1 (by simp [Act.eval, Act.put]) H5.out.1 a (s.fl.length - (i + 1)) (Fc - (i + 1)) (s.fl.drop (i + 1)) (by simp [Act.eval, Act.put]) HD.out.2.1 (by have h9 := HFC.out; rw [List.drop_eq_nil_of_le (by omega)]; exact Rd.nil _ _ _ _) HD.out.2.2.2.1 (Nat.le_trans HE0.out.2.2.2.2 H5.out.2.2) ?_; rw [HD.out.2.2.2.2, HF2.out.2.1]; intro g3 cap3 w6 hown2 hg2; have hm6 : MI w m s g cc (.slice (some a) s.fl.length Fc) w6 := H5.out.2.1.far HE0.out.2.2.1 HE0.out.2.2.2.1 HY.out.2.sz (H5.out.1.blk _ rfl).1 hg2; have x2 := (nineT hm6.r0).2.1; have y2 := (nineFT hm6.r0).2.1; have n2 := cell_of_row _ _ 1 _ _ _ hm6.r1; simp at n2; rw [HXX.out.1] at n2; have H6 := Lib.hid (And.intro hown2 hm6); clear hown2 hg2 hm6)))
                            refine hK.out _ _ ?_ (fun hHelda50 => ?_)
                            · (try dsimp only); (first | exact m1 | exact mA1 | exact n1 | exact n2 | go_keep)
                            clear hK K hHelda49
                            try simp only [Act.put, List.getElem_toArray, List.getElem_cons_zero, List.getElem_cons_succ, List.setIfInBounds_toArray, List.set_cons_zero, List.set_cons_succ]
                            refine wpAnyH_take (i := 14) (oi := _) (v := ?av51) rfl (by kernel_rfl) (by kernel_rfl) (by kernel_rfl) (fun _ _ _ h => h) (Or.inl ⟨by rfl, ?ahy51⟩) (by assumption) ?arest51
                            case ahy51 => (intro w hSw; (try dsimp only at hSw); go_simp; all_goals with_reducible rfl)
                            try simp only [Act.put, List.getElem_toArray, List.getElem_cons_zero, List.getElem_cons_succ, List.setIfInBounds_toArray, List.set_cons_zero, List.set_cons_succ]
                            refine wpAnyH_ready (rs := [15]) (by kernel_rfl) (by simp) ?_
                            refine AllReadyH.cons (o := _) rfl (fun K hK => ?_) ?_
                            · go_simp
                              try go_wp2_with fail
                              refine hK.out _ _ ?_ (fun hHelda52 => ?_)
                              · (try dsimp only); (first | exact m1 | exact mA1 | exact n1 | exact n2 | go_keep)
                              clear hK K hHelda50
                              try simp only [Act.put, List.getElem_toArray, List.getElem_cons_zero, List.getElem_cons_succ, List.setIfInBounds_toArray, List.set_cons_zero, List.set_cons_succ]
                              refine wpAnyH_done (by kernel_rfl) ?_ _
                              go_wp2_with fail
                              go_meet
                              exact ⟨some ⟨g3, 0, none⟩, cap3, H6.out.2.setF2 H6.out.1 HY.out.2.sz⟩
                            exact AllReadyH.nil
                          exact AllReadyH.nil
                        exact AllReadyH.nil
                      exact AllReadyH.nil
                    exact AllReadyH.nil
                  refine AllReadyH.cons (o := _) rfl (fun K hK => ?_) ?_
                  · go_simp
                    try go_wp2_with fail
                    refine hK.out _ _ ?_ (fun hHelda53 => ?_)
                    · (try dsimp only); (first | exact m1 | exact mA1 | exact n1 | exact n2 | go_keep)
                    clear hK K hHelda0
                    try simp only [Act.put, List.getElem_toArray, List.getElem_cons_zero, List.getElem_cons_succ, List.setIfInBounds_toArray, List.set_cons_zero, List.set_cons_succ]
                    refine wpAnyH_take (i := 12) (oi := _) (v := ?av54) rfl (by kernel_rfl) (by kernel_rfl) (by kernel_rfl) (fun _ _ _ h => h) (Or.inl ⟨by rfl, ?ahy54⟩) (by assumption) ?arest54
                    case ahy54 => (intro w hSw; (try dsimp only at hSw); go_simp; all_goals with_reducible rfl)
                    try simp only [Act.put, List.getElem_toArray, List.getElem_cons_zero, List.getElem_cons_succ, List.setIfInBounds_toArray, List.set_cons_zero, List.set_cons_succ]
                    refine wpAnyH_ready (rs := [0, 2]) (by kernel_rfl) (by simp) ?_
                    refine AllReadyH.cons (o := _) rfl (fun K hK => ?_) ?_
                    · go_simp
                      try go_wp2_with fail
                      refine hK.out _ _ ?_ (fun hHelda55 => ?_)
                      · (try dsimp only); (first | exact m1 | exact mA1 | exact n1 | exact n2 | go_keep)
                      clear hK K hHelda53
                      try simp only [Act.put, List.getElem_toArray, List.getElem_cons_zero, List.getElem_cons_succ, List.setIfInBounds_toArray, List.set_cons_zero, List.set_cons_succ]
                      refine wpAnyH_ready (rs := [2]) (by kernel_rfl) (by simp) ?_
                      refine AllReadyH.cons (o := _) rfl (fun K hK => ?_) ?_
                      · go_simp
                        try go_wp2_with fail
                        refine hK.out _ _ ?_ (fun hHelda56 => ?_)
                        · (try dsimp only); (first | exact m1 | exact mA1 | exact n1 | exact n2 | go_keep)
                        clear hK K hHelda55
                        try simp only [Act.put, List.getElem_toArray, List.getElem_cons_zero, List.getElem_cons_succ, List.setIfInBounds_toArray, List.set_cons_zero, List.set_cons_succ]
                        refine wpAnyH_take (i := 5) (oi := _) (v := ?av57) rfl (by kernel_rfl) (by kernel_rfl) (by kernel_rfl) (fun _ _ _ h => h) (Or.inl ⟨by rfl, ?ahy57⟩) (by assumption) ?arest57
                        case ahy57 => (intro w hSw; (try dsimp only at hSw); go_simp; all_goals with_reducible rfl)
                        try simp only [Act.put, List.getElem_toArray, List.getElem_cons_zero, List.getElem_cons_succ, List.setIfInBounds_toArray, List.set_cons_zero, List.set_cons_succ]
                        refine wpAnyH_ready (rs := [6]) (by kernel_rfl) (by simp) ?_
                        refine AllReadyH.cons (o := _) rfl (fun K hK => ?_) ?_
                        · (first | ((rw [HV.out.1]; refine step_append_any lenI oneI rfl (.tmp 130) (.tmp 135) 23 rfl Y.heap.size 3 (.int .i64 0) 8 Try.underlying23 info3 rfl (by decide) (by decide) Y.heap.size 0 0 [] rfl (by simp [Act.eval, Act.put]) HE0.out.1 a i Fc (s.fl.take i) (by simp [Act.eval, Act.put]) HD.out.1 (rd_take HE0.out.2.1 i) HD.out.2.2.1 HE0.out.2.2.2.2 ?_; simp only [Nat.zero_add, List.nil_append]; intro g2 cap2 w5 hown1 hg1; have hm5 : MI w m s g cc (.slice (some a) s.fl.length Fc) w5 := HV.out.2.2.2.far HE0.out.2.2.1 HE0.out.2.2.2.1 HY.out.2.sz (Nat.le_refl _) hg1; have x1 := (nineT hm5.r0).2.1; have n1 := cell_of_row _ _ 1 _ _ _ hm5.r1; simp at n1; rw [HXX.out.1] at n1; have H5 := Lib.hid (And.intro hown1 (And.intro hm5 hg1.size)); clear hown1 hg1 hm5)) | ((refine step_append_any lenI oneI rfl (.tmp 136) (.tmp 142) 23 rfl Y.heap.size 3 (.int .i64 0) 8 Try.underlying23 info3 rfl (by decide) (by decide) g2 i cap2 (s.fl.take i) HD.out.1 (by simp [Act.eval, Act.put]) H5.out.1 a (s.fl.length - (i + 1)) (Fc - (i + 1)) (s.fl.drop (i + 1)) (by simp [Act.eval, Act.put]) HD.out.2.1 (by have h9 := HFC.out; rw [List.drop_eq_nil_of_le (by omega)]; exact Rd.nil _ _ _ _) HD.out.2.2.2.1 (Nat.le_trans HE0.out.2.2.2.2 H5.out.2.2) ?_; rw [HD.out.2.2.2.2, HF2.out.2.1]; intro g3 cap3 w6 hown2 hg2; have hm6 : MI w m s g cc (.slice (some a) s.fl.length Fc) w6 := H5.out.2.1.far HE0.out.2.2.1 HE0.out.2.2.2.1 HY.out.2.sz (H5.out.1.blk _ rfl).1 hg2; have x2 := (nineT hm6.r0).2.1; have y2 := (nineFT hm6.r0).2.1; have n2 := cell_of_row _ _ 1 _ _ _ hm6.r1; simp at n2; rw [HXX.out.1] at n2; have H6 := Lib.hid (And.intro hown2 hm6); clear hown2 hg2 hm6)))
                          refine hK.out _ _ ?_ (fun hHelda58 => ?_)
                          · (try dsimp only); (first | exact m1 | exact mA1 | exact n1 | exact n2 | go_keep)
                          clear hK K hHelda56
                          try simp only [Act.put, List.getElem_toArray, List.getElem_cons_zero, List.getElem_cons_succ, List.setIfInBounds_toArray, List.set_cons_zero, List.set_cons_succ]
                          refine wpAnyH_ready (rs := [13]) (by kernel_rfl) (by simp) ?_
                          refine AllReadyH.cons (o := _) rfl (fun K hK => ?_) ?_
                          · (first | ((rw [HV.out.1]; refine step_append_any lenI oneI rfl (.tmp 130) (.tmp 135) 23 rfl Y.heap.size 3 (.int .i64 0) 8 Try.underlying23 info3 rfl (by decide) (by decide) Y.heap.size 0 0 [] rfl (by simp [Act.eval, Act.put]) HE0.out.1 a i Fc (s.fl.take i) (by simp [Act.eval, Act.put]) HD.out.1 (rd_take HE0.out.2.1 i) HD.out.2.2.1 HE0.out.2.2.2.2 ?_; simp only [Nat.zero_add, List.nil_append]; intro g2 cap2 w5 hown1 hg1; have hm5 : MI w m s g cc (.slice (some a) s.fl.length Fc) w5 := HV.out.2.2.2.far HE0.out.2.2.1 HE0.out.2.2.2.1 HY.out.2.sz (Nat.le_refl _) hg1; have x1 := (nineT hm5.r0).2.1; have n1 := cell_of_row _ _ 1 _ _ _ hm5.r1; simp at n1; rw [HXX.out.1] at n1; have H5 := Lib.hid (And.intro hown1 (And.intro hm5 hg1.size)); clear hown1 hg1 hm5)) | ((refine step_append_any lenI oneI rfl (.tmp 136) (.tmp 142) 23 rfl Y.heap.size 3 (.int .i64 0) 8 Try.underlying23 info3 rfl (by decide) (by decide) g2 i cap2 (s.fl.take i) HD.out.1 (by simp [Act.eval, Act.put]) H5.out.1 a (s.fl.length - (i + 1)) (Fc - (i + 1)) (s.fl.drop (i + 1)) (by simp [Act.eval, Act.put]) HD.out.2.1 (by have h9 := HFC.out; rw [List.drop_eq_nil_of_le (by omega)]; exact Rd.nil _ _ _ _) HD.out.2.2.2.1 (Nat.le_trans HE0.out.2.2.2.2 H5.out.2.2) ?_; rw [HD.out.2.2.2.2, HF2.out.2.1]; intro g3 cap3 w6 hown2 hg2; have hm6 : MI w m s g cc (.slice (some a) s.fl.length Fc) w6 := H5.out.2.1.far HE0.out.2.2.1 HE0.out.2.2.2.1 HY.out.2.sz (H5.out.1.blk _ rfl).1 hg2; have x2 := (nineT hm6.r0).2.1; have y2 := (nineFT hm6.r0).2.1; have n2 := cell_of_row _ _ 1 _ _ _ hm6.r1; simp at n2; rw [HXX.out.1] at n2; have H6 := Lib.hid (And.intro hown2 hm6); clear hown2 hg2 hm6)))
                            refine hK.out _ _ ?_ (fun hHelda59 => ?_)
                            · (try dsimp only); (first | exact m1 | exact mA1 | exact n1 | exact n2 | go_keep)
                            clear hK K hHelda58
                            try simp only [Act.put, List.getElem_toArray, List.getElem_cons_zero, List.getElem_cons_succ, List.setIfInBounds_toArray, List.set_cons_zero, List.set_cons_succ]
                            refine wpAnyH_take (i := 14) (oi := _) (v := ?av60) rfl (by kernel_rfl) (by kernel_rfl) (by kernel_rfl) (fun _ _ _ h => h) (Or.inl ⟨by rfl, ?ahy60⟩) (by assumption) ?arest60
                            case ahy60 => (intro w hSw; (try dsimp only at hSw); go_simp; all_goals with_reducible rfl)
                            try simp only [Act.put, List.getElem_toArray, List.getElem_cons_zero, List.getElem_cons_succ, List.setIfInBounds_toArray, List.set_cons_zero, List.set_cons_succ]
                            refine wpAnyH_ready (rs := [15]) (by kernel_rfl) (by simp) ?_
                            refine AllReadyH.cons (o := _) rfl (fun K hK => ?_) ?_
                            · go_simp
                              try go_wp2_with fail
                              refine hK.out _ _ ?_ (fun hHelda61 => ?_)
                              · (try dsimp only); (first | exact m1 | exact mA1 | exact n1 | exact n2 | go_keep)
                              clear hK K hHelda59
                              try simp only [Act.put, List.getElem_toArray, List.getElem_cons_zero, List.getElem_cons_succ, List.setIfInBounds_toArray, List.set_cons_zero, List.set_cons_succ]
                              refine wpAnyH_done (by kernel_rfl) ?_ _
                              go_wp2_with fail
                              go_meet
                              exact ⟨some ⟨g3, 0, none⟩, cap3, H6.out.2.setF2 H6.out.1 HY.out.2.sz⟩
                            exact AllReadyH.nil
                          exact AllReadyH.nil
                        exact AllReadyH.nil
                      exact AllReadyH.nil
                    refine AllReadyH.cons (o := _) rfl (fun K hK => ?_) ?_
                    · go_simp
                      try go_wp2_with fail
                      refine hK.out _ _ ?_ (fun hHelda62 => ?_)
                      · (try dsimp only); (first | exact m1 | exact mA1 | exact n1 | exact n2 | go_keep)
                      clear hK K hHelda53
                      try simp only [Act.put, List.getElem_toArray, List.getElem_cons_zero, List.getElem_cons_succ, List.setIfInBounds_toArray, List.set_cons_zero, List.set_cons_succ]
                      refine wpAnyH_take (i := 5) (oi := _) (v := ?av63) rfl (by kernel_rfl) (by kernel_rfl) (by kernel_rfl) (fun _ _ _ h => h) (Or.inl ⟨by rfl, ?ahy63⟩) (by assumption) ?arest63
                      case ahy63 => (intro w hSw; (try dsimp only at hSw); go_simp; all_goals with_reducible rfl)
                      try simp only [Act.put, List.getElem_toArray, List.getElem_cons_zero, List.getElem_cons_succ, List.setIfInBounds_toArray, List.set_cons_zero, List.set_cons_succ]
                      refine wpAnyH_ready (rs := [0]) (by kernel_rfl) (by simp) ?_
                      refine AllReadyH.cons (o := _) rfl (fun K hK => ?_) ?_
                      · go_simp
                        try go_wp2_with fail
                        refine hK.out _ _ ?_ (fun hHelda64 => ?_)
                        · (try dsimp only); (first | exact m1 | exact mA1 | exact n1 | exact n2 | go_keep)
                        clear hK K hHelda62
                        try simp only [Act.put, List.getElem_toArray, List.getElem_cons_zero, List.getElem_cons_succ, List.setIfInBounds_toArray, List.set_cons_zero, List.set_cons_succ]
                        refine wpAnyH_ready (rs := [6]) (by kernel_rfl) (by simp) ?_
                        refine AllReadyH.cons (o := _) rfl (fun K hK => ?_) ?_
                        · (first | ((rw [HV.out.1]; refine step_append_any lenI oneI rfl (.tmp 130) (.tmp 135) 23 rfl Y.heap.size 3 (.int .i64 0) 8 Try.underlying23 info3 rfl (by decide) (by decide) Y.heap.size 0 0 [] rfl (by simp [Act.eval, Act.put]) HE0.out.1 a i Fc (s.fl.take i) (by simp [Act.eval, Act.put]) HD.out.1 (rd_take HE0.out.2.1 i) HD.out.2.2.1 HE0.out.2.2.2.2 ?_; simp only [Nat.zero_add, List.nil_append]; intro g2 cap2 w5 hown1 hg1; have hm5 : MI w m s g cc (.slice (some a) s.fl.length Fc) w5 := HV.out.2.2.2.far HE0.out.2.2.1 HE0.out.2.2.2.1 HY.out.2.sz (Nat.le_refl _) hg1; have x1 := (nineT hm5.r0).2.1; have n1 := cell_of_row _ _ 1 _ _ _ hm5.r1; simp at n1; rw [HXX.out.1] at n1; have H5 := Lib.hid (And.intro hown1 (And.intro hm5 hg1.size)); clear hown1 hg1 hm5)) | ((refine step_append_any lenI oneI rfl (.tmp 136) (.tmp 142) 23 rfl Y.heap.size 3 (.int .i64 0) 8 Try.underlying23 info3 rfl (by decide) (by decide) g2 i cap2 (s.fl.take i) HD.out.1 (by simp [Act.eval, Act.put]) H5.out.1 a (s.fl.length - (i + 1)) (Fc - (i + 1)) (s.fl.drop (i + 1)) (by simp [Act.eval, Act.put]) HD.out.2.1 (by have h9 := HFC.out; rw [List.drop_eq_nil_of_le (by omega)]; exact Rd.nil _ _ _ _) HD.out.2.2.2.1 (Nat.le_trans HE0.out.2.2.2.2 H5.out.2.2) ?_; rw [HD.out.2.2.2.2, HF2.out.2.1]; intro g3 cap3 w6 hown2 hg2; have hm6 : MI w m s g cc (.slice (some a) s.fl.length Fc) w6 := H5.out.2.1.far HE0.out.2.2.1 HE0.out.2.2.2.1 HY.out.2.sz (H5.out.1.blk _ rfl).1 hg2; have x2 := (nineT hm6.r0).2.1; have y2 := (nineFT hm6.r0).2.1; have n2 := cell_of_row _ _ 1 _ _ _ hm6.r1; simp at n2; rw [HXX.out.1] at n2; have H6 := Lib.hid (And.intro hown2 hm6); clear hown2 hg2 hm6)))
                          refine hK.out _ _ ?_ (fun hHelda65 => ?_)
                          · (try dsimp only); (first | exact m1 | exact mA1 | exact n1 | exact n2 | go_keep)
                          clear hK K hHelda64
                          try simp only [Act.put, List.getElem_toArray, List.getElem_cons_zero, List.getElem_cons_succ, List.setIfInBounds_toArray, List.set_cons_zero, List.set_cons_succ]
                          refine wpAnyH_ready (rs := [13]) (by kernel_rfl) (by simp) ?_
                          refine AllReadyH.cons (o := _) rfl (fun K hK => ?_) ?_
                          · (first | ((rw [HV.out.1]; refine step_append_any lenI oneI rfl (.tmp 130) (.tmp 135) 23 rfl Y.heap.size 3 (.int .i64 0) 8 Try.underlying23 info3 rfl (by decide) (by decide) Y.heap.size 0 0 [] rfl (by simp [Act.eval, Act.put]) HE0.out.1 a i Fc (s.fl.take i) (by simp [Act.eval, Act.put]) HD.out.1 (rd_take HE0.out.2.1 i) HD.out.2.2.1 HE0.out.2.2.2.2 ?_; simp only [Nat.zero_add, List.nil_append]; intro g2 cap2 w5 hown1 hg1; have hm5 : MI w m s g cc (.slice (some a) s.fl.length Fc) w5 := HV.out.2.2.2.far HE0.out.2.2.1 HE0.out.2.2.2.1 HY.out.2.sz (Nat.le_refl _) hg1; have x1 := (nineT hm5.r0).2.1; have n1 := cell_of_row _ _ 1 _ _ _ hm5.r1; simp at n1; rw [HXX.out.1] at n1; have H5 := Lib.hid (And.intro hown1 (And.intro hm5 hg1.size)); clear hown1 hg1 hm5)) | ((refine step_append_any lenI oneI rfl (.tmp 136) (.tmp 142) 23 rfl Y.heap.size 3 (.int .i64 0) 8 Try.underlying23 info3 rfl (by decide) (by decide) g2 i cap2 (s.fl.take i) HD.out.1 (by simp [Act.eval, Act.put]) H5.out.1 a (s.fl.length - (i + 1)) (Fc - (i + 1)) (s.fl.drop (i + 1)) (by simp [Act.eval, Act.put]) HD.out.2.1 (by have h9 := HFC.out; rw [List.drop_eq_nil_of_le (by omega)]; exact Rd.nil _ _ _ _) HD.out.2.2.2.1 (Nat.le_trans HE0.out.2.2.2.2 H5.out.2.2) ?_; rw [HD.out.2.2.2.2, HF2.out.2.1]; intro g3 cap3 w6 hown2 hg2; have hm6 : MI w m s g cc (.slice (some a) s.fl.length Fc) w6 := H5.out.2.1.far HE0.out.2.2.1 HE0.out.2.2.2.1 HY.out.2.sz (H5.out.1.blk _ rfl).1 hg2; have x2 := (nineT hm6.r0).2.1; have y2 := (nineFT hm6.r0).2.1; have n2 := cell_of_row _ _ 1 _ _ _ hm6.r1; simp at n2; rw [HXX.out.1] at n2; have H6 := Lib.hid (And.intro hown2 hm6); clear hown2 hg2 hm6)))
                            refine hK.out _ _ ?_ (fun hHelda66 => ?_)
                            · (try dsimp only); (first | exact m1 | exact mA1 | exact n1 | exact n2 | go_keep)
                            clear hK K hHelda65
                            try simp only [Act.put, List.getElem_toArray, List.getElem_cons_zero, List.getElem_cons_succ, List.setIfInBounds_toArray, List.set_cons_zero, List.set_cons_succ]
                            refine wpAnyH_take (i := 14) (oi := _) (v := ?av67) rfl (by kernel_rfl) (by kernel_rfl) (by kernel_rfl) (fun _ _ _ h => h) (Or.inl ⟨by rfl, ?ahy67⟩) (by assumption) ?arest67
                            case ahy67 => (intro w hSw; (try dsimp only at hSw); go_simp; all_goals with_reducible rfl)
                            try simp only [Act.put, List.getElem_toArray, List.getElem_cons_zero, List.getElem_cons_succ, List.setIfInBounds_toArray, List.set_cons_zero, List.set_cons_succ]
                            refine wpAnyH_ready (rs := [15]) (by kernel_rfl) (by simp) ?_
                            refine AllReadyH.cons (o := _) rfl (fun K hK => ?_) ?_
                            · go_simp
                              try go_wp2_with fail
                              refine hK.out _ _ ?_ (fun hHelda68 => ?_)
                              · (try dsimp only); (first | exact m1 | exact mA1 | exact n1 | exact n2 | go_keep)
                              clear hK K hHelda66
                              try simp only [Act.put, List.getElem_toArray, List.getElem_cons_zero, List.getElem_cons_succ, List.setIfInBounds_toArray, List.set_cons_zero, List.set_cons_succ]
                              refine wpAnyH_done (by kernel_rfl) ?_ _
                              go_wp2_with fail
                              go_meet
                              exact ⟨some ⟨g3, 0, none⟩, cap3, H6.out.2.setF2 H6.out.1 HY.out.2.sz⟩
                            exact AllReadyH.nil
                          exact AllReadyH.nil
                        exact AllReadyH.nil
                      exact AllReadyH.nil
                    exact AllReadyH.nil
                  exact AllReadyH.nil
                · have k8 : (Fc = i + 1) = False := by simp [hFc]
                  clear hFc
                  refine wp_region_held_drew (S := (fun w' => w'.cell? ⟨w.heap.size + 1, 1, none⟩ = some (.int .i64 (i : Int)))) (by kernel_rfl) ?_ (fun hHeldb0 => ?_)
                  · (try dsimp only); (first | exact m1 | exact mA1 | exact n1 | exact n2 | go_keep)
                  refine wpAnyH_take (i := 1) (oi := _) (v := ?bv1) rfl (by kernel_rfl) (by kernel_rfl) (by kernel_rfl) (fun _ _ _ h => h) (Or.inl ⟨by rfl, ?bhy1⟩) (by assumption) ?brest1
                  case bhy1 => (intro w hSw; (try dsimp only at hSw); go_simp; all_goals with_reducible rfl)
                  try simp only [Act.put, List.getElem_toArray, List.getElem_cons_zero, List.getElem_cons_succ, List.setIfInBounds_toArray, List.set_cons_zero, List.set_cons_succ]
                  refine wpAnyH_take (i := 3) (oi := _) (v := ?bv2) rfl (by kernel_rfl) (by kernel_rfl) (by kernel_rfl) (fun _ _ _ h => h) (Or.inl ⟨by rfl, ?bhy2⟩) (by assumption) ?brest2
                  case bhy2 => (intro w hSw; (try dsimp only at hSw); go_simp; all_goals with_reducible rfl)
                  try simp only [Act.put, List.getElem_toArray, List.getElem_cons_zero, List.getElem_cons_succ, List.setIfInBounds_toArray, List.set_cons_zero, List.set_cons_succ]
                  refine wpAnyH_take (i := 4) (oi := _) (v := ?bv3) rfl (by kernel_rfl) (by kernel_rfl) (by kernel_rfl) (fun _ _ _ h => h) (Or.inl ⟨by rfl, ?bhy3⟩) (by assumption) ?brest3
                  case bhy3 => (intro w hSw; (try dsimp only at hSw); go_simp; all_goals with_reducible rfl)
                  try simp only [Act.put, List.getElem_toArray, List.getElem_cons_zero, List.getElem_cons_succ, List.setIfInBounds_toArray, List.set_cons_zero, List.set_cons_succ]
                  refine wpAnyH_take (i := 7) (oi := _) (v := ?bv4) rfl (by kernel_rfl) (by kernel_rfl) (by kernel_rfl) (fun _ _ _ h => h) (Or.inl ⟨by rfl, ?bhy4⟩) (by assumption) ?brest4
                  case bhy4 => (intro w hSw; (try dsimp only at hSw); go_simp; all_goals with_reducible rfl)
                  try simp only [Act.put, List.getElem_toArray, List.getElem_cons_zero, List.getElem_cons_succ, List.setIfInBounds_toArray, List.set_cons_zero, List.set_cons_succ]
                  refine wpAnyH_take (i := 9) (oi := _) (v := ?bv5) rfl (by kernel_rfl) (by kernel_rfl) (by kernel_rfl) (fun _ _ _ h => h) (Or.inl ⟨by rfl, ?bhy5⟩) (by assumption) ?brest5
                  case bhy5 => (intro w hSw; (try dsimp only at hSw); go_simp; all_goals with_reducible rfl)
                  try simp only [Act.put, List.getElem_toArray, List.getElem_cons_zero, List.getElem_cons_succ, List.setIfInBounds_toArray, List.set_cons_zero, List.set_cons_succ]
                  refine wpAnyH_take (i := 10) (oi := _) (v := ?bv6) rfl (by kernel_rfl) (by kernel_rfl) (by kernel_rfl) (fun _ _ _ h => h) (Or.inl ⟨by rfl, ?bhy6⟩) (by assumption) ?brest6
                  case bhy6 => (intro w hSw; (try dsimp only at hSw); go_simp; all_goals with_reducible rfl)
                  try simp only [Act.put, List.getElem_toArray, List.getElem_cons_zero, List.getElem_cons_succ, List.setIfInBounds_toArray, List.set_cons_zero, List.set_cons_succ]
                  refine wpAnyH_take (i := 11) (oi := _) (v := ?bv7) rfl (by kernel_rfl) (by kernel_rfl) (by kernel_rfl) (fun _ _ _ h => h) (Or.inl ⟨by rfl, ?bhy7⟩) (by assumption) ?brest7
                  case bhy7 => (intro w hSw; (try dsimp only at hSw); go_simp; all_goals with_reducible rfl)
                  try simp only [Act.put, List.getElem_toArray, List.getElem_cons_zero, List.getElem_cons_succ, List.setIfInBounds_toArray, List.set_cons_zero, List.set_cons_succ]
                  refine wpAnyH_ready (rs := [0, 2, 8]) (by kernel_rfl) (by simp) ?_
                  refine AllReadyH.cons (o := _) rfl (fun K hK => ?_) ?_
                  · go_simp
                    try go_wp2_with fail
                    refine hK.out _ _ ?_ (fun hHeldb8 => ?_)
                    · (try dsimp only); (first | exact m1 | exact mA1 | exact n1 | exact n2 | go_keep)
                    clear hK K hHeldb0
                    try simp only [Act.put, List.getElem_toArray, List.getElem_cons_zero, List.getElem_cons_succ, List.setIfInBounds_toArray, List.set_cons_zero, List.set_cons_succ]
                    refine wpAnyH_ready (rs := [2, 8]) (by kernel_rfl) (by simp) ?_
                    refine AllReadyH.cons (o := _) rfl (fun K hK => ?_) ?_
                    · go_simp
                      try go_wp2_with fail
                      refine hK.out _ _ ?_ (fun hHeldb9 => ?_)
                      · (try dsimp only); (first | exact m1 | exact mA1 | exact n1 | exact n2 | go_keep)
                      clear hK K hHeldb8
                      try simp only [Act.put, List.getElem_toArray, List.getElem_cons_zero, List.getElem_cons_succ, List.setIfInBounds_toArray, List.set_cons_zero, List.set_cons_succ]
                      refine wpAnyH_take (i := 5) (oi := _) (v := ?bv10) rfl (by kernel_rfl) (by kernel_rfl) (by kernel_rfl) (fun _ _ _ h => h) (Or.inl ⟨by rfl, ?bhy10⟩) (by assumption) ?brest10
                      case bhy10 => (intro w hSw; (try dsimp only at hSw); go_simp; all_goals with_reducible rfl)
                      try simp only [Act.put, List.getElem_toArray, List.getElem_cons_zero, List.getElem_cons_succ, List.setIfInBounds_toArray, List.set_cons_zero, List.set_cons_succ]
                      refine wpAnyH_ready (rs := [6, 8]) (by kernel_rfl) (by simp) ?_
                      refine AllReadyH.cons (o := _) rfl (fun K hK => ?_) ?_
                      · (first | ((rw [HV.out.1]; refine step_append_any lenI oneI rfl (.tmp 130) (.tmp 135) 23 rfl Y.heap.size 3 (.int .i64 0) 8 Try.underlying23 info3 rfl (by decide) (by decide) Y.heap.size 0 0 [] rfl (by simp [Act.eval, Act.put]) HE0.out.1 a i Fc (s.fl.take i) (by simp [Act.eval, Act.put]) HD.out.1 (rd_take HE0.out.2.1 i) HD.out.2.2.1 HE0.out.2.2.2.2 ?_; simp only [Nat.zero_add, List.nil_append]; intro g2 cap2 w5 hown1 hg1; have hm5 : MI w m s g cc (.slice (some a) s.fl.length Fc) w5 := HV.out.2.2.2.far HE0.out.2.2.1 HE0.out.2.2.2.1 HY.out.2.sz (Nat.le_refl _) hg1; have x1 := (nineT hm5.r0).2.1; have n1 := cell_of_row _ _ 1 _ _ _ hm5.r1; simp at n1; rw [HXX.out.1] at n1; have H5 := Lib.hid (And.intro hown1 (And.intro hm5 hg1.size)); clear hown1 hg1 hm5)) | ((refine step_append_any lenI oneI rfl (.tmp 136) (.tmp 142) 23 rfl Y.heap.size 3 (.int .i64 0) 8 Try.underlying23 info3 rfl (by decide) (by decide) g2 i cap2 (s.fl.take i) HD.out.1 (by simp [Act.eval, Act.put]) H5.out.1 ⟨a.block, a.off + (i + 1), none⟩ (s.fl.length - (i + 1)) (Fc - (i + 1)) (s.fl.drop (i + 1)) (by simp [Act.eval, Act.put]) HD.out.2.1 (by have h := rd_drop H5.out.2.1.rds.fl (i + 1); rw [show a.add ((i + 1) * 1) = ⟨a.block, a.off + (i + 1), none⟩ by rw [Nat.mul_one]; simp [Addr.add]] at h; exact h) HD.out.2.2.2.1 (Nat.le_trans HE0.out.2.2.2.2 H5.out.2.2) ?_; rw [HD.out.2.2.2.2, HF2.out.2.1]; intro g3 cap3 w6 hown2 hg2; have hm6 : MI w m s g cc (.slice (some a) s.fl.length Fc) w6 := H5.out.2.1.far HE0.out.2.2.1 HE0.out.2.2.2.1 HY.out.2.sz (H5.out.1.blk _ rfl).1 hg2; have x2 := (nineT hm6.r0).2.1; have y2 := (nineFT hm6.r0).2.1; have n2 := cell_of_row _ _ 1 _ _ _ hm6.r1; simp at n2; rw [HXX.out.1] at n2; have H6 := Lib.hid (And.intro hown2 hm6); clear hown2 hg2 hm6)))
                        refine hK.out _ _ ?_ (fun hHeldb11 => ?_)
                        · (try dsimp only); (first | exact m1 | exact mA1 | exact n1 | exact n2 | go_keep)
                        clear hK K hHeldb9
                        try simp only [Act.put, List.getElem_toArray, List.getElem_cons_zero, List.getElem_cons_succ, List.setIfInBounds_toArray, List.set_cons_zero, List.set_cons_succ]
                        refine wpAnyH_ready (rs := [8]) (by kernel_rfl) (by simp) ?_
                        refine AllReadyH.cons (o := _) rfl (fun K hK => ?_) ?_
                        · go_simp
                          try go_wp2_with fail
                          refine hK.out _ _ ?_ (fun hHeldb12 => ?_)
                          · (try dsimp only); (first | exact m1 | exact mA1 | exact n1 | exact n2 | go_keep)
                          clear hK K hHeldb11
                          try simp only [Act.put, List.getElem_toArray, List.getElem_cons_zero, List.getElem_cons_succ, List.setIfInBounds_toArray, List.set_cons_zero, List.set_cons_succ]
                          refine wpAnyH_take (i := 12) (oi := _) (v := ?bv13) rfl (by kernel_rfl) (by kernel_rfl) (by kernel_rfl) (fun _ _ _ h => h) (Or.inl ⟨by rfl, ?bhy13⟩) (by assumption) ?brest13
                          case bhy13 => (intro w hSw; (try dsimp only at hSw); go_simp; all_goals with_reducible rfl)
                          try simp only [Act.put, List.getElem_toArray, List.getElem_cons_zero, List.getElem_cons_succ, List.setIfInBounds_toArray, List.set_cons_zero, List.set_cons_succ]
                          refine wpAnyH_ready (rs := [13]) (by kernel_rfl) (by simp) ?_
                          refine AllReadyH.cons (o := _) rfl (fun K hK => ?_) ?_
                          · (first | ((rw [HV.out.1]; refine step_append_any lenI oneI rfl (.tmp 130) (.tmp 135) 23 rfl Y.heap.size 3 (.int .i64 0) 8 Try.underlying23 info3 rfl (by decide) (by decide) Y.heap.size 0 0 [] rfl (by simp [Act.eval, Act.put]) HE0.out.1 a i Fc (s.fl.take i) (by simp [Act.eval, Act.put]) HD.out.1 (rd_take HE0.out.2.1 i) HD.out.2.2.1 HE0.out.2.2.2.2 ?_; simp only [Nat.zero_add, List.nil_append]; intro g2 cap2 w5 hown1 hg1; have hm5 : MI w m s g cc (.slice (some a) s.fl.length Fc) w5 := HV.out.2.2.2.far HE0.out.2.2.1 HE0.out.2.2.2.1 HY.out.2.sz (Nat.le_refl _) hg1; have x1 := (nineT hm5.r0).2.1; have n1 := cell_of_row _ _ 1 _ _ _ hm5.r1; simp at n1; rw [HXX.out.1] at n1; have H5 := Lib.hid (And.intro hown1 (And.intro hm5 hg1.size)); clear hown1 hg1 hm5)) | ((refine step_append_any lenI oneI rfl (.tmp 136) (.tmp 142) 23 rfl Y.heap.size 3 (.int .i64 0) 8 Try.underlying23 info3 rfl (by decide) (by decide) g2 i cap2 (s.fl.take i) HD.out.1 (by simp [Act.eval, Act.put]) H5.out.1 ⟨a.block, a.off + (i + 1), none⟩ (s.fl.length - (i + 1)) (Fc - (i + 1)) (s.fl.drop (i + 1)) (by simp [Act.eval, Act.put]) HD.out.2.1 (by have h := rd_drop H5.out.2.1.rds.fl (i + 1); rw [show a.add ((i + 1) * 1) = ⟨a.block, a.off + (i + 1), none⟩ by rw [Nat.mul_one]; simp [Addr.add]] at h; exact h) HD.out.2.2.2.1 (Nat.le_trans HE0.out.2.2.2.2 H5.out.2.2) ?_; rw [HD.out.2.2.2.2, HF2.out.2.1]; intro g3 cap3 w6 hown2 hg2; have hm6 : MI w m s g cc (.slice (some a) s.fl.length Fc) w6 := H5.out.2.1.far HE0.out.2.2.1 HE0.out.2.2.2.1 HY.out.2.sz (H5.out.1.blk _ rfl).1 hg2; have x2 := (nineT hm6.r0).2.1; have y2 := (nineFT hm6.r0).2.1; have n2 := cell_of_row _ _ 1 _ _ _ hm6.r1; simp at n2; rw [HXX.out.1] at n2; have H6 := Lib.hid (And.intro hown2 hm6); clear hown2 hg2 hm6)))
                            refine hK.out _ _ ?_ (fun hHeldb14 => ?_)
                            · (try dsimp only); (first | exact m1 | exact mA1 | exact n1 | exact n2 | go_keep)
                            clear hK K hHeldb12
                            try simp only [Act.put, List.getElem_toArray, List.getElem_cons_zero, List.getElem_cons_succ, List.setIfInBounds_toArray, List.set_cons_zero, List.set_cons_succ]
                            refine wpAnyH_take (i := 14) (oi := _) (v := ?bv15) rfl (by kernel_rfl) (by kernel_rfl) (by kernel_rfl) (fun _ _ _ h => h) (Or.inl ⟨by rfl, ?bhy15⟩) (by assumption) ?brest15
                            case bhy15 => (intro w hSw; (try dsimp only at hSw); go_simp; all_goals with_reducible rfl)
                            try simp only [Act.put, List.getElem_toArray, List.getElem_cons_zero, List.getElem_cons_succ, List.setIfInBounds_toArray, List.set_cons_zero, List.set_cons_succ]
                            refine wpAnyH_ready (rs := [15]) (by kernel_rfl) (by simp) ?_
                            refine AllReadyH.cons (o := _) rfl (fun K hK => ?_) ?_
                            · go_simp
                              try go_wp2_with fail
                              refine hK.out _ _ ?_ (fun hHeldb16 => ?_)
                              · (try dsimp only); (first | exact m1 | exact mA1 | exact n1 | exact n2 | go_keep)
                              clear hK K hHeldb14
                              try simp only [Act.put, List.getElem_toArray, List.getElem_cons_zero, List.getElem_cons_succ, List.setIfInBounds_toArray, List.set_cons_zero, List.set_cons_succ]
                              refine wpAnyH_done (by kernel_rfl) ?_ _
                              go_wp2_with fail
                              go_meet
                              exact ⟨some ⟨g3, 0, none⟩, cap3, H6.out.2.setF2 H6.out.1 HY.out.2.sz⟩
                            exact AllReadyH.nil
                          exact AllReadyH.nil
                        exact AllReadyH.nil
                      refine AllReadyH.cons (o := _) rfl (fun K hK => ?_) ?_
                      · go_simp
                        try go_wp2_with fail
                        refine hK.out _ _ ?_ (fun hHeldb17 => ?_)
                        · (try dsimp only); (first | exact m1 | exact mA1 | exact n1 | exact n2 | go_keep)
                        clear hK K hHeldb9
                        try simp only [Act.put, List.getElem_toArray, List.getElem_cons_zero, List.getElem_cons_succ, List.setIfInBounds_toArray, List.set_cons_zero, List.set_cons_succ]
                        refine wpAnyH_take (i := 12) (oi := _) (v := ?bv18) rfl (by kernel_rfl) (by kernel_rfl) (by kernel_rfl) (fun _ _ _ h => h) (Or.inl ⟨by rfl, ?bhy18⟩) (by assumption) ?brest18
                        case bhy18 => (intro w hSw; (try dsimp only at hSw); go_simp; all_goals with_reducible rfl)
                        try simp only [Act.put, List.getElem_toArray, List.getElem_cons_zero, List.getElem_cons_succ, List.setIfInBounds_toArray, List.set_cons_zero, List.set_cons_succ]
                        refine wpAnyH_ready (rs := [6]) (by kernel_rfl) (by simp) ?_
                        refine AllReadyH.cons (o := _) rfl (fun K hK => ?_) ?_
                        · (first | ((rw [HV.out.1]; refine step_append_any lenI oneI rfl (.tmp 130) (.tmp 135) 23 rfl Y.heap.size 3 (.int .i64 0) 8 Try.underlying23 info3 rfl (by decide) (by decide) Y.heap.size 0 0 [] rfl (by simp [Act.eval, Act.put]) HE0.out.1 a i Fc (s.fl.take i) (by simp [Act.eval, Act.put]) HD.out.1 (rd_take HE0.out.2.1 i) HD.out.2.2.1 HE0.out.2.2.2.2 ?_; simp only [Nat.zero_add, List.nil_append]; intro g2 cap2 w5 hown1 hg1; have hm5 : MI w m s g cc (.slice (some a) s.fl.length Fc) w5 := HV.out.2.2.2.far HE0.out.2.2.1 HE0.out.2.2.2.1 HY.out.2.sz (Nat.le_refl _) hg1; have x1 := (nineT hm5.r0).2.1; have n1 := cell_of_row _ _ 1 _ _ _ hm5.r1; simp at n1; rw [HXX.out.1] at n1; have H5 := Lib.hid (And.intro hown1 (And.intro hm5 hg1.size)); clear hown1 hg1 hm5)) | ((refine step_append_any lenI oneI rfl (.tmp 136) (.tmp 142) 23 rfl Y.heap.size 3 (.int .i64 0) 8 Try.underlying23 info3 rfl (by decide) (by decide) g2 i cap2 (s.fl.take i) HD.out.1 (by simp [Act.eval, Act.put]) H5.out.1 ⟨a.block, a.off + (i + 1), none⟩ (s.fl.length - (i + 1)) (Fc - (i + 1)) (s.fl.drop (i + 1)) (by simp [Act.eval, Act.put]) HD.out.2.1 (by have h := rd_drop H5.out.2.1.rds.fl (i + 1); rw [show a.add ((i + 1) * 1) = ⟨a.block, a.off + (i + 1), none⟩ by rw [Nat.mul_one]; simp [Addr.add]] at h; exact h) HD.out.2.2.2.1 (Nat.le_trans HE0.out.2.2.2.2 H5.out.2.2) ?_; rw [HD.out.2.2.2.2, HF2.out.2.1]; intro g3 cap3 w6 hown2 hg2; have hm6 : MI w m s g cc (.slice (some a) s.fl.length Fc) w6 := H5.out.2.1.far HE0.out.2.2.1 HE0.out.2.2.2.1 HY.out.2.sz (H5.out.1.blk _ rfl).1 hg2; have x2 := (nineT hm6.r0).2.1; have y2 := (nineFT hm6.r0).2.1; have n2 := cell_of_row _ _ 1 _ _ _ hm6.r1; simp at n2; rw [HXX.out.1] at n2; have H6 := Lib.hid (And.intro hown2 hm6); clear hown2 hg2 hm6)))
                          refine hK.out _ _ ?_ (fun hHeldb19 => ?_)
                          · (try dsimp only); (first | exact m1 | exact mA1 | exact n1 | exact n2 | go_keep)
                          clear hK K hHeldb17
                          try simp only [Act.put, List.getElem_toArray, List.getElem_cons_zero, List.getElem_cons_succ, List.setIfInBounds_toArray, List.set_cons_zero, List.set_cons_succ]
                          refine wpAnyH_ready (rs := [13]) (by kernel_rfl) (by simp) ?_
                          refine AllReadyH.cons (o := _) rfl (fun K hK => ?_) ?_
                          · (first | ((rw [HV.out.1]; refine step_append_any lenI oneI rfl (.tmp 130) (.tmp 135) 23 rfl Y.heap.size 3 (.int .i64 0) 8 Try.underlying23 info3 rfl (by decide) (by decide) Y.heap.size 0 0 [] rfl (by simp [Act.eval, Act.put]) HE0.out.1 a i Fc (s.fl.take i) (by simp [Act.eval, Act.put]) HD.out.1 (rd_take HE0.out.2.1 i) HD.out.2.2.1 HE0.out.2.2.2.2 ?_; simp only [Nat.zero_add, List.nil_append]; intro g2 cap2 w5 hown1 hg1; have hm5 : MI w m s g cc (.slice (some a) s.fl.length Fc) w5 := HV.out.2.2.2.far HE0.out.2.2.1 HE0.out.2.2.2.1 HY.out.2.sz (Nat.le_refl _) hg1; have x1 := (nineT hm5.r0).2.1; have n1 := cell_of_row _ _ 1 _ _ _ hm5.r1; simp at n1; rw [HXX.out.1] at n1; have H5 := Lib.hid (And.intro hown1 (And.intro hm5 hg1.size)); clear hown1 hg1 hm5)) | ((refine step_append_any lenI oneI rfl (.tmp 136) (.tmp 142) 23 rfl Y.heap.size 3 (.int .i64 0) 8 Try.underlying23 info3 rfl (by decide) (by decide) g2 i cap2 (s.fl.take i) HD.out.1 (by simp [Act.eval, Act.put]) H5.out.1 ⟨a.block, a.off + (i + 1), none⟩ (s.fl.length - (i + 1)) (Fc - (i + 1)) (s.fl.drop (i + 1)) (by simp [Act.eval, Act.put]) HD.out.2.1 (by have h := rd_drop H5.out.2.1.rds.fl (i + 1); rw [show a.add ((i + 1) * 1) = ⟨a.block, a.off + (i + 1), none⟩ by rw [Nat.mul_one]; simp [Addr.add]] at h; exact h) HD.out.2.2.2.1 (Nat.le_trans HE0.out.2.2.2.2 H5.out.2.2) ?_; rw [HD.out.2.2.2.2, HF2.out.2.1]; intro g3 cap3 w6 hown2 hg2; have hm6 : MI w m s g cc (.slice (some a) s.fl.length Fc) w6 := H5.out.2.1.far HE0.out.2.2.1 HE0.out.2.2.2.1 HY.out.2.sz (H5.out.1.blk _ rfl).1 hg2; have x2 := (nineT hm6.r0).2.1; have y2 := (nineFT hm6.r0).2.1; have n2 := cell_of_row _ _ 1 _ _ _ hm6.r1; simp at n2; rw [HXX.out.1] at n2; have H6 := Lib.hid (And.intro hown2 hm6); clear hown2 hg2 hm6)))
                            refine hK.out _ _ ?_ (fun hHeldb20 => ?_)
                            · (try dsimp only); (first | exact m1 | exact mA1 | exact n1 | exact n2 | go_keep)
                            clear hK K hHeldb19
                            try simp only [Act.put, List.getElem_toArray, List.getElem_cons_zero, List.getElem_cons_succ, List.setIfInBounds_toArray, List.set_cons_zero, List.set_cons_succ]
                            refine wpAnyH_take (i := 14) (oi := _) (v := ?bv21) rfl (by kernel_rfl) (by kernel_rfl) (by kernel_rfl) (fun _ _ _ h => h) (Or.inl ⟨by rfl, ?bhy21⟩) (by assumption) ?brest21
                            case bhy21 => (intro w hSw; (try dsimp only at hSw); go_simp; all_goals with_reducible rfl)
                            try simp only [Act.put, List.getElem_toArray, List.getElem_cons_zero, List.getElem_cons_succ, List.setIfInBounds_toArray, List.set_cons_zero, List.set_cons_succ]
                            refine wpAnyH_ready (rs := [15]) (by kernel_rfl) (by simp) ?_
                            refine AllReadyH.cons (o := _) rfl (fun K hK => ?_) ?_
                            · go_simp
                              try go_wp2_with fail
                              refine hK.out _ _ ?_ (fun hHeldb22 => ?_)
                              · (try dsimp only); (first | exact m1 | exact mA1 | exact n1 | exact n2 | go_keep)
                              clear hK K hHeldb20
                              try simp only [Act.put, List.getElem_toArray, List.getElem_cons_zero, List.getElem_cons_succ, List.setIfInBounds_toArray, List.set_cons_zero, List.set_cons_succ]
                              refine wpAnyH_done (by kernel_rfl) ?_ _
                              go_wp2_with fail
                              go_meet
                              exact ⟨some ⟨g3, 0, none⟩, cap3, H6.out.2.setF2 H6.out.1 HY.out.2.sz⟩
                            exact AllReadyH.nil
                          exact AllReadyH.nil
                        exact AllReadyH.nil
                      exact AllReadyH.nil
                    refine AllReadyH.cons (o := _) rfl (fun K hK => ?_) ?_
                    · go_simp
                      try go_wp2_with fail
                      refine hK.out _ _ ?_ (fun hHeldb23 => ?_)
                      · (try dsimp only); (first | exact m1 | exact mA1 | exact n1 | exact n2 | go_keep)
                      clear hK K hHeldb8
                      try simp only [Act.put, List.getElem_toArray, List.getElem_cons_zero, List.getElem_cons_succ, List.setIfInBounds_toArray, List.set_cons_zero, List.set_cons_succ]
                      refine wpAnyH_take (i := 12) (oi := _) (v := ?bv24) rfl (by kernel_rfl) (by kernel_rfl) (by kernel_rfl) (fun _ _ _ h => h) (Or.inl ⟨by rfl, ?bhy24⟩) (by assumption) ?brest24
                      case bhy24 => (intro w hSw; (try dsimp only at hSw); go_simp; all_goals with_reducible rfl)
                      try simp only [Act.put, List.getElem_toArray, List.getElem_cons_zero, List.getElem_cons_succ, List.setIfInBounds_toArray, List.set_cons_zero, List.set_cons_succ]
                      refine wpAnyH_ready (rs := [2]) (by kernel_rfl) (by simp) ?_
                      refine AllReadyH.cons (o := _) rfl (fun K hK => ?_) ?_
                      · go_simp
                        try go_wp2_with fail
                        refine hK.out _ _ ?_ (fun hHeldb25 => ?_)
                        · (try dsimp only); (first | exact m1 | exact mA1 | exact n1 | exact n2 | go_keep)
                        clear hK K hHeldb23
                        try simp only [Act.put, List.getElem_toArray, List.getElem_cons_zero, List.getElem_cons_succ, List.setIfInBounds_toArray, List.set_cons_zero, List.set_cons_succ]
                        refine wpAnyH_take (i := 5) (oi := _) (v := ?bv26) rfl (by kernel_rfl) (by kernel_rfl) (by kernel_rfl) (fun _ _ _ h => h) (Or.inl ⟨by rfl, ?bhy26⟩) (by assumption) ?brest26
                        case bhy26 => (intro w hSw; (try dsimp only at hSw); go_simp; all_goals with_reducible rfl)
                        try simp only [Act.put, List.getElem_toArray, List.getElem_cons_zero, List.getElem_cons_succ, List.setIfInBounds_toArray, List.set_cons_zero, List.set_cons_succ]
                        refine wpAnyH_ready (rs := [6]) (by kernel_rfl) (by simp) ?_
                        refine AllReadyH.cons (o := _) rfl (fun K hK => ?_) ?_
                        · (first | ((rw [HV.out.1]; refine step_append_any lenI oneI rfl (.tmp 130) (.tmp 135) 23 rfl Y.heap.size 3 (.int .i64 0) 8 Try.underlying23 info3 rfl (by decide) (by decide) Y.heap.size 0 0 [] rfl (by simp [Act.eval, Act.put]) HE0.out.1 a i Fc (s.fl.take i) (by simp [Act.eval, Act.put]) HD.out.1 (rd_take HE0.out.2.1 i) HD.out.2.2.1 HE0.out.2.2.2.2 ?_; simp only [Nat.zero_add, List.nil_append]; intro g2 cap2 w5 hown1 hg1; have hm5 : MI w m s g cc (.slice (some a) s.fl.length Fc) w5 := HV.out.2.2.2.far HE0.out.2.2.1 HE0.out.2.2.2.1 HY.out.2.sz (Nat.le_refl _) hg1; have x1 := (nineT hm5.r0).2.1; have n1 := cell_of_row _ _ 1 _ _ _ hm5.r1; simp at n1; rw [HXX.out.1] at n1; have H5 := Lib.hid (And.intro hown1 (And.intro hm5 hg1.size)); clear hown1 hg1 hm5)) | ((refine step_append_any lenI oneI rfl (.tmp 136) (.tmp 142) 23 rfl Y.heap.size 3 (.int .i64 0) 8 Try.underlying23 info3 rfl (by decide) (by decide) g2 i cap2 (s.fl.take i) HD.out.1 (by simp [Act.eval, Act.put]) H5.out.1 ⟨a.block, a.off + (i + 1), none⟩ (s.fl.length - (i + 1)) (Fc - (i + 1)) (s.fl.drop (i + 1)) (by simp [Act.eval, Act.put]) HD.out.2.1 (by have h := rd_drop H5.out.2.1.rds.fl (i + 1); rw [show a.add ((i + 1) * 1) = ⟨a.block, a.off + (i + 1), none⟩ by rw [Nat.mul_one]; simp [Addr.add]] at h; exact h) HD.out.2.2.2.1 (Nat.le_trans HE0.out.2.2.2.2 H5.out.2.2) ?_; rw [HD.out.2.2.2.2, HF2.out.2.1]; intro g3 cap3 w6 hown2 hg2; have hm6 : MI w m s g cc (.slice (some a) s.fl.length Fc) w6 := H5.out.2.1.far HE0.out.2.2.1 HE0.out.2.2.2.1 HY.out.2.sz (H5.out.1.blk _ rfl).1 hg2; have x2 := (nineT hm6.r0).2.1; have y2 := (nineFT hm6.r0).2.1; have n2 := cell_of_row _ _ 1 _ _ _ hm6.r1; simp at n2; rw [HXX.out.1] at n2; have H6 := Lib.hid (And.intro hown2 hm6); clear hown2 hg2 hm6)))
                          refine hK.out _ _ ?_ (fun hHeldb27 => ?_)
                          · (try dsimp only); (first | exact m1 | exact mA1 | exact n1 | exact n2 | go_keep)
                          clear hK K hHeldb25
                          try simp only [Act.put, List.getElem_toArray, List.getElem_cons_zero, List.getElem_cons_succ, List.setIfInBounds_toArray, List.set_cons_zero, List.set_cons_succ]
                          refine wpAnyH_ready (rs := [13]) (by kernel_rfl) (by simp) ?_
                          refine AllReadyH.cons (o := _) rfl (fun K hK => ?_) ?_
                          · (first | ((rw [HV.out.1]; refine step_append_any lenI oneI rfl (.tmp 130) (.tmp 135) 23 rfl Y.heap.size 3 (.int .i64 0) 8 Try.underlying23 info3 rfl (by decide) (by decide) Y.heap.size 0 0 [] rfl (by simp [Act.eval, Act.put]) HE0.out.1 a i Fc (s.fl.take i) (by simp [Act.eval, Act.put]) HD.out.1 (rd_take HE0.out.2.1 i) HD.out.2.2.1 HE0.out.2.2.2.2 ?_; simp only [Nat.zero_add, List.nil_append]; intro g2 cap2 w5 hown1 hg1; have hm5 : MI w m s g cc (.slice (some a) s.fl.length Fc) w5 := HV.out.2.2.2.far HE0.out.2.2.1 HE0.out.2.2.2.1 HY.out.2.sz (Nat.le_refl _) hg1; have x1 := (nineT hm5.r0).2.1; have n1 := cell_of_row _ _ 1 _ _ _ hm5.r1; simp at n1; rw [HXX.out.1] at n1; have H5 := Lib.hid (And.intro hown1 (And.intro hm5 hg1.size)); clear hown1 hg1 hm5)) | ((refine step_append_any lenI oneI rfl (.tmp 136) (.tmp 142) 23 rfl Y.heap.size 3 (.int .i64 0) 8 Try.underlying23 info3 rfl (by decide) (by decide) g2 i cap2 (s.fl.take i) HD.out.1 (by simp [Act.eval, Act.put]) H5.out.1 ⟨a.block, a.off + (i + 1), none⟩ (s.fl.length - (i + 1)) (Fc - (i + 1)) (s.fl.drop (i + 1)) (by simp [Act.eval, Act.put]) HD.out.2.1 (by have h := rd_drop H5.out.2.1.rds.fl (i + 1); rw [show a.add ((i + 1) * 1) = ⟨a.block, a.off + (i + 1), none⟩ by rw [Nat.mul_one]; simp [Addr.add]] at h; exact h) HD.out.2.2.2.1 (Nat.le_trans HE0.out.2.2.2.2 H5.out.2.2) ?_; rw [HD.out.2.2.2.2, HF2.out.2.1]; intro g3 cap3 w6 hown2 hg2; have hm6 : MI w m s g cc (.slice (some a) s.fl.length Fc) w6 := H5.out.2.1.far HE0.out.2.2.1 HE0.out.2.2.2.1 HY.out.2.sz (H5.out.1.blk _ rfl).1 hg2; have x2 := (nineT hm6.r0).2.1; have y2 := (nineFT hm6.r0).2.1; have n2 := cell_of_row _ _ 1 _ _ _ hm6.r1; simp at n2; rw [HXX.out.1] at n2; have H6 := Lib.hid (And.intro hown2 hm6); clear hown2 hg2 hm6)))
                            refine hK.out _ _ ?_ (fun hHeldb28 => ?_)
                            · (try dsimp only); (first | exact m1 | exact mA1 | exact n1 | exact n2 | go_keep)
                            clear hK K hHeldb27
                            try simp only [Act.put, List.getElem_toArray, List.getElem_cons_zero, List.getElem_cons_succ, List.setIfInBounds_toArray, List.set_cons_zero, List.set_cons_succ]
                            refine wpAnyH_take (i := 14) (oi := _) (v := ?bv29) rfl (by kernel_rfl) (by kernel_rfl) (by kernel_rfl) (fun _ _ _ h => h) (Or.inl ⟨by rfl, ?bhy29⟩) (by assumption) ?brest29
                            case bhy29 => (intro w hSw; (try dsimp only at hSw); go_simp; all_goals with_reducible rfl)
                            try simp only [Act.put, List.getElem_toArray, List.getElem_cons_zero, List.getElem_cons_succ, List.setIfInBounds_toArray, List.set_cons_zero, List.set_cons_succ]
                            refine wpAnyH_ready (rs := [15]) (by kernel_rfl) (by simp) ?_
                            refine AllReadyH.cons (o := _) rfl (fun K hK => ?_) ?_
                            · go_simp
                              try go_wp2_with fail
                              refine hK.out _ _ ?_ (fun hHeldb30 => ?_)
                              · (try dsimp only); (first | exact m1 | exact mA1 | exact n1 | exact n2 | go_keep)
                              clear hK K hHeldb28
                              try simp only [Act.put, List.getElem_toArray, List.getElem_cons_zero, List.getElem_cons_succ, List.setIfInBounds_toArray, List.set_cons_zero, List.set_cons_succ]
                              refine wpAnyH_done (by kernel_rfl) ?_ _
                              go_wp2_with fail
                              go_meet
                              exact ⟨some ⟨g3, 0, none⟩, cap3, H6.out.2.setF2 H6.out.1 HY.out.2.sz⟩
                            exact AllReadyH.nil
                          exact AllReadyH.nil
                        exact AllReadyH.nil
                      exact AllReadyH.nil
                    exact AllReadyH.nil
                  refine AllReadyH.cons (o := _) rfl (fun K hK => ?_) ?_
                  · go_simp
                    try go_wp2_with fail
                    refine hK.out _ _ ?_ (fun hHeldb31 => ?_)
                    · (try dsimp only); (first | exact m1 | exact mA1 | exact n1 | exact n2 | go_keep)
                    clear hK K hHeldb0
                    try simp only [Act.put, List.getElem_toArray, List.getElem_cons_zero, List.getElem_cons_succ, List.setIfInBounds_toArray, List.set_cons_zero, List.set_cons_succ]
                    refine wpAnyH_take (i := 5) (oi := _) (v := ?bv32) rfl (by kernel_rfl) (by kernel_rfl) (by kernel_rfl) (fun _ _ _ h => h) (Or.inl ⟨by rfl, ?bhy32⟩) (by assumption) ?brest32
                    case bhy32 => (intro w hSw; (try dsimp only at hSw); go_simp; all_goals with_reducible rfl)
                    try simp only [Act.put, List.getElem_toArray, List.getElem_cons_zero, List.getElem_cons_succ, List.setIfInBounds_toArray, List.set_cons_zero, List.set_cons_succ]
                    refine wpAnyH_ready (rs := [0, 8]) (by kernel_rfl) (by simp) ?_
                    refine AllReadyH.cons (o := _) rfl (fun K hK => ?_) ?_
                    · go_simp
                      try go_wp2_with fail
                      refine hK.out _ _ ?_ (fun hHeldb33 => ?_)
                      · (try dsimp only); (first | exact m1 | exact mA1 | exact n1 | exact n2 | go_keep)
                      clear hK K hHeldb31
                      try simp only [Act.put, List.getElem_toArray, List.getElem_cons_zero, List.getElem_cons_succ, List.setIfInBounds_toArray, List.set_cons_zero, List.set_cons_succ]
                      refine wpAnyH_ready (rs := [6, 8]) (by kernel_rfl) (by simp) ?_
                      refine AllReadyH.cons (o := _) rfl (fun K hK => ?_) ?_
                      · (first | ((rw [HV.out.1]; refine step_append_any lenI oneI rfl (.tmp 130) (.tmp 135) 23 rfl Y.heap.size 3 (.int .i64 0) 8 Try.underlying23 info3 rfl (by decide) (by decide) Y.heap.size 0 0 [] rfl (by simp [Act.eval, Act.put]) HE0.out.1 a i Fc (s.fl.take i) (by simp [Act.eval, Act.put]) HD.out.1 (rd_take HE0.out.2.1 i) HD.out.2.2.1 HE0.out.2.2.2.2 ?_; simp only [Nat.zero_add, List.nil_append]; intro g2 cap2 w5 hown1 hg1; have hm5 : MI w m s g cc (.slice (some a) s.fl.length Fc) w5 := HV.out.2.2.2.far HE0.out.2.2.1 HE0.out.2.2.2.1 HY.out.2.sz (Nat.le_refl _) hg1; have x1 := (nineT hm5.r0).2.1; have n1 := cell_of_row _ _ 1 _ _ _ hm5.r1; simp at n1; rw [HXX.out.1] at n1; have H5 := Lib.hid (And.intro hown1 (And.intro hm5 hg1.size)); clear hown1 hg1 hm5)) | ((refine step_append_any lenI oneI rfl (.tmp 136) (.tmp 142) 23 rfl Y.heap.size 3 (.int .i64 0) 8 Try.underlying23 info3 rfl (by decide) (by decide) g2 i cap2 (s.fl.take i) HD.out.1 (by simp [Act.eval, Act.put]) H5.out.1 ⟨a.block, a.off + (i + 1), none⟩ (s.fl.length - (i + 1)) (Fc - (i + 1)) (s.fl.drop (i + 1)) (by simp [Act.eval, Act.put]) HD.out.2.1 (by have h := rd_drop H5.out.2.1.rds.fl (i + 1); rw [show a.add ((i + 1) * 1) = ⟨a.block, a.off + (i + 1), none⟩ by rw [Nat.mul_one]; simp [Addr.add]] at h; exact h) HD.out.2.2.2.1 (Nat.le_trans HE0.out.2.2.2.2 H5.out.2.2) ?_; rw [HD.out.2.2.2.2, HF2.out.2.1]; intro g3 cap3 w6 hown2 hg2; have hm6 : MI w m s g cc (.slice (some a) s.fl.length Fc) w6 := H5.out.2.1.far HE0.out.2.2.1 HE0.out.2.2.2.1 HY.out.2.sz (H5.out.1.blk _ rfl).1 hg2; have x2 := (nineT hm6.r0).2.1; have y2 := (nineFT hm6.r0).2.1; have n2 := cell_of_row _ _ 1 _ _ _ hm6.r1; simp at n2; rw [HXX.out.1] at n2; have H6 := Lib.hid (And.intro hown2 hm6); clear hown2 hg2 hm6)))
                        refine hK.out _ _ ?_ (fun hHeldb34 => ?_)
                        · (try dsimp only); (first | exact m1 | exact mA1 | exact n1 | exact n2 | go_keep)
                        clear hK K hHeldb33
                        try simp only [Act.put, List.getElem_toArray, List.getElem_cons_zero, List.getElem_cons_succ, List.setIfInBounds_toArray, List.set_cons_zero, List.set_cons_succ]
                        refine wpAnyH_ready (rs := [8]) (by kernel_rfl) (by simp) ?_
                        refine AllReadyH.cons (o := _) rfl (fun K hK => ?_) ?_
                        · go_simp
                          try go_wp2_with fail
                          refine hK.out _ _ ?_ (fun hHeldb35 => ?_)
                          · (try dsimp only); (first | exact m1 | exact mA1 | exact n1 | exact n2 | go_keep)
                          clear hK K hHeldb34
                          try simp only [Act.put, List.getElem_toArray, List.getElem_cons_zero, List.getElem_cons_succ, List.setIfInBounds_toArray, List.set_cons_zero, List.set_cons_succ]
                          refine wpAnyH_take (i := 12) (oi := _) (v := ?bv36) rfl (by kernel_rfl) (by kernel_rfl) (by kernel_rfl) (fun _ _ _ h => h) (Or.inl ⟨by rfl, ?bhy36⟩) (by assumption) ?brest36
                          case bhy36 => (intro w hSw; (try dsimp only at hSw); go_simp; all_goals with_reducible rfl)
                          try simp only [Act.put, List.getElem_toArray, List.getElem_cons_zero, List.getElem_cons_succ, List.setIfInBounds_toArray, List.set_cons_zero, List.set_cons_succ]
                          refine wpAnyH_ready (rs := [13]) (by kernel_rfl) (by simp) ?_
                          refine AllReadyH.cons (o := _) rfl (fun K hK => ?_) ?_
                          · (first | ((rw [HV.out.1]; refine step_append_any lenI oneI rfl (.tmp 130) (.tmp 135) 23 rfl Y.heap.size 3 (.int .i64 0) 8 Try.underlying23 info3 rfl (by decide) (by decide) Y.heap.size 0 0 [] rfl (by simp [Act.eval, Act.put]) HE0.out.1 a i Fc (s.fl.take i) (by simp [Act.eval, Act.put]) HD.out.1 (rd_take HE0.out.2.1 i) HD.out.2.2.1 HE0.out.2.2.2.2 ?_; simp only [Nat.zero_add, List.nil_append]; intro g2 cap2 w5 hown1 hg1; have hm5 : MI w m s g cc (.slice (some a) s.fl.length Fc) w5 := HV.out.2.2.2.far HE0.out.2.2.1 HE0.out.2.2.2.1 HY.out.2.sz (Nat.le_refl _) hg1; have x1 := (nineT hm5.r0).2.1; have n1 := cell_of_row _ _ 1 _ _ _ hm5.r1; simp at n1; rw [HXX.out.1] at n1; have H5 := Lib.hid (And.intro hown1 (And.intro hm5 hg1.size)); clear hown1 hg1 hm5)) | ((refine step_append_any lenI oneI rfl (.tmp 136) (.tmp 142) 23 rfl Y.heap.size 3 (.int .i64 0) 8 Try.underlying23 info3 rfl (by decide) (by decide) g2 i cap2 (s.fl.take i) HD.out.1 (by simp [Act.eval, Act.put]) H5.out.1 ⟨a.block, a.off + (i + 1), none⟩ (s.fl.length - (i + 1)) (Fc - (i + 1)) (s.fl.drop (i + 1)) (by simp [Act.eval, Act.put]) HD.out.2.1 (by have h := rd_drop H5.out.2.1.rds.fl (i + 1); rw [show a.add ((i + 1) * 1) = ⟨a.block, a.off + (i + 1), none⟩ by rw [Nat.mul_one]; simp [Addr.add]] at h; exact h) HD.out.2.2.2.1 (Nat.le_trans HE0.out.2.2.2.2 H5.out.2.2) ?_; rw [HD.out.2.2.2.2, HF2.out.2.1]; intro g3 cap3 w6 hown2 hg2; have hm6 : MI w m s g cc (.slice (some a) s.fl.length Fc) w6 := H5.out.2.1.far HE0.out.2.2.1 HE0.out.2.2.2.1 HY.out.2.sz (H5.out.1.blk _ rfl).1 hg2; have x2 := (nineT hm6.r0).2.1; have y2 := (nineFT hm6.r0).2.1; have n2 := cell_of_row _ _ 1 _ _ _ hm6.r1; simp at n2; rw [HXX.out.1] at n2; have H6 := Lib.hid (And.intro hown2 hm6); clear hown2 hg2 hm6)))
                            refine hK.out _ _ ?_ (fun hHeldb37 => ?_)
                            · (try dsimp only); (first | exact m1 | exact mA1 | exact n1 | exact n2 | go_keep)
                            clear hK K hHeldb35
                            try simp only [Act.put, List.getElem_toArray, List.getElem_cons_zero, List.getElem_cons_succ, List.setIfInBounds_toArray, List.set_cons_zero, List.set_cons_succ]
                            refine wpAnyH_take (i := 14) (oi := _) (v := ?bv38) rfl (by kernel_rfl) (by kernel_rfl) (by kernel_rfl) (fun _ _ _ h => h) (Or.inl ⟨by rfl, ?bhy38⟩) (by assumption) ?brest38
                            case bhy38 => (intro w hSw; (try dsimp only at hSw); go_simp; all_goals with_reducible rfl)
                            try simp only [Act.put, List.getElem_toArray, List.getElem_cons_zero, List.getElem_cons_succ, List.setIfInBounds_toArray, List.set_cons_zero, List.set_cons_succ]
                            refine wpAnyH_ready (rs := [15]) (by kernel_rfl) (by simp) ?_
                            refine AllReadyH.cons (o := _) rfl (fun K hK => ?_) ?_
                            · go_simp
                              try go_wp2_with fail
                              refine hK.out _ _ ?_ (fun hHeldb39 => ?_)
                              · (try dsimp only); (first | exact m1 | exact mA1 | exact n1 | exact n2 | go_keep)
                              clear hK K hHeldb37
                              try simp only [Act.put, List.getElem_toArray, List.getElem_cons_zero, List.getElem_cons_succ, List.setIfInBounds_toArray, List.set_cons_zero, List.set_cons_succ]
                              refine wpAnyH_done (by kernel_rfl) ?_ _
                              go_wp2_with fail
                              go_meet
                              exact ⟨some ⟨g3, 0, none⟩, cap3, H6.out.2.setF2 H6.out.1 HY.out.2.sz⟩
                            exact AllReadyH.nil
                          exact AllReadyH.nil
                        exact AllReadyH.nil
                      refine AllReadyH.cons (o := _) rfl (fun K hK => ?_) ?_
                      · go_simp
                        try go_wp2_with fail
                        refine hK.out _ _ ?_ (fun hHeldb40 => ?_)
                        · (try dsimp only); (first | exact m1 | exact mA1 | exact n1 | exact n2 | go_keep)
                        clear hK K hHeldb33
                        try simp only [Act.put, List.getElem_toArray, List.getElem_cons_zero, List.getElem_cons_succ, List.setIfInBounds_toArray, List.set_cons_zero, List.set_cons_succ]
                        refine wpAnyH_take (i := 12) (oi := _) (v := ?bv41) rfl (by kernel_rfl) (by kernel_rfl) (by kernel_rfl) (fun _ _ _ h => h) (Or.inl ⟨by rfl, ?bhy41⟩) (by assumption) ?brest41
                        case bhy41 => (intro w hSw; (try dsimp only at hSw); go_simp; all_goals with_reducible rfl)
                        try simp only [Act.put, List.getElem_toArray, List.getElem_cons_zero, List.getElem_cons_succ, List.setIfInBounds_toArray, List.set_cons_zero, List.set_cons_succ]
                        refine wpAnyH_ready (rs := [6]) (by kernel_rfl) (by simp) ?_
                        refine AllReadyH.cons (o := _) rfl (fun K hK => ?_) ?_
                        · (first | ((rw [HV.out.1]; refine step_append_any lenI oneI rfl (.tmp 130) (.tmp 135) 23 rfl Y.heap.size 3 (.int .i64 0) 8 Try.underlying23 info3 rfl (by decide) (by decide) Y.heap.size 0 0 [] rfl (by simp [Act.eval, Act.put]) HE0.out.1 a i Fc (s.fl.take i) (by simp [Act.eval, Act.put]) HD.out.1 (rd_take HE0.out.2.1 i) HD.out.2.2.1 HE0.out.2.2.2.2 ?_; simp only [Nat.zero_add, List.nil_append]; intro g2 cap2 w5 hown1 hg1; have hm5 : MI w m s g cc (.slice (some a) s.fl.length Fc) w5 := HV.out.2.2.2.far HE0.out.2.2.1 HE0.out.2.2.2.1 HY.out.2.sz (Nat.le_refl _) hg1; have x1 := (nineT hm5.r0).2.1; have n1 := cell_of_row _ _ 1 _ _ _ hm5.r1; simp at n1; rw [HXX.out.1] at n1; have H5 := Lib.hid (And.intro hown1 (And.intro hm5 hg1.size)); clear hown1 hg1 hm5)) | ((refine step_append_any lenI oneI rfl (.tmp 136) (.tmp 142) 23 rfl Y.heap.size 3 (.int .i64 0) 8 Try.underlying23 info3 rfl (by decide) (by decide) g2 i cap2 (s.fl.take i) HD.out.1 (by simp [Act.eval, Act.put]) H5.out.1 ⟨a.block, a.off + (i + 1), none⟩ (s.fl.length - (i + 1)) (Fc - (i + 1)) (s.fl.drop (i + 1)) (by simp [Act.eval, Act.put]) HD.out.2.1 (by have h := rd_drop H5.out.2.1.rds.fl (i + 1); rw [show a.add ((i + 1) * 1) = ⟨a.block, a.off + (i + 1), none⟩ by rw [Nat.mul_one]; simp [Addr.add]] at h; exact h) HD.out.2.2.2.1 (Nat.le_trans HE0.out.2.2.2.2 H5.out.2.2) ?_; rw [HD.out.2.2.2.2, HF2.out.2.1]; intro g3 cap3 w6 hown2 hg2; have hm6 : MI w m s g cc (.slice (some a) s.fl.length Fc) w6 := H5.out.2.1.far HE0.out.2.2.1 HE0.out.2.2.2.1 HY.out.2.sz (H5.out.1.blk _ rfl).1 hg2; have x2 := (nineT hm6.r0).2.1; have y2 := (nineFT hm6.r0).2.1; have n2 := cell_of_row _ _ 1 _ _ _ hm6.r1; simp at n2; rw [HXX.out.1] at n2; have H6 := Lib.hid (And.intro hown2 hm6); clear hown2 hg2 hm6)))
                          refine hK.out _ _ ?_ (fun hHeldb42 => ?_)
                          · (try dsimp only); (first | exact m1 | exact mA1 | exact n1 | exact n2 | go_keep)
                          clear hK K hHeldb40
                          try simp only [Act.put, List.getElem_toArray, List.getElem_cons_zero, List.getElem_cons_succ, List.setIfInBounds_toArray, List.set_cons_zero, List.set_cons_succ]
                          refine wpAnyH_ready (rs := [13]) (by kernel_rfl) (by simp) ?_
                          refine AllReadyH.cons (o := _) rfl (fun K hK => ?_) ?_
                          · (first | ((rw [HV.out.1]; refine step_append_any lenI oneI rfl (.tmp 130) (.tmp 135) 23 rfl Y.heap.size 3 (.int .i64 0) 8 Try.underlying23 info3 rfl (by decide) (by decide) Y.heap.size 0 0 [] rfl (by simp [Act.eval, Act.put]) HE0.out.1 a i Fc (s.fl.take i) (by simp [Act.eval, Act.put]) HD.out.1 (rd_take HE0.out.2.1 i) HD.out.2.2.1 HE0.out.2.2.2.2 ?_; simp only [Nat.zero_add, List.nil_append]; intro g2 cap2 w5 hown1 hg1; have hm5 : MI w m s g cc (.slice (some a) s.fl.length Fc) w5 := HV.out.2.2.2.far HE0.out.2.2.1 HE0.out.2.2.2.1 HY.out.2.sz (Nat.le_refl _) hg1; have x1 := (nineT hm5.r0).2.1; have n1 := cell_of_row _ _ 1 _ _ _ hm5.r1; simp at n1; rw [HXX.out.1] at n1; have H5 := Lib.hid (And.intro hown1 (And.intro hm5 hg1.size)); clear hown1 hg1 hm5)) | ((refine step_append_any lenI oneI rfl (.tmp 136) (.tmp 142) 23 rfl Y.heap.size 3 (.int .i64 0) 8 Try.underlying23 info3 rfl (by decide) (by decide) g2 i cap2 (s.fl.take i) HD.out.1 (by simp [Act.eval, Act.put]) H5.out.1 ⟨a.block, a.off + (i + 1), none⟩ (s.fl.length - (i + 1)) (Fc - (i + 1)) (s.fl.drop (i + 1)) (by simp [Act.eval, Act.put]) HD.out.2.1 (by have h := rd_drop H5.out.2.1.rds.fl (i + 1); rw [show a.add ((i + 1) * 1) = ⟨a.block, a.off + (i + 1), none⟩ by rw [Nat.mul_one]; simp [Addr.add]] at h; exact h) HD.out.2.2.2.1 (Nat.le_trans HE0.out.2.2.2.2 H5.out.2.2) ?_; rw [HD.out.2.2.2.2, HF2.out.2.1]; intro g3 cap3 w6 hown2 hg2; have hm6 : MI w m s g cc (.slice (some a) s.fl.length Fc) w6 := H5.out.2.1.far HE0.out.2.2.1 HE0.out.2.2.2.1 HY.out.2.sz (H5.out.1.blk _ rfl).1 hg2; have x2 := (nineT hm6.r0).2.1; have y2 := (nineFT hm6.r0).2.1; have n2 := cell_of_row _ _ 1 _ _ _ hm6.r1; simp at n2; rw [HXX.out.1] at n2; have H6 := Lib.hid (And.intro hown2 hm6); clear hown2 hg2 hm6)))
                            refine hK.out _ _ ?_ (fun hHeldb43 => ?_)
                            · (try dsimp only); (first | exact m1 | exact mA1 | exact n1 | exact n2 | go_keep)
                            clear hK K hHeldb42
                            try simp only [Act.put, List.getElem_toArray, List.getElem_cons_zero, List.getElem_cons_succ, List.setIfInBounds_toArray, List.set_cons_zero, List.set_cons_succ]
                            refine wpAnyH_take (i := 14) (oi := _) (v := ?bv44) rfl (by kernel_rfl) (by kernel_rfl) (by kernel_rfl) (fun _ _ _ h => h) (Or.inl ⟨by rfl, ?bhy44⟩) (by assumption) ?brest44
                            case bhy44 => (intro w hSw; (try dsimp only at hSw); go_simp; all_goals with_reducible rfl)
                            try simp only [Act.put, List.getElem_toArray, List.getElem_cons_zero, List.getElem_cons_succ, List.setIfInBounds_toArray, List.set_cons_zero, List.set_cons_succ]
                            refine wpAnyH_ready (rs := [15]) (by kernel_rfl) (by simp) ?_
                            refine AllReadyH.cons (o := _) rfl (fun K hK => ?_) ?_
                            · go_simp
                              try go_wp2_with fail
                              refine hK.out _ _ ?_ (fun hHeldb45 => ?_)
                              · (try dsimp only); (first | exact m1 | exact mA1 | exact n1 | exact n2 | go_keep)
                              clear hK K hHeldb43
                              try simp only [Act.put, List.getElem_toArray, List.getElem_cons_zero, List.getElem_cons_succ, List.setIfInBounds_toArray, List.set_cons_zero, List.set_cons_succ]
                              refine wpAnyH_done (by kernel_rfl) ?_ _
                              go_wp2_with fail
                              go_meet
                              exact ⟨some ⟨g3, 0, none⟩, cap3, H6.out.2.setF2 H6.out.1 HY.out.2.sz⟩
                            exact AllReadyH.nil
                          exact AllReadyH.nil
                        exact AllReadyH.nil
                      exact AllReadyH.nil
                    refine AllReadyH.cons (o := _) rfl (fun K hK => ?_) ?_
                    · go_simp
                      try go_wp2_with fail
                      refine hK.out _ _ ?_ (fun hHeldb46 => ?_)
                      · (try dsimp only); (first | exact m1 | exact mA1 | exact n1 | exact n2 | go_keep)
                      clear hK K hHeldb31
                      try simp only [Act.put, List.getElem_toArray, List.getElem_cons_zero, List.getElem_cons_succ, List.setIfInBounds_toArray, List.set_cons_zero, List.set_cons_succ]
                      refine wpAnyH_take (i := 12) (oi := _) (v := ?bv47) rfl (by kernel_rfl) (by kernel_rfl) (by kernel_rfl) (fun _ _ _ h => h) (Or.inl ⟨by rfl, ?bhy47⟩) (by assumption) ?brest47
                      case bhy47 => (intro w hSw; (try dsimp only at hSw); go_simp; all_goals with_reducible rfl)
                      try simp only [Act.put, List.getElem_toArray, List.getElem_cons_zero, List.getElem_cons_succ, List.setIfInBounds_toArray, List.set_cons_zero, List.set_cons_succ]
                      refine wpAnyH_ready (rs := [0]) (by kernel_rfl) (by simp) ?_
                      refine AllReadyH.cons (o := _) rfl (fun K hK => ?_) ?_
                      · go_simp
                        try go_wp2_with fail
                        refine hK.out _ _ ?_ (fun hHeldb48 => ?_)
                        · (try dsimp only); (first | exact m1 | exact mA1 | exact n1 | exact n2 | go_keep)
                        clear hK K hHeldb46
                        try simp only [Act.put, List.getElem_toArray, List.getElem_cons_zero, List.getElem_cons_succ, List.setIfInBounds_toArray, List.set_cons_zero, List.set_cons_succ]
                        refine wpAnyH_ready (rs := [6]) (by kernel_rfl) (by simp) ?_
                        refine AllReadyH.cons (o := _) rfl (fun K hK => ?_) ?_
                        · (first | ((rw [HV.out.1]; refine step_append_any lenI oneI rfl (.tmp 130) (.tmp 135) 23 rfl Y.heap.size 3 (.int .i64 0) 8 Try.underlying23 info3 rfl (by decide) (by decide) Y.heap.size 0 0 [] rfl (by simp [Act.eval, Act.put]) HE0.out.1 a i Fc (s.fl.take i) (by simp [Act.eval, Act.put]) HD.out.1 (rd_take HE0.out.2.1 i) HD.out.2.2.1 HE0.out.2.2.2.2 ?_; simp only [Nat.zero_add, List.nil_append]; intro g2 cap2 w5 hown1 hg1; have hm5 : MI w m s g cc (.slice (some a) s.fl.length Fc) w5 := HV.out.2.2.2.far HE0.out.2.2.1 HE0.out.2.2.2.1 HY.out.2.sz (Nat.le_refl _) hg1; have x1 := (nineT hm5.r0).2.1; have n1 := cell_of_row _ _ 1 _ _ _ hm5.r1; simp at n1; rw [HXX.out.1] at n1; have H5 := Lib.hid (And.intro hown1 (And.intro hm5 hg1.size)); clear hown1 hg1 hm5)) | ((refine step_append_any lenI oneI rfl (.tmp 136) (.tmp 142) 23 rfl Y.heap.size 3 (.int .i64 0) 8 Try.underlying23 info3 rfl (by decide) (by decide) g2 i cap2 (s.fl.take i) HD.out.1 (by simp [Act.eval, Act.put]) H5.out.1 ⟨a.block, a.off + (i + 1), none⟩ (s.fl.length - (i + 1)) (Fc - (i + 1)) (s.fl.drop (i + 1)) (by simp [Act.eval, Act.put]) HD.out.2.1 (by have h := rd_drop H5.out.2.1.rds.fl (i + 1); rw [show a.add ((i + 1) * 1) = ⟨a.block, a.off + (i + 1), none⟩ by rw [Nat.mul_one]; simp [Addr.add]] at h; exact h) HD.out.2.2.2.1 (Nat.le_trans HE0.out.2.2.2.2 H5.out.2.2) ?_; rw [HD.out.2.2.2.2, HF2.out.2.1]; intro g3 cap3 w6 hown2 hg2; have hm6 : MI w m s g cc (.slice (some a) s.fl.length Fc) w6 := H5.out.2.1.far HE0.out.2.2.1 HE0.out.2.2.2.1 HY.out.2.sz (H5.out.1.blk _ rfl).1 hg2; have x2 := (nineT hm6.r0).2.1; have y2 := (nineFT hm6.r0).2.1; have n2 := cell_of_row _ _ 1 _ _ _ hm6.r1; simp at n2; rw [HXX.out.1] at n2; have H6 := Lib.hid (And.intro hown2 hm6); clear hown2 hg2 hm6)))
                          refine hK.out _ _ ?_ (fun hHeldb49 => ?_)
                          · (try dsimp only); (first | exact m1 | exact mA1 | exact n1 | exact n2 | go_keep)
                          clear hK K hHeldb48
                          try simp only [Act.put, List.getElem_toArray, List.getElem_cons_zero, List.getElem_cons_succ, List.setIfInBounds_toArray, List.set_cons_zero, List.set_cons_succ]
                          refine wpAnyH_ready (rs := [13]) (by kernel_rfl) (by simp) ?_
                          refine AllReadyH.cons (o := _) rfl (fun K hK => ?_) ?_
                          · (first | ((rw [HV.out.1]; refine step_append_any lenI oneI rfl (.tmp 130) (.tmp 135) 23 rfl Y.heap.size 3 (.int .i64 0) 8 Try.underlying23 info3 rfl (by decide) (by decide) Y.heap.size 0 0 [] rfl (by simp [Act.eval, Act.put]) HE0.out.1 a i Fc (s.fl.take i) (by simp [Act.eval, Act.put]) HD.out.1 (rd_take HE0.out.2.1 i) HD.out.2.2.1 HE0.out.2.2.2.2 ?_; simp only [Nat.zero_add, List.nil_append]; intro g2 cap2 w5 hown1 hg1; have hm5 : MI w m s g cc (.slice (some a) s.fl.length Fc) w5 := HV.out.2.2.2.far HE0.out.2.2.1 HE0.out.2.2.2.1 HY.out.2.sz (Nat.le_refl _) hg1; have x1 := (nineT hm5.r0).2.1; have n1 := cell_of_row _ _ 1 _ _ _ hm5.r1; simp at n1; rw [HXX.out.1] at n1; have H5 := Lib.hid (And.intro hown1 (And.intro hm5 hg1.size)); clear hown1 hg1 hm5)) | ((refine step_append_any lenI oneI rfl (.tmp 136) (.tmp 142) 23 rfl Y.heap.size 3 (.int .i64 0) 8 Try.underlying23 info3 rfl (by decide) (by decide) g2 i cap2 (s.fl.take i) HD.out.1 (by simp [Act.eval, Act.put]) H5.out.1 ⟨a.block, a.off + (i + 1), none⟩ (s.fl.length - (i + 1)) (Fc - (i + 1)) (s.fl.drop (i + 1)) (by simp [Act.eval, Act.put]) HD.out.2.1 (by have h := rd_drop H5.out.2.1.rds.fl (i + 1); rw [show a.add ((i + 1) * 1) = ⟨a.block, a.off + (i + 1), none⟩ by rw [Nat.mul_one]; simp [Addr.add]] at h; exact h) HD.out.2.2.2.1 (Nat.le_trans HE0.out.2.2.2.2 H5.out.2.2) ?_; rw [HD.out.2.2.2.2, HF2.out.2.1]; intro g3 cap3 w6 hown2 hg2; have hm6 : MI w m s g cc (.slice (some a) s.fl.length Fc) w6 := H5.out.2.1.far HE0.out.2.2.1 HE0.out.2.2.2.1 HY.out.2.sz (H5.out.1.blk _ rfl).1 hg2; have x2 := (nineT hm6.r0).2.1; have y2 := (nineFT hm6.r0).2.1; have n2 := cell_of_row _ _ 1 _ _ _ hm6.r1; simp at n2; rw [HXX.out.1] at n2; have H6 := Lib.hid (And.intro hown2 hm6); clear hown2 hg2 hm6)))
                            refine hK.out _ _ ?_ (fun hHeldb50 => ?_)
                            · (try dsimp only); (first | exact m1 | exact mA1 | exact n1 | exact n2 | go_keep)
                            clear hK K hHeldb49
                            try simp only [Act.put, List.getElem_toArray, List.getElem_cons_zero, List.getElem_cons_succ, List.setIfInBounds_toArray, List.set_cons_zero, List.set_cons_succ]
                            refine wpAnyH_take (i := 14) (oi := _) (v := ?bv51) rfl (by kernel_rfl) (by kernel_rfl) (by kernel_rfl) (fun _ _ _ h => h) (Or.inl ⟨by rfl, ?bhy51⟩) (by assumption) ?brest51
                            case bhy51 => (intro w hSw; (try dsimp only at hSw); go_simp; all_goals with_reducible rfl)
                            try simp only [Act.put, List.getElem_toArray, List.getElem_cons_zero, List.getElem_cons_succ, List.setIfInBounds_toArray, List.set_cons_zero, List.set_cons_succ]
                            refine wpAnyH_ready (rs := [15]) (by kernel_rfl) (by simp) ?_
                            refine AllReadyH.cons (o := _) rfl (fun K hK => ?_) ?_
                            · go_simp
                              try go_wp2_with fail
                              refine hK.out _ _ ?_ (fun hHeldb52 => ?_)
                              · (try dsimp only); (first | exact m1 | exact mA1 | exact n1 | exact n2 | go_keep)
                              clear hK K hHeldb50
                              try simp only [Act.put, List.getElem_toArray, List.getElem_cons_zero, List.getElem_cons_succ, List.setIfInBounds_toArray, List.set_cons_zero, List.set_cons_succ]
                              refine wpAnyH_done (by kernel_rfl) ?_ _
                              go_wp2_with fail
                              go_meet
                              exact ⟨some ⟨g3, 0, none⟩, cap3, H6.out.2.setF2 H6.out.1 HY.out.2.sz⟩
                            exact AllReadyH.nil
                          exact AllReadyH.nil
                        exact AllReadyH.nil
                      exact AllReadyH.nil
                    exact AllReadyH.nil
                  refine AllReadyH.cons (o := _) rfl (fun K hK => ?_) ?_
                  · go_simp
                    try go_wp2_with fail
                    refine hK.out _ _ ?_ (fun hHeldb53 => ?_)
                    · (try dsimp only); (first | exact m1 | exact mA1 | exact n1 | exact n2 | go_keep)
                    clear hK K hHeldb0
                    try simp only [Act.put, List.getElem_toArray, List.getElem_cons_zero, List.getElem_cons_succ, List.setIfInBounds_toArray, List.set_cons_zero, List.set_cons_succ]
                    refine wpAnyH_take (i := 12) (oi := _) (v := ?bv54) rfl (by kernel_rfl) (by kernel_rfl) (by kernel_rfl) (fun _ _ _ h => h) (Or.inl ⟨by rfl, ?bhy54⟩) (by assumption) ?brest54
                    case bhy54 => (intro w hSw; (try dsimp only at hSw); go_simp; all_goals with_reducible rfl)
                    try simp only [Act.put, List.getElem_toArray, List.getElem_cons_zero, List.getElem_cons_succ, List.setIfInBounds_toArray, List.set_cons_zero, List.set_cons_succ]
                    refine wpAnyH_ready (rs := [0, 2]) (by kernel_rfl) (by simp) ?_
                    refine AllReadyH.cons (o := _) rfl (fun K hK => ?_) ?_
                    · go_simp
                      try go_wp2_with fail
                      refine hK.out _ _ ?_ (fun hHeldb55 => ?_)
                      · (try dsimp only); (first | exact m1 | exact mA1 | exact n1 | exact n2 | go_keep)
                      clear hK K hHeldb53
                      try simp only [Act.put, List.getElem_toArray, List.getElem_cons_zero, List.getElem_cons_succ, List.setIfInBounds_toArray, List.set_cons_zero, List.set_cons_succ]
                      refine wpAnyH_ready (rs := [2]) (by kernel_rfl) (by simp) ?_
                      refine AllReadyH.cons (o := _) rfl (fun K hK => ?_) ?_
                      · go_simp
                        try go_wp2_with fail
                        refine hK.out _ _ ?_ (fun hHeldb56 => ?_)
                        · (try dsimp only); (first | exact m1 | exact mA1 | exact n1 | exact n2 | go_keep)
                        clear hK K hHeldb55
                        try simp only [Act.put, List.getElem_toArray, List.getElem_cons_zero, List.getElem_cons_succ, List.setIfInBounds_toArray, List.set_cons_zero, List.set_cons_succ]
                        refine wpAnyH_take (i := 5) (oi := _) (v := ?bv57) rfl (by kernel_rfl) (by kernel_rfl) (by kernel_rfl) (fun _ _ _ h => h) (Or.inl ⟨by rfl, ?bhy57⟩) (by assumption) ?brest57
                        case bhy57 => (intro w hSw; (try dsimp only at hSw); go_simp; all_goals with_reducible rfl)
                        try simp only [Act.put, List.getElem_toArray, List.getElem_cons_zero, List.getElem_cons_succ, List.setIfInBounds_toArray, List.set_cons_zero, List.set_cons_succ]
                        refine wpAnyH_ready (rs := [6]) (by kernel_rfl) (by simp) ?_
                        refine AllReadyH.cons (o := _) rfl (fun K hK => ?_) ?_
                        · (first | ((rw [HV.out.1]; refine step_append_any lenI oneI rfl (.tmp 130) (.tmp 135) 23 rfl Y.heap.size 3 (.int .i64 0) 8 Try.underlying23 info3 rfl (by decide) (by decide) Y.heap.size 0 0 [] rfl (by simp [Act.eval, Act.put]) HE0.out.1 a i Fc (s.fl.take i) (by simp [Act.eval, Act.put]) HD.out.1 (rd_take HE0.out.2.1 i) HD.out.2.2.1 HE0.out.2.2.2.2 ?_; simp only [Nat.zero_add, List.nil_append]; intro g2 cap2 w5 hown1 hg1; have hm5 : MI w m s g cc (.slice (some a) s.fl.length Fc) w5 := HV.out.2.2.2.far HE0.out.2.2.1 HE0.out.2.2.2.1 HY.out.2.sz (Nat.le_refl _) hg1; have x1 := (nineT hm5.r0).2.1; have n1 := cell_of_row _ _ 1 _ _ _ hm5.r1; simp at n1; rw [HXX.out.1] at n1; have H5 := Lib.hid (And.intro hown1 (And.intro hm5 hg1.size)); clear hown1 hg1 hm5)) | ((refine step_append_any lenI oneI rfl (.tmp 136) (.tmp 142) 23 rfl Y.heap.size 3 (.int .i64 0) 8 Try.underlying23 info3 rfl (by decide) (by decide) g2 i cap2 (s.fl.take i) HD.out.1 (by simp [Act.eval, Act.put]) H5.out.1 ⟨a.block, a.off + (i + 1), none⟩ (s.fl.length - (i + 1)) (Fc - (i + 1)) (s.fl.drop (i + 1)) (by simp [Act.eval, Act.put]) HD.out.2.1 (by have h := rd_drop H5.out.2.1.rds.fl (i + 1); rw [show a.add ((i + 1) * 1) = ⟨a.block, a.off + (i + 1), none⟩ by rw [Nat.mul_one]; simp [Addr.add]] at h; exact h) HD.out.2.2.2.1 (Nat.le_trans HE0.out.2.2.2.2 H5.out.2.2) ?_; rw [HD.out.2.2.2.2, HF2.out.2.1]; intro g3 cap3 w6 hown2 hg2; have hm6 : MI w m s g cc (.slice (some a) s.fl.length Fc) w6 := H5.out.2.1.far HE0.out.2.2.1 HE0.out.2.2.2.1 HY.out.2.sz (H5.out.1.blk _ rfl).1 hg2; have x2 := (nineT hm6.r0).2.1; have y2 := (nineFT hm6.r0).2.1; have n2 := cell_of_row _ _ 1 _ _ _ hm6.r1; simp at n2; rw [HXX.out.1] at n2; have H6 := Lib.hid (And.intro hown2 hm6); clear hown2 hg2 hm6)))
                          refine hK.out _ _ ?_ (fun hHeldb58 => ?_)
                          · (try dsimp only); (first | exact m1 | exact mA1 | exact n1 | exact n2 | go_keep)
                          clear hK K hHeldb56
                          try simp only [Act.put, List.getElem_toArray, List.getElem_cons_zero, List.getElem_cons_succ, List.setIfInBounds_toArray, List.set_cons_zero, List.set_cons_succ]
                          refine wpAnyH_ready (rs := [13]) (by kernel_rfl) (by simp) ?_
                          refine AllReadyH.cons (o := _) rfl (fun K hK => ?_) ?_
                          · (first | ((rw [HV.out.1]; refine step_append_any lenI oneI rfl (.tmp 130) (.tmp 135) 23 rfl Y.heap.size 3 (.int .i64 0) 8 Try.underlying23 info3 rfl (by decide) (by decide) Y.heap.size 0 0 [] rfl (by simp [Act.eval, Act.put]) HE0.out.1 a i Fc (s.fl.take i) (by simp [Act.eval, Act.put]) HD.out.1 (rd_take HE0.out.2.1 i) HD.out.2.2.1 HE0.out.2.2.2.2 ?_; simp only [Nat.zero_add, List.nil_append]; intro g2 cap2 w5 hown1 hg1; have hm5 : MI w m s g cc (.slice (some a) s.fl.length Fc) w5 := HV.out.2.2.2.far HE0.out.2.2.1 HE0.out.2.2.2.1 HY.out.2.sz (Nat.le_refl _) hg1; have x1 := (nineT hm5.r0).2.1; have n1 := cell_of_row _ _ 1 _ _ _ hm5.r1; simp at n1; rw [HXX.out.1] at n1; have H5 := Lib.hid (And.intro hown1 (And.intro hm5 hg1.size)); clear hown1 hg1 hm5)) | ((refine step_append_any lenI oneI rfl (.tmp 136) (.tmp 142) 23 rfl Y.heap.size 3 (.int .i64 0) 8 Try.underlying23 info3 rfl (by decide) (by decide) g2 i cap2 (s.fl.take i) HD.out.1 (by simp [Act.eval, Act.put]) H5.out.1 ⟨a.block, a.off + (i + 1), none⟩ (s.fl.length - (i + 1)) (Fc - (i + 1)) (s.fl.drop (i + 1)) (by simp [Act.eval, Act.put]) HD.out.2.1 (by have h := rd_drop H5.out.2.1.rds.fl (i + 1); rw [show a.add ((i + 1) * 1) = ⟨a.block, a.off + (i + 1), none⟩ by rw [Nat.mul_one]; simp [Addr.add]] at h; exact h) HD.out.2.2.2.1 (Nat.le_trans HE0.out.2.2.2.2 H5.out.2.2) ?_; rw [HD.out.2.2.2.2, HF2.out.2.1]; intro g3 cap3 w6 hown2 hg2; have hm6 : MI w m s g cc (.slice (some a) s.fl.length Fc) w6 := H5.out.2.1.far HE0.out.2.2.1 HE0.out.2.2.2.1 HY.out.2.sz (H5.out.1.blk _ rfl).1 hg2; have x2 := (nineT hm6.r0).2.1; have y2 := (nineFT hm6.r0).2.1; have n2 := cell_of_row _ _ 1 _ _ _ hm6.r1; simp at n2; rw [HXX.out.1] at n2; have H6 := Lib.hid (And.intro hown2 hm6); clear hown2 hg2 hm6)))
                            refine hK.out _ _ ?_ (fun hHeldb59 => ?_)
                            · (try dsimp only); (first | exact m1 | exact mA1 | exact n1 | exact n2 | go_keep)
                            clear hK K hHeldb58
                            try simp only [Act.put, List.getElem_toArray, List.getElem_cons_zero, List.getElem_cons_succ, List.setIfInBounds_toArray, List.set_cons_zero, List.set_cons_succ]
                            refine wpAnyH_take (i := 14) (oi := _) (v := ?bv60) rfl (by kernel_rfl) (by kernel_rfl) (by kernel_rfl) (fun _ _ _ h => h) (Or.inl ⟨by rfl, ?bhy60⟩) (by assumption) ?brest60
                            case bhy60 => (intro w hSw; (try dsimp only at hSw); go_simp; all_goals with_reducible rfl)
                            try simp only [Act.put, List.getElem_toArray, List.getElem_cons_zero, List.getElem_cons_succ, List.setIfInBounds_toArray, List.set_cons_zero, List.set_cons_succ]
                            refine wpAnyH_ready (rs := [15]) (by kernel_rfl) (by simp) ?_
                            refine AllReadyH.cons (o := _) rfl (fun K hK => ?_) ?_
                            · go_simp
                              try go_wp2_with fail
                              refine hK.out _ _ ?_ (fun hHeldb61 => ?_)
                              · (try dsimp only); (first | exact m1 | exact mA1 | exact n1 | exact n2 | go_keep)
                              clear hK K hHeldb59
                              try simp only [Act.put, List.getElem_toArray, List.getElem_cons_zero, List.getElem_cons_succ, List.setIfInBounds_toArray, List.set_cons_zero, List.set_cons_succ]
                              refine wpAnyH_done (by kernel_rfl) ?_ _
                              go_wp2_with fail
                              go_meet
                              exact ⟨some ⟨g3, 0, none⟩, cap3, H6.out.2.setF2 H6.out.1 HY.out.2.sz⟩
                            exact AllReadyH.nil
                          exact AllReadyH.nil
                        exact AllReadyH.nil
                      exact AllReadyH.nil
                    refine AllReadyH.cons (o := _) rfl (fun K hK => ?_) ?_
                    · go_simp
                      try go_wp2_with fail
                      refine hK.out _ _ ?_ (fun hHeldb62 => ?_)
                      · (try dsimp only); (first | exact m1 | exact mA1 | exact n1 | exact n2 | go_keep)
                      clear hK K hHeldb53
                      try simp only [Act.put, List.getElem_toArray, List.getElem_cons_zero, List.getElem_cons_succ, List.setIfInBounds_toArray, List.set_cons_zero, List.set_cons_succ]
                      refine wpAnyH_take (i := 5) (oi := _) (v := ?bv63) rfl (by kernel_rfl) (by kernel_rfl) (by kernel_rfl) (fun _ _ _ h => h) (Or.inl ⟨by rfl, ?bhy63⟩) (by assumption) ?brest63
                      case bhy63 => (intro w hSw; (try dsimp only at hSw); go_simp; all_goals with_reducible rfl)
                      try simp only [Act.put, List.getElem_toArray, List.getElem_cons_zero, List.getElem_cons_succ, List.setIfInBounds_toArray, List.set_cons_zero, List.set_cons_succ]
                      refine wpAnyH_ready (rs := [0]) (by kernel_rfl) (by simp) ?_
                      refine AllReadyH.cons (o := _) rfl (fun K hK => ?_) ?_
                      · go_simp
                        try go_wp2_with fail
                        refine hK.out _ _ ?_ (fun hHeldb64 => ?_)
                        · (try dsimp only); (first | exact m1 | exact mA1 | exact n1 | exact n2 | go_keep)
                        clear hK K hHeldb62
                        try simp only [Act.put, List.getElem_toArray, List.getElem_cons_zero, List.getElem_cons_succ, List.setIfInBounds_toArray, List.set_cons_zero, List.set_cons_succ]
                        refine wpAnyH_ready (rs := [6]) (by kernel_rfl) (by simp) ?_
                        refine AllReadyH.cons (o := _) rfl (fun K hK => ?_) ?_
                        · (first | ((rw [HV.out.1]; refine step_append_any lenI oneI rfl (.tmp 130) (.tmp 135) 23 rfl Y.heap.size 3 (.int .i64 0) 8 Try.underlying23 info3 rfl (by decide) (by decide) Y.heap.size 0 0 [] rfl (by simp [Act.eval, Act.put]) HE0.out.1 a i Fc (s.fl.take i) (by simp [Act.eval, Act.put]) HD.out.1 (rd_take HE0.out.2.1 i) HD.out.2.2.1 HE0.out.2.2.2.2 ?_; simp only [Nat.zero_add, List.nil_append]; intro g2 cap2 w5 hown1 hg1; have hm5 : MI w m s g cc (.slice (some a) s.fl.length Fc) w5 := HV.out.2.2.2.far HE0.out.2.2.1 HE0.out.2.2.2.1 HY.out.2.sz (Nat.le_refl _) hg1; have x1 := (nineT hm5.r0).2.1; have n1 := cell_of_row _ _ 1 _ _ _ hm5.r1; simp at n1; rw [HXX.out.1] at n1; have H5 := Lib.hid (And.intro hown1 (And.intro hm5 hg1.size)); clear hown1 hg1 hm5)) | ((refine step_append_any lenI oneI rfl (.tmp 136) (.tmp 142) 23 rfl Y.heap.size 3 (.int .i64 0) 8 Try.underlying23 info3 rfl (by decide) (by decide) g2 i cap2 (s.fl.take i) HD.out.1 (by simp [Act.eval, Act.put]) H5.out.1 ⟨a.block, a.off + (i + 1), none⟩ (s.fl.length - (i + 1)) (Fc - (i + 1)) (s.fl.drop (i + 1)) (by simp [Act.eval, Act.put]) HD.out.2.1 (by have h := rd_drop H5.out.2.1.rds.fl (i + 1); rw [show a.add ((i + 1) * 1) = ⟨a.block, a.off + (i + 1), none⟩ by rw [Nat.mul_one]; simp [Addr.add]] at h; exact h) HD.out.2.2.2.1 (Nat.le_trans HE0.out.2.2.2.2 H5.out.2.2) ?_; rw [HD.out.2.2.2.2, HF2.out.2.1]; intro g3 cap3 w6 hown2 hg2; have hm6 : MI w m s g cc (.slice (some a) s.fl.length Fc) w6 := H5.out.2.1.far HE0.out.2.2.1 HE0.out.2.2.2.1 HY.out.2.sz (H5.out.1.blk _ rfl).1 hg2; have x2 := (nineT hm6.r0).2.1; have y2 := (nineFT hm6.r0).2.1; have n2 := cell_of_row _ _ 1 _ _ _ hm6.r1; simp at n2; rw [HXX.out.1] at n2; have H6 := Lib.hid (And.intro hown2 hm6); clear hown2 hg2 hm6)))
                          refine hK.out _ _ ?_ (fun hHeldb65 => ?_)
                          · (try dsimp only); (first | exact m1 | exact mA1 | exact n1 | exact n2 | go_keep)
                          clear hK K hHeldb64
                          try simp only [Act.put, List.getElem_toArray, List.getElem_cons_zero, List.getElem_cons_succ, List.setIfInBounds_toArray, List.set_cons_zero, List.set_cons_succ]
                          refine wpAnyH_ready (rs := [13]) (by kernel_rfl) (by simp) ?_
                          refine AllReadyH.cons (o := _) rfl (fun K hK => ?_) ?_
                          · (first | ((rw [HV.out.1]; refine step_append_any lenI oneI rfl (.tmp 130) (.tmp 135) 23 rfl Y.heap.size 3 (.int .i64 0) 8 Try.underlying23 info3 rfl (by decide) (by decide) Y.heap.size 0 0 [] rfl (by simp [Act.eval, Act.put]) HE0.out.1 a i Fc (s.fl.take i) (by simp [Act.eval, Act.put]) HD.out.1 (rd_take HE0.out.2.1 i) HD.out.2.2.1 HE0.out.2.2.2.2 ?_; simp only [Nat.zero_add, List.nil_append]; intro g2 cap2 w5 hown1 hg1; have hm5 : MI w m s g cc (.slice (some a) s.fl.length Fc) w5 := HV.out.2.2.2.far HE0.out.2.2.1 HE0.out.2.2.2.1 HY.out.2.sz (Nat.le_refl _) hg1; have x1 := (nineT hm5.r0).2.1; have n1 := cell_of_row _ _ 1 _ _ _ hm5.r1; simp at n1; rw [HXX.out.1] at n1; have H5 := Lib.hid (And.intro hown1 (And.intro hm5 hg1.size)); clear hown1 hg1 hm5)) | ((refine step_append_any lenI oneI rfl (.tmp 136) (.tmp 142) 23 rfl Y.heap.size 3 (.int .i64 0) 8 Try.underlying23 info3 rfl (by decide) (by decide) g2 i cap2 (s.fl.take i) HD.out.1 (by simp [Act.eval, Act.put]) H5.out.1 ⟨a.block, a.off + (i + 1), none⟩ (s.fl.length - (i + 1)) (Fc - (i + 1)) (s.fl.drop (i + 1)) (by simp [Act.eval, Act.put]) HD.out.2.1 (by have h := rd_drop H5.out.2.1.rds.fl (i + 1); rw [show a.add ((i + 1) * 1) = ⟨a.block, a.off + (i + 1), none⟩ by rw [Nat.mul_one]; simp [Addr.add]] at h; exact h) HD.out.2.2.2.1 (Nat.le_trans HE0.out.2.2.2.2 H5.out.2.2) ?_; rw [HD.out.2.2.2.2, HF2.out.2.1]; intro g3 cap3 w6 hown2 hg2; have hm6 : MI w m s g cc (.slice (some a) s.fl.length Fc) w6 := H5.out.2.1.far HE0.out.2.2.1 HE0.out.2.2.2.1 HY.out.2.sz (H5.out.1.blk _ rfl).1 hg2; have x2 := (nineT hm6.r0).2.1; have y2 := (nineFT hm6.r0).2.1; have n2 := cell_of_row _ _ 1 _ _ _ hm6.r1; simp at n2; rw [HXX.out.1] at n2; have H6 := Lib.hid (And.intro hown2 hm6); clear hown2 hg2 hm6)))
                            refine hK.out _ _ ?_ (fun hHeldb66 => ?_)
                            · (try dsimp only); (first | exact m1 | exact mA1 | exact n1 | exact n2 | go_keep)
                            clear hK K hHeldb65
                            try simp only [Act.put, List.getElem_toArray, List.getElem_cons_zero, List.getElem_cons_succ, List.setIfInBounds_toArray, List.set_cons_zero, List.set_cons_succ]
                            refine wpAnyH_take (i := 14) (oi := _) (v := ?bv67) rfl (by kernel_rfl) (by kernel_rfl) (by kernel_rfl) (fun _ _ _ h => h) (Or.inl ⟨by rfl, ?bhy67⟩) (by assumption) ?brest67
                            case bhy67 => (intro w hSw; (try dsimp only at hSw); go_simp; all_goals with_reducible rfl)
                            try simp only [Act.put, List.getElem_toArray, List.getElem_cons_zero, List.getElem_cons_succ, List.setIfInBounds_toArray, List.set_cons_zero, List.set_cons_succ]
                            refine wpAnyH_ready (rs := [15]) (by kernel_rfl) (by simp) ?_
                            refine AllReadyH.cons (o := _) rfl (fun K hK => ?_) ?_
                            · go_simp
                              try go_wp2_with fail
                              refine hK.out _ _ ?_ (fun hHeldb68 => ?_)
                              · (try dsimp only); (first | exact m1 | exact mA1 | exact n1 | exact n2 | go_keep)
                              clear hK K hHeldb66
                              try simp only [Act.put, List.getElem_toArray, List.getElem_cons_zero, List.getElem_cons_succ, List.setIfInBounds_toArray, List.set_cons_zero, List.set_cons_succ]
                              refine wpAnyH_done (by kernel_rfl) ?_ _
                              go_wp2_with fail
                              go_meet
                              exact ⟨some ⟨g3, 0, none⟩, cap3, H6.out.2.setF2 H6.out.1 HY.out.2.sz⟩
                            exact AllReadyH.nil
                          exact AllReadyH.nil
                        exact AllReadyH.nil
                      exact AllReadyH.nil
                    exact AllReadyH.nil
                  exact AllReadyH.nil
              case rest =>
                obtain ⟨FA2, Fc2, hmi⟩ := hcut
                clear z0 z1 z2 z3 z4 z5 z6 z7 z8 p0 p1 p2 p3 p4 p5 p6 p7 p8 f0 f1 f2 f3 f4 f5 f6 f7 f8 m0 m1 m2 hca hfa hca1 hfa1 zA1 mA1 k1 k2 k3 k4 k5 k6 k7
                have z0 := (nineT hmi.r0).1
                obtain ⟨c1a, c1b⟩ := hmi.om.cell lenM rfl q.toNat hqi 2 (.int .i64 x.recv) (by rw [← HXX.out.2.2.1]; rfl)
                have hA2 := hmi.setM q.toNat hqi 2 (by omega) (.int .i64 (x.recv + 1)) { x with recv := x.recv + 1 } (by rw [← HXX.out.2.2.1]; rfl)
                obtain ⟨Y2, hY2⟩ : ∃ Y2, wc.setCell ⟨g, q.toNat * 3 + 2, none⟩ (.int .i64 (x.recv + 1)) = Y2 := ⟨_, rfl⟩
                rw [hY2] at hA2
                have hq2 : q.toNat < (s.ms.set q.toNat { x with recv := x.recv + 1 }).length := by simp; exact hqi
                obtain ⟨c2a, c2b⟩ := hA2.om.cell lenM rfl q.toNat hq2 0 (.bool x.act) (by simp)
                simp only [Nat.add_zero] at c2a c2b
                have hA3 := hA2.setM q.toNat hq2 0 (by omega) (.bool true) { x with recv := x.recv + 1, act := true } (by simp)
                simp only [Nat.add_zero, List.set_set] at hA3
                obtain ⟨Y3, hY3⟩ : ∃ Y3, Y2.setCell ⟨g, q.toNat * 3, none⟩ (.bool true) = Y3 := ⟨_, rfl⟩
                rw [hY3] at hA3
                obtain ⟨s3, hs3⟩ : ∃ s3 : St, { s with ms := s.ms.set q.toNat { x with recv := x.recv + 1, act := true }, fl := fl2 } = s3 := ⟨_, rfl⟩
                have hr3 : stepF s m = (s3, 0) := by rw [HRr.out, HF2.out.1, ← hs3]; rfl
                have e1 : s3.ms.length = s.ms.length := by rw [← hs3]; simp
                have e2 : s3.fl.length = fl2.length := by rw [← hs3]
                rw [hs3, ← e2] at hA3
                have z0b := (nineT hA2.r0).1
                simp only [List.length_set] at z0b
                have H2 := Lib.hid (And.intro hY2 (And.intro hY3 hA3))
                have HRr := Lib.hid hr3
                clear hY2 hY3 hA2 hA3 hs3 hr3 e1 e2 hmi hq2
                go_upto_region 31 with fail
                rw [H2.out.1]
                clear z0 c1a c1b
                go_upto_region 34 with fail
                rw [H2.out.2.1]
                clear z0b c2a c2b
                skip
                obtain ⟨z0, z1, z2, z3, z4, z5, z6, z7, z8⟩ := nineT H2.out.2.2.r0
                obtain ⟨p0, p1, p2, p3, p4, p5, p6, p7, p8⟩ := nineT H2.out.2.2.r2
                obtain ⟨f0, f1, f2, f3, f4, f5, f6, f7, f8⟩ := nineFT H2.out.2.2.r2
                obtain ⟨Z, hZ⟩ : ∃ Z, fill9 Y3 (w.heap.size + 2) s3 (some ⟨g, 0, none⟩) cc FA2 Fc2 = Z := ⟨_, rfl⟩
                have hfa := rstep_done H2.out.2.2 hZ
                simp only [fill9] at hZ
                have HZ := Lib.hid (And.intro hZ hfa)
                clear hZ hfa
                go_wp2_with fail
                rw [HZ.out.1]
                refine bodyPost_ret (rstep_results _ Z _ _ _ _ 0 rfl rfl HZ.out.2.1) rfl ?_
                rw [HRr.out]
                exact HZ.out.2.2
        · have b3 : (m.k == 3) = false := by rw [beq_eq_false_iff_ne]; exact k3
          by_cases k4 : m.k = 4
          · have b4 : (m.k == 4) = true := by rw [beq_iff_eq]; exact k4
            have HKK := Lib.hid ((step_good (m := m) HK.out (by omega)).trans (by rw [moveF4 _ _ k4]))
            clear k1 k2 k3 k4
            have hac := rask_calls s (some ⟨g, 0, none⟩) cc FA Fc Y HY.out.2.rds HK.out
            have hr : stepF s m = askR s := HKK.out.trans (ask_fin s)
            generalize askR s = r at hac hr
            obtain ⟨sr, kr⟩ := r
            have HAC := Lib.hid (And.intro hac hr)
            clear hac hr
            go_wp2_with fail
            (with_reducible refine (HAC.out.1).mono ?_); rintro e w5 ⟨A', c', B', d', rfl, hrd5, hb5, hor⟩
            have hrow := (hb5.block _ (by have := HY.out.2.sz; omega)).trans HY.out.2.r2
            clear z0 z1 z2 z3 z4 z5 z6 z7 z8 p0 p1 p2 p3 p4 p5 p6 p7 p8 f0 f1 f2 f3 f4 f5 f6 f7 f8
            obtain ⟨p0, p1, p2, p3, p4, p5, p6, p7, p8⟩ := nineT hrow
            obtain ⟨f0, f1, f2, f3, f4, f5, f6, f7, f8⟩ := nineFT hrow
            obtain ⟨Z, hZ⟩ : ∃ Z, fill9 w5 (w.heap.size + 2) sr A' c' B' d' = Z := ⟨_, rfl⟩
            have hfa := rstep_ask kr HY.out.2 hb5 hrd5 hor hZ
            simp only [fill9] at hZ
            have HZ := Lib.hid (And.intro hZ hfa)
            clear hZ hfa hrow hrd5 hb5 hor
            go_wp2_with fail
            rw [HZ.out.1]
            refine bodyPost_ret (rstep_results _ Z _ _ _ _ kr rfl rfl HZ.out.2.1) rfl ?_
            rw [HAC.out.2]
            exact HZ.out.2.2
          · have b4 : (m.k == 4) = false := by rw [beq_eq_false_iff_ne]; exact k4
            have HKK : stepF s m = (St.zero, 1) := by unfold stepF; rw [if_pos ((check_iff s).2 HK.out), if_neg (by omega)]
            have HKK := Lib.hid HKK
            clear k1 k2 k3 k4
            have hr : stepF s m = (St.zero, 1) := by rw [HKK.out]
            obtain ⟨Z, hZ⟩ : ∃ Z, fill9 Y (w.heap.size + 2) St.zero none 0 none 0 = Z := ⟨_, rfl⟩
            have hfa := rstep_fail HY.out.2.lo HY.out.2.r2 1 hZ
            simp only [fill9, St.zero, List.length_nil] at hZ
            have HZ := Lib.hid (And.intro hZ (And.intro hfa hr))
            clear hZ hfa hr
            go_wp2_with (go_at_call 40; (with_reducible refine (HWI.out _ _ _).mono ?_); rintro e w' ⟨rfl, rfl⟩)
            rw [HZ.out.1]
            refine bodyPost_ret (rstep_results _ Z _ St.zero _ _ 1 rfl rfl HZ.out.2.1.1) rfl ?_
            rw [HZ.out.2.2]
            exact HZ.out.2.1.2
  · have hkc : (checkF s != 0) = true := by rw [bne_iff_ne]; exact hk
    have hr : stepF s m = (St.zero, checkF s) := by unfold stepF; rw [if_neg hk]
    have HRr := Lib.hid hr
    clear hk hr
    go_enter Try.func24, Try.ntmps24
    go_wp2_with fail
    rw [HW.out.1]
    (with_reducible refine (HC.out).mono ?_); rintro e w1 ⟨rfl, hb1⟩
    have hF' : w1.heap[w.heap.size + 2]? = some (.cells (cellsS St.zero (.slice none 0 0) (.slice none 0 0)) 44 (0, 0)) := (hb1.block _ (by have := HW.out.2.2.1; omega)).trans HW.out.2.2.2.2.2
    obtain ⟨p0, p1, p2, p3, p4, p5, p6, p7, p8⟩ := nineT hF'
    obtain ⟨f0, f1, f2, f3, f4, f5, f6, f7, f8⟩ := nineFT hF'
    obtain ⟨Z, hZ⟩ : ∃ Z, fill9 w1 (w.heap.size + 2) St.zero none 0 none 0 = Z := ⟨_, rfl⟩
    have hfa := rstep_fail (HW.out.2.1.trans (hb1.mono HW.out.2.1.size)) hF' (checkF s) hZ
    simp only [fill9, St.zero, List.length_nil] at hZ
    have HZ := Lib.hid (And.intro hZ hfa)
    clear hb1 hF' hZ hfa
    go_wp2_with fail
    rw [HZ.out.1]
    refine bodyPost_ret (rstep_results _ Z _ St.zero _ _ (checkF s) rfl rfl HZ.out.2.1) rfl ?_
    rw [HRr.out]
    exact HZ.out.2.2
end Go.Proofs.Ythpcipfloofbcaa
