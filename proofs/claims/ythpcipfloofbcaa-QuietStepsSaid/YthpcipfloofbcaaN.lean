import Derived.Test.YthpcipfloofbcaaL
import Derived.Test.YthpcipfloofbcaaM
import Derived.RangeFuncBound
import Derived.Shelf.Abstract
import Derived.Shelf.RegionOpen
import Derived.WalkKit
import Derived.OwnWalkIn
import Derived.TacticsInMore
import Derived.LoopNIn
import Derived.LoopIn
import Derived.Sort.CutIn
namespace Go.Proofs.Ythpcipfloofbcaa
open Go.RowKit Go.Shelf
attribute [local go_sem] Oper.semAt_some
set_option maxHeartbeats 4000000
set_option maxRecDepth 100000
set_option linter.unusedSimpArgs false
set_option linter.unusedVariables false

abbrev encV (m : Mov) : List Value := [.int .i64 m.k, .int .i64 m.a, .int .i64 m.b]
/-- a state and where its slices lie -/
structure SX where
  s : St
  A : Option Addr
  c : Nat
  B : Option Addr
  d : Nat
abbrev SX.v (x : SX) : Value := x.s.v x.A x.c x.B x.d
abbrev SX.cells (x : SX) : Array Value := cellsS x.s (.slice x.A x.s.ms.length x.c) (.slice x.B x.s.fl.length x.d)
def seqL (s : St) : List Mov → List St
  | [] => []
  | m :: ms => if (stepF s m).2 = 0 then (stepF s m).1 :: seqL (stepF s m).1 ms else seqL s ms
def Away (bd : Nat → Prop) (A : Option Addr) : Prop := ∀ a, A = some a → ¬ bd a.block
structure Holds (bd : Nat → Prop) (W : World) (b : Nat) (x : SX) : Prop where
  row : W.heap[b]? = some (.cells x.cells 27 (0, 0))
  rd : RdS W x.A x.B x.s
  aA : Away bd x.A
  aB : Away bd x.B

theorem cell_kx {n0 : Nat} {it : Nat → Prop} {W W' : World} (h : Kx n0 it W W') {p : Addr} {v : Value} (hc : W.cell? p = some v) (hp : ¬ it p.block) : W'.cell? p = some v := by
  unfold World.cell? at hc ⊢
  split at hc
  · rename_i c t z hb
    rw [h.same _ _ hb rfl hp]
    exact hc
  · cases hc
theorem Rd.kx {α : Type} {enc : α → List Value} {sz n0 : Nat} {it : Nat → Prop} {W W' : World} {A : Option Addr} {xs : List α} (h : Rd enc sz W A xs) (hk : Kx n0 it W W') (hA : Away it A) : Rd enc sz W' A xs :=
  ⟨h.small, fun k hk' => by
    obtain ⟨a, ha, hc⟩ := h.cell k hk'
    exact ⟨a, ha, fun j v hv => cell_kx hk (hc j v hv) (by rw [show (a.add (k * sz + j)).block = a.block by unfold Addr.add; split <;> rfl]; exact hA a ha)⟩⟩
theorem Away.sub {it bd : Nat → Prop} {A : Option Addr} (h : Away bd A) (hs : ∀ i, it i → bd i) : Away it A := fun a ha hi => h a ha (hs _ hi)
theorem RdS.kx {n0 : Nat} {it : Nat → Prop} {W W' : World} {A B : Option Addr} {s : St} (h : RdS W A B s) (hk : Kx n0 it W W') (hA : Away it A) (hB : Away it B) : RdS W' A B s := ⟨h.ms.kx hk hA, h.fl.kx hk hB⟩
theorem Holds.kx {bd it : Nat → Prop} {n0 b : Nat} {W W' : World} {x : SX} (h : Holds bd W b x) (hk : Kx n0 it W W') (hb : ¬ it b) (hs : ∀ i, it i → bd i) : Holds bd W' b x :=
  ⟨hk.same _ _ h.row rfl hb, h.rd.kx hk (h.aA.sub hs) (h.aB.sub hs), h.aA, h.aB⟩

theorem KeepsOthers.of_below {W W' : World} (h : Below W.heap.size W W') : KeepsOthers W W' := ⟨h.size, fun k o hk _ => (h.block k (Array.getElem?_eq_some_iff.1 hk).1).trans hk⟩
theorem Away.fresh {bd : Nat → Prop} {n bs : Nat} {A : Option Addr} (h : Fresh n A) (hlt : ∀ i, bd i → i ≤ bs) (hn : bs < n) : Away bd A := fun a ha hb => by have := h a ha; have := hlt _ hb; omega

theorem fill_kx (n0 bs : Nat) (hn : n0 ≤ bs) (W : World) (a0 a1 a2 a3 a4 a5 a6 a7 a8 : Value) : Kx n0 (fun i => i = bs) W (((((((((W.setCell ⟨bs, 0, none⟩ a0).setCell ⟨bs, 1, none⟩ a1).setCell ⟨bs, 2, none⟩ a2).setCell ⟨bs, 3, none⟩ a3).setCell ⟨bs, 4, none⟩ a4).setCell ⟨bs, 5, none⟩ a5).setCell ⟨bs, 6, none⟩ a6).setCell ⟨bs, 7, none⟩ a7).setCell ⟨bs, 8, none⟩ a8) ∧ KeepsOthers W (((((((((W.setCell ⟨bs, 0, none⟩ a0).setCell ⟨bs, 1, none⟩ a1).setCell ⟨bs, 2, none⟩ a2).setCell ⟨bs, 3, none⟩ a3).setCell ⟨bs, 4, none⟩ a4).setCell ⟨bs, 5, none⟩ a5).setCell ⟨bs, 6, none⟩ a6).setCell ⟨bs, 7, none⟩ a7).setCell ⟨bs, 8, none⟩ a8) := by
  have h (W : World) (j : Nat) (v : Value) : Kx n0 (fun i => i = bs) W (W.setCell ⟨bs, j, none⟩ v) := Kx.setCell W ⟨bs, j, none⟩ v hn rfl
  refine ⟨?_, ?_⟩
  · exact ((((((((h _ _ _).trans (h _ _ _)).trans (h _ _ _)).trans (h _ _ _)).trans (h _ _ _)).trans (h _ _ _)).trans (h _ _ _)).trans (h _ _ _)).trans (h _ _ _)
  · exact ((((((((KeepsOthers.setCell _ _ _).trans (KeepsOthers.setCell _ _ _)).trans (KeepsOthers.setCell _ _ _)).trans (KeepsOthers.setCell _ _ _)).trans (KeepsOthers.setCell _ _ _)).trans (KeepsOthers.setCell _ _ _)).trans (KeepsOthers.setCell _ _ _)).trans (KeepsOthers.setCell _ _ _)).trans (KeepsOthers.setCell _ _ _)

theorem states1 (n : Nat) (l n0 bs bm : Nat) (bd bdy : Nat → Prop) (hbm : ¬ bd bm) (hbs : bd bs) (hsub : ∀ i, bdy i → bd i) (hbs' : ¬ bdy bs) (hn0 : n0 ≤ bs) (hlt : ∀ i, bd i → i ≤ bs)
    (ms : List Mov) (M : Option Addr) (cm : Nat) (x0 : SX) (I : List SX → World → Prop) (B : World → Prop)
    (hI : ∀ s W W', Kx n0 (fun i => i = bs) W W' → I s W → I s W') (hB : ∀ A C, KeepsOthers A C → B A → B C)
    (hY : ∀ pre x W1, I pre W1 → B W1 → (RdS W1 x.A x.B x.s ∧ Away bd x.A ∧ Away bd x.B) → YieldAt Fence.wide (n - 1) Try.prog l #[x.v] W1 fun e W' => e = .returned (.bool true) ∧ I (pre ++ [x]) W' ∧ B W' ∧ Kx n0 bdy W1 W')
    (W : World) (h0 : Holds bd W bs x0) (hm : W.heap[bm]? = some (.cells #[.slice M ms.length cm] 35 (0, 0))) (hM : Rd encV 3 W M ms) (hMa : Away (fun i => bdy i ∨ i = bs) M) (hI0 : I [] W) (hB0 : B W) :
    CallsIn Fence.wide n Try.prog 43 #[.func (.yield l) #[] #[], .pointer (some ⟨bm, 0, none⟩), .pointer (some ⟨bs, 0, none⟩)] W fun e W' => (∃ v, e = .returned v) ∧ ∃ xs, xs.map (·.s) = seqL x0.s ms ∧ I xs W' ∧ B W' := by
  have hsm := hM.small
  have hbml := (Array.getElem?_eq_some_iff.1 hm).1
  have c0 := cell_of_row _ bm 0 _ _ _ hm
  simp at c0
  have HH := Lib.hid (And.intro h0 (And.intro hm (And.intro hM (And.intro hMa (And.intro hI0 hB0)))))
  have HY := Lib.hid hY
  have HI := Lib.hid (And.intro hI hB)
  have HB := Lib.hid (And.intro hbm (And.intro hbs (And.intro hsub (And.intro hbs' (And.intro hn0 hlt)))))
  clear h0 hm hM hMa hI0 hB0 hY hI hB hbm hbs hsub hbs' hn0 hlt
  refine callsIn_of_wp Try.func43 rfl trivial ?_ rfl
  simp only [Try.ntmps43, List.size_toArray, List.length_cons, List.length_nil, Nat.reduceAdd, Nat.reduceSub, Array.replicate_succ, Array.replicate_zero, List.push_toArray, List.append_toArray, List.nil_append, List.cons_append]
  gi_wp2
  gi_loopw [10] (fun p wr => ∃ (i : Nat) (pre : List SX) (x : SX), p = .int .i64 (i : Int) ∧ i ≤ ms.length ∧ seqL x0.s ms = pre.map (·.s) ++ seqL x.s (ms.drop i) ∧ Holds bd wr bs x ∧ I pre wr ∧ B wr ∧ wr.heap[bm]? = some (.cells #[.slice M ms.length cm] 35 (0, 0)) ∧ Rd encV 3 wr M ms ∧ bs < wr.heap.size) (fun p _ => ms.length - (intOf p).toNat)
  case atStart =>
    exact ⟨0, [], x0, rfl, by omega, by simp, HH.out.1, HH.out.2.2.2.2.1, HH.out.2.2.2.2.2, HH.out.2.1, HH.out.2.2.1, (Array.getElem?_eq_some_iff.1 HH.out.1.row).1⟩
  case round =>
    obtain ⟨i, pre, x, rfl, hi, hseq, hh, hIi, hBi, hbmr, hMr, hbsl⟩ := hrel
    by_cases hlast : i = ms.length
    · have ht : decide (i < ms.length) = false := decide_eq_false (by omega)
      have hc : seqL x0.s ms = pre.map (·.s) := by rw [hseq, hlast, List.drop_length]; simp [seqL]
      have HC := Lib.hid (And.intro hc (And.intro hIi hBi))
      have HL := Lib.hid hlast
      clear hseq hh hIi hBi hbmr hMr hlast hc hi
      gi_wp2
      go_end0
      exact ⟨⟨_, rfl⟩, pre, HC.out.1.symm, HC.out.2.1, HC.out.2.2⟩
    · have hlt : i < ms.length := by omega
      have ht : decide (i < ms.length) = true := decide_eq_true hlt
      obtain ⟨a, rfl, hcm⟩ := hMr.cell i hlt
      have m0 := hcm 0 (.int .i64 ms[i].k) rfl
      have m1 := hcm 1 (.int .i64 ms[i].a) rfl
      have m2 := hcm 2 (.int .i64 ms[i].b) rfl
      have hy0 := fun j => cell_of_row _ bs j _ _ _ hh.row
      have y0 := hy0 0
      have y1 := hy0 1
      have y2 := hy0 2
      have y3 := hy0 3
      have y4 := hy0 4
      have y5 := hy0 5
      have y6 := hy0 6
      have y7 := hy0 7
      have y8 := hy0 8
      simp [cellsS] at y0 y1 y2 y3 y4 y5 y6 y7 y8
      simp only [Nat.add_zero] at m0
      rw [add_field _ _ 1 (by omega)] at m1
      rw [add_field _ _ 2 (by omega)] at m2
      have hds : ms.drop i = ms[i] :: ms.drop (i + 1) := List.drop_eq_getElem_cons hlt
      generalize hmv : ms[i] = mv at *
      obtain ⟨W2, hW2⟩ : ∃ W2, wr.alloc (.cells #[.int .i64 mv.k, .int .i64 mv.a, .int .i64 mv.b] 34) = W2 := ⟨_, rfl⟩
      have hb2 : Below wr.heap.size wr W2 := by rw [← hW2]; exact (Below.refl _ _).alloc (Nat.le_refl _) _
      have hk2 : KeepsOthers wr W2 := by rw [← hW2]; exact KeepsOthers.alloc _ _
      have hst := step_calls x.s x.A x.c x.B x.d mv W2 (hh.rd.below hb2)
      have HST := Lib.hid hst
      have HW2 := Lib.hid (And.intro hW2 (And.intro hb2 hk2))
      have HZ := Lib.hid (And.intro hseq (And.intro hh (And.intro hIi (And.intro hBi (And.intro hbmr (And.intro hMr hds))))))
      clear hseq hh hIi hBi hbmr hMr hcm hy0 hi hW2 hb2 hk2 hst hds
      gi_wp2
      refine ⟨trivial, by simp [Fence.wide], ?_⟩
      rw [HW2.out.1]
      refine (callsIn_wide.2 HST.out).mono ?_
      rintro e w3 ⟨A2, c2, B2, d2, rfl, hrd3, hb3, hfA, hfB⟩
      generalize hr : (stepF x.s mv).1 = r at *
      generalize hcode : (stepF x.s mv).2 = code at *
      obtain ⟨W4, hW4⟩ : ∃ W4, w3.alloc (.cells #[.slice A2 r.ms.length c2, .slice B2 r.fl.length d2, .int .i64 r.wn, .int .i64 r.ws, .int .i64 r.wr, .int .i64 r.ls, .int .i64 r.lr, .int .i64 r.wv, .bool r.told] 27) = W4 := ⟨_, rfl⟩
      have hx4 : Kx n0 (fun i => i = bs) wr W4 := by
        rw [← hW4]
        have hle := HB.out.2.2.2.2.1
        have h2 := HW2.out.2.1.size
        have h3 := hb3.size
        exact ((Kx.of HW2.out.2.1 (by omega)).trans (Kx.of hb3 (by omega))).trans (Kx.alloc w3 _ (by omega))
      have hk4 : KeepsOthers wr W4 := by rw [← hW4]; exact (HW2.out.2.2.trans (KeepsOthers.of_below hb3)).trans (KeepsOthers.alloc _ _)
      have hbs4 : W4.heap[bs]? = some (.cells x.cells 27 (0, 0)) := by
        rw [← hW4]
        have h2 := HW2.out.2.1.size
        have h3 := hb3.size
        exact (Below.heap_alloc _ _ _ (by omega)).trans ((hb3.block _ (by omega)).trans ((HW2.out.2.1.block _ hbsl).trans HZ.out.2.1.row))
      have hn4 : W4.heap[w3.heap.size]? = some (.cells #[.slice A2 r.ms.length c2, .slice B2 r.fl.length d2, .int .i64 r.wn, .int .i64 r.ws, .int .i64 r.wr, .int .i64 r.ls, .int .i64 r.lr, .int .i64 r.wv, .bool r.told] 27 (0, 0)) := by rw [← hW4]; exact heap_alloc_new w3 _
      have hrd4 : RdS W4 A2 B2 r := by rw [← hW4]; exact hrd3.below ((Below.refl _ _).alloc (Nat.le_refl _) _)
      have hbsl2 : bs < W2.heap.size := by have := HW2.out.2.1.size; omega
      have HR := Lib.hid (And.intro hx4 (And.intro hk4 (And.intro hbs4 (And.intro hrd4 (And.intro (Away.fresh hfA HB.out.2.2.2.2.2 hbsl2) (Away.fresh hfB HB.out.2.2.2.2.2 hbsl2))))))
      have HW4 := Lib.hid (And.intro hW4 hn4)
      have HE := Lib.hid (And.intro hr hcode)
      clear hrd3 hb3 hfA hfB hx4 hk4 hbs4 hrd4 hW4 hn4 hr hcode hbsl2
      by_cases hok : code = 0
      · have hcc : (code != 0) = false := by rw [bne_eq_false_iff_eq]; exact hok
        have HO := Lib.hid hok
        clear hok
        have hz := fun j => cell_of_row _ bs j _ _ _ HR.out.2.2.1
        have z0 := hz 0
        have z1 := hz 1
        have z2 := hz 2
        have z3 := hz 3
        have z4 := hz 4
        have z5 := hz 5
        have z6 := hz 6
        have z7 := hz 7
        have z8 := hz 8
        simp [cellsS] at z0 z1 z2 z3 z4 z5 z6 z7 z8
        have fz0 := frozen_of_row _ bs 0 _ _ HR.out.2.2.1
        have fz1 := frozen_of_row _ bs 1 _ _ HR.out.2.2.1
        have fz2 := frozen_of_row _ bs 2 _ _ HR.out.2.2.1
        have fz3 := frozen_of_row _ bs 3 _ _ HR.out.2.2.1
        have fz4 := frozen_of_row _ bs 4 _ _ HR.out.2.2.1
        have fz5 := frozen_of_row _ bs 5 _ _ HR.out.2.2.1
        have fz6 := frozen_of_row _ bs 6 _ _ HR.out.2.2.1
        have fz7 := frozen_of_row _ bs 7 _ _ HR.out.2.2.1
        have fz8 := frozen_of_row _ bs 8 _ _ HR.out.2.2.1
        have hnw := fun j => cell_of_row _ w3.heap.size j _ _ _ HW4.out.2
        have nn0 := hnw 0
        have nn1 := hnw 1
        have nn2 := hnw 2
        have nn3 := hnw 3
        have nn4 := hnw 4
        have nn5 := hnw 5
        have nn6 := hnw 6
        have nn7 := hnw 7
        have nn8 := hnw 8
        simp at nn0 nn1 nn2 nn3 nn4 nn5 nn6 nn7 nn8
        clear hnw hz
        gi_upto_region 5 with fail
        rw [HW4.out.1]
        have q0 := filled (s0 := x.s) (M0 := .slice x.A x.s.ms.length x.c) (F0 := .slice x.B x.s.fl.length x.d) (.slice A2 r.ms.length c2) (.slice B2 r.fl.length d2) (.int .i64 r.wn) (.int .i64 r.ws) (.int .i64 r.wr) (.int .i64 r.ls) (.int .i64 r.lr) (.int .i64 r.wv) (.bool r.told) HR.out.2.2.1
        obtain ⟨Z, hZ⟩ : ∃ Z, (((((((((W4.setCell ⟨bs, 0, none⟩ (.slice A2 r.ms.length c2)).setCell ⟨bs, 1, none⟩ (.slice B2 r.fl.length d2)).setCell ⟨bs, 2, none⟩ (.int .i64 r.wn)).setCell ⟨bs, 3, none⟩ (.int .i64 r.ws)).setCell ⟨bs, 4, none⟩ (.int .i64 r.wr)).setCell ⟨bs, 5, none⟩ (.int .i64 r.ls)).setCell ⟨bs, 6, none⟩ (.int .i64 r.lr)).setCell ⟨bs, 7, none⟩ (.int .i64 r.wv)).setCell ⟨bs, 8, none⟩ (.bool r.told)) = Z := ⟨_, rfl⟩
        have q4 := fill_kx n0 bs HB.out.2.2.2.2.1 W4 (.slice A2 r.ms.length c2) (.slice B2 r.fl.length d2) (.int .i64 r.wn) (.int .i64 r.ws) (.int .i64 r.wr) (.int .i64 r.ls) (.int .i64 r.lr) (.int .i64 r.wv) (.bool r.told)
        rw [hZ] at q4
        have q1 : Kx n0 (fun i => i = bs) wr Z := HR.out.1.trans q4.1
        have q2 : KeepsOthers wr Z := HR.out.2.1.trans q4.2
        have q3 : RdS Z A2 B2 r := HR.out.2.2.2.1.kx q4.1 (HR.out.2.2.2.2.1.sub (fun i e => by subst e; exact HB.out.2.1)) (HR.out.2.2.2.2.2.sub (fun i e => by subst e; exact HB.out.2.1))
        rw [hZ] at q0
        have HQ := Lib.hid (And.intro hZ (And.intro q0 (And.intro q1 (And.intro q2 q3))))
        have hzc := fun j => cell_of_row _ bs j _ _ _ q0
        have zz0 := hzc 0
        have zz1 := hzc 1
        have zz2 := hzc 2
        have zz3 := hzc 3
        have zz4 := hzc 4
        have zz5 := hzc 5
        have zz6 := hzc 6
        have zz7 := hzc 7
        have zz8 := hzc 8
        simp at zz0 zz1 zz2 zz3 zz4 zz5 zz6 zz7 zz8
        obtain ⟨fn, tmps, assign, body, hy, hRr⟩ := HY.out pre ⟨r, A2, c2, B2, d2⟩ Z (HI.out.1 _ _ _ q1 HZ.out.2.2.1) (HI.out.2 _ _ q2 HZ.out.2.2.2.1) ⟨q3, HR.out.2.2.2.2.1, HR.out.2.2.2.2.2⟩
        have HRR := Lib.hid hRr
        clear q0 q1 q2 q3 q4 hZ hzc hRr
        dsimp only [SX.v, St.v] at hy
        gi_upto_region 6 with fail
        rw [HQ.out.1]
        clear z0 fz0 nn0 z1 fz1 nn1 z2 fz2 nn2 z3 fz3 nn3 z4 fz4 nn4 z5 fz5 nn5 z6 fz6 nn6 z7 fz7 nn7 z8 fz8 nn8
        gi_wp2
        refine ⟨by simp [Fence.wide], ?_⟩
        refine (HRR.out).mono ?_
        rintro e W5 ⟨rfl, hI5, hB5, hk5⟩
        have HV := Lib.hid (And.intro hI5 (And.intro hB5 hk5))
        clear hI5 hB5 hk5 hy
        gi_wp2
        have hseq := HZ.out.1
        have hq := HQ.out.2.2.1
        refine ⟨⟨i + 1, pre ++ [⟨r, A2, c2, B2, d2⟩], ⟨r, A2, c2, B2, d2⟩, by simp, hlt, ?_, Holds.kx ⟨HQ.out.2.1, HQ.out.2.2.2.2, HR.out.2.2.2.2.1, HR.out.2.2.2.2.2⟩ HV.out.2.2 HB.out.2.2.2.1 HB.out.2.2.1, HV.out.1, HV.out.2.1, HV.out.2.2.same _ _ (hq.same _ _ HZ.out.2.2.2.2.1 rfl (fun e => HB.out.1 (by rw [e]; exact HB.out.2.1))) rfl (fun e => HB.out.1 (HB.out.2.2.1 _ e)), (HZ.out.2.2.2.2.2.1.kx hq (HH.out.2.2.2.1.sub (fun i e => .inr e))).kx HV.out.2.2 (HH.out.2.2.2.1.sub (fun i e => .inl e)), ?_⟩, ?_⟩
        · rw [hseq, HZ.out.2.2.2.2.2.2]
          rw [seqL, HE.out.2, if_pos HO.out, HE.out.1]
          simp
        · have := hq.size; have := HV.out.2.2.size; omega
        · simp [intOf]; omega
      · have hcc : (code != 0) = true := by rw [bne_iff_ne]; exact hok
        have HO := Lib.hid hok
        clear hok
        gi_wp2
        rw [HW4.out.1]
        have hseq := HZ.out.1
        refine ⟨⟨i + 1, pre, x, by simp, hlt, ?_, ⟨HR.out.2.2.1, HZ.out.2.1.rd.kx HR.out.1 (HZ.out.2.1.aA.sub (fun i e => by subst e; exact HB.out.2.1)) (HZ.out.2.1.aB.sub (fun i e => by subst e; exact HB.out.2.1)), HZ.out.2.1.aA, HZ.out.2.1.aB⟩, HI.out.1 _ _ _ HR.out.1 HZ.out.2.2.1, HI.out.2 _ _ HR.out.2.1 HZ.out.2.2.2.1, HR.out.1.same _ _ HZ.out.2.2.2.2.1 rfl (fun e => HB.out.1 (by rw [e]; exact HB.out.2.1)), HZ.out.2.2.2.2.2.1.kx HR.out.1 (HH.out.2.2.2.1.sub (fun i e => .inr e)), ?_⟩, ?_⟩
        · rw [hseq, HZ.out.2.2.2.2.2.2]
          congr 1
          rw [seqL, HE.out.2, if_neg HO.out]
        · have := HR.out.1.size; omega
        · simp [intOf]; omega
end Go.Proofs.Ythpcipfloofbcaa
