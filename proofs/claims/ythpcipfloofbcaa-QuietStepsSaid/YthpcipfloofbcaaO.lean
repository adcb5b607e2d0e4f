import Derived.Test.YthpcipfloofbcaaN
import Derived.Deep.DeepCutAuto
import Derived.Deep.RegionWith
import Derived.BigRegion
import Derived.Deep.RegionHeld3
import Derived.RangeFuncLeaves
namespace Go.Proofs.Ythpcipfloofbcaa
open Go.RowKit Go.Shelf
set_option maxHeartbeats 4000000
set_option maxRecDepth 100000
set_option linter.unusedSimpArgs false
set_option linter.unusedVariables false
attribute [local irreducible] wpStill
attribute [local go_sem] Oper.semAt_some

theorem states_calls (x : SX) (M : Option Addr) (k cm : Nat) (w : World) :
    Calls Try.prog 28 #[x.v, .slice M k cm] w fun e w' => e = .returned (.func (.func 43) #[] #[.pointer (some ⟨w.heap.size + 1, 0, none⟩), .pointer (some ⟨w.heap.size, 0, none⟩)]) ∧
      w' = (w.alloc (.cells x.cells 27)).alloc (.cells #[.slice M k cm] 35) := by
  have hmf : ∀ (fn : Fn) (first cap : Array Value) (w : World), (Instr.makeFunc fn first cap).run Try.prog w = .ok (.func fn first cap) w := fun _ _ _ _ => rfl
  go_enter Try.func28, Try.ntmps28
  go_wp2
  go_ret
  exact ⟨rfl, rfl⟩

def playF (s : St) (ms : List Mov) : St × Int × Int := if checkF s = 0 then ((seqL s ms).getLastD s, ((seqL s ms).length : Int), 0) else (St.zero, 0, checkF s)
def PPost (w : World) (r : St × Int × Int) (e : Ending) (w' : World) : Prop := ∃ A c B d, e = .returned (.tuple #[r.1.v A c B d, .int .i64 r.2.1, .int .i64 r.2.2]) ∧ RdS w' A B r.1 ∧ Below w.heap.size w w' ∧ Fresh w.heap.size A ∧ Fresh w.heap.size B

theorem play_results (tmps : Array Value) (X : World) (bo : Nat) (r : St) (Mv Fv : Value) (n k : Int) (h4 : tmps[4]?.getD undef = .pointer (some ⟨bo, 0, none⟩)) (h5 : tmps[5]?.getD undef = .int .i64 n) (h6 : tmps[6]?.getD undef = .int .i64 k)
    (hb : X.heap[bo]? = some (.cells (cellsS r Mv Fv) 27 (0, 0))) :
    (results Try.f9 tmps).run Try.prog X = .ok (.tuple #[.agg (cellsS r Mv Fv), .int .i64 n, .int .i64 k]) X := by
  have hz := fun j => cell_of_row _ bo j _ _ _ hb
  have z0 := hz 0
  have z1 := hz 1
  have z2 := hz 2
  have z3 := hz 3
  have z4 := hz 4
  have z5 := hz 5
  have z6 := hz 6
  have z7 := hz 7
  have z8 := hz 8
  simp [cellsS] at z0 z1 z2 z3 z4 z5 z6 z7 z8
  simp [results, Try.results9, go_sem, h4, h5, h6, z0, z1, z2, z3, z4, z5, z6, z7, z8]

/-- what Play has ahead of the loop -/
structure Ahead (w0 wc : World) (n : Nat) (x : SX) : Prop where
  b0 : wc.heap[n]? = some (.cells x.cells 27 (0, 0))
  b1 : wc.heap[n + 1]? = some (.cells zeroS 27 (0, 0))
  rd : RdS wc x.A x.B x.s
  lo : Below n w0 wc
  fA : ∀ a, x.A = some a → n + 2 ≤ a.block ∧ a.block < wc.heap.size
  fB : ∀ a, x.B = some a → n + 2 ≤ a.block ∧ a.block < wc.heap.size
  sz : n + 2 ≤ wc.heap.size

theorem ahead_of {w0 X wc : World} {n : Nat} {s : St} {g c : Nat} {Fv : Value} (h : MS wc (n + 2) n s g c Fv) (hk : Kp (n + 2) n X wc) (h1 : X.heap[n + 1]? = some (.cells zeroS 27 (0, 0))) (hlo : Below n w0 X) : ∃ x : SX, x.s = s ∧ Ahead w0 wc n x := by
  obtain ⟨B, d, rfl, hrd, hg, hfb⟩ := h.out (Y := wc) (be := n + 1) (by omega) (by omega) (fun _ _ _ => rfl)
  refine ⟨⟨s, some ⟨g, 0, none⟩, c, B, d⟩, rfl, h.blk, (hk.block _ (by omega) (by omega)).trans h1, hrd, hlo.trans ⟨hk.os, hk.tape, hk.output, hk.size, fun k hk' => hk.block k (by omega) (by omega)⟩, ?_, ?_, ?_⟩
  · intro a ha; cases ha; exact ⟨hg, (h.om.blk g rfl).2.1⟩
  · intro a ha; cases ha; exact ⟨(h.of.blk a.block rfl).1, (h.of.blk a.block rfl).2.1⟩
  · have := (Array.getElem?_eq_some_iff.1 ((hk.block (n + 1) (by omega) (by omega)).trans h1)).1; omega

theorem seqL_length (s : St) (ms : List Mov) : (seqL s ms).length ≤ ms.length := by
  induction ms generalizing s with
  | nil => simp [seqL]
  | cons m ms ih =>
    simp only [seqL]
    split
    · simpa using ih _
    · have := ih s; simp; omega

def pbd (n Bn bs i : Nat) : Prop := i ≤ n + 1 ∨ i = Bn ∨ i = bs
/-- what Play's loop holds between two rounds -/
structure PI (w0 : World) (n Bn bs : Nat) (x : SX) (pre : List SX) (W : World) : Prop where
  h0 : Holds (pbd n Bn bs) W n (pre.getLastD x)
  h1 : W.heap[n + 1]? = some (.cells zeroS 27 (0, 0))
  h2 : W.heap[Bn]? = some (.cells #[.int .i64 (IntKind.i64.wrap (pre.length : Int))] 3 (0, 0))
  lo : Below n w0 W
theorem PI.kx {w0 : World} {n Bn bs : Nat} {x : SX} {pre : List SX} {W W' : World} {it : Nat → Prop} (h : PI w0 n Bn bs x pre W) (hk : Kx n it W W') (hit : ∀ i, it i → i = bs) (h3 : n < bs) (h4 : n + 1 < bs) (h5 : Bn < bs) : PI w0 n Bn bs x pre W' :=
  ⟨h.h0.kx hk (fun e => by have := hit _ e; omega) (fun i e => .inr (.inr (hit i e))), hk.same _ _ h.h1 rfl (fun e => by have := hit _ e; omega), hk.same _ _ h.h2 rfl (fun e => by have := hit _ e; omega), h.lo.trans ⟨hk.os, hk.tape, hk.output, hk.size, hk.low⟩⟩

theorem play_calls (s : St) (A : Option Addr) (c : Nat) (B : Option Addr) (d : Nat) (ms : List Mov) (M : Option Addr) (cm : Nat) (w : World) (h : RdS w A B s) (hM : Rd encV 3 w M ms) (hMs : ∀ a, M = some a → a.block < w.heap.size) :
    Calls Try.prog 9 #[s.v A c B d, .slice M ms.length cm] w (PPost w (playF s ms)) := by
  obtain ⟨W, hW⟩ : ∃ W, (w.alloc (.cells (cellsS s (.slice A s.ms.length c) (.slice B s.fl.length d)) 27)).alloc (.cells zeroS 27) = W := ⟨_, rfl⟩
  have hb : Below w.heap.size w W := by
    rw [← hW]
    exact ((Below.refl _ _).alloc (Nat.le_refl _) _).alloc (by simp) _
  have hsz : W.heap.size = w.heap.size + 2 := by rw [← hW]; simp
  have hb0 : W.heap[w.heap.size]? = some (.cells (cellsS s (.slice A s.ms.length c) (.slice B s.fl.length d)) 27 (0, 0)) := by
    rw [← hW, Below.heap_alloc _ _ _ (by simp)]; exact heap_alloc_new w _
  have hb1 : W.heap[w.heap.size + 1]? = some (.cells zeroS 27 (0, 0)) := by
    rw [← hW]
    have := heap_alloc_new (w.alloc (.cells (cellsS s (.slice A s.ms.length c) (.slice B s.fl.length d)) 27)) (.cells zeroS 27)
    simpa using this
  have hck := check_calls s A c B d W (h.below hb)
  have HC := Lib.hid hck
  have HW := Lib.hid (And.intro hW (And.intro hb (And.intro hsz (And.intro hb0 hb1))))
  have HR := Lib.hid (And.intro h (And.intro hM hMs))
  clear hck hW hb hsz hb0 hb1 h hM hMs
  refine (callsIn_wide (n := 5)).1 ?_
  refine callsIn_of_wp_marks Try.func9 rfl trivial ?_ rfl
  refine wpIn_wide.2 ?_
  simp only [Try.ntmps9, List.size_toArray, List.length_cons, List.length_nil, Nat.reduceAdd, Nat.reduceSub, Array.replicate_succ, Array.replicate_zero, List.push_toArray, List.append_toArray, List.nil_append, List.cons_append]
  by_cases hk : checkF s = 0
  · have hkc : (checkF s != 0) = false := by rw [bne_eq_false_iff_eq]; exact hk
    have hr : playF s ms = ((seqL s ms).getLastD s, ((seqL s ms).length : Int), 0) := by unfold playF; rw [if_pos hk]
    rw [hr]
    have HK := Lib.hid hk
    clear hr hk
    go_wp2_with fail
    rw [HW.out.1]
    (with_reducible refine (HC.out).mono ?_); rintro e w1 ⟨rfl, hb1⟩
    have g0 := (hb1.block _ (by have := HW.out.2.2.1; omega)).trans HW.out.2.2.2.1
    have g1 := (hb1.block _ (by have := HW.out.2.2.1; omega)).trans HW.out.2.2.2.2
    have hlo : Below w.heap.size w w1 := HW.out.2.1.trans (hb1.mono HW.out.2.1.size)
    have hxs : w.heap.size + 2 ≤ w1.heap.size := by have := hb1.size; have := HW.out.2.2.1; omega
    have hfine : Fine s := (fine_iff s).1 (by have := HK.out; unfold checkF at this; split at this <;> simp_all)
    have hrd : RdS w1 A B s := HR.out.1.below hlo
    have c1 := cloneM_calls A s.ms c w1.drew hrd.ms.drew (by have := hfine.n1; omega)
    have c2 : ∀ w2, Below w1.drew.heap.size w1.drew w2 → Calls Try.prog 27 #[.slice B s.fl.length d] w2 (ClonePost encI 1 3 s.fl w2) := fun w2 hw2 => cloneI_calls B s.fl d w2 (hrd.fl.below (show Below w1.heap.size w1 w2 from ⟨hw2.os, hw2.tape, hw2.output, hw2.size, hw2.block⟩)) (by have := hfine.fl; omega)
    have x0 := cell_of_row _ w.heap.size 0 _ _ _ g0
    have x1 := cell_of_row _ w.heap.size 1 _ _ _ g0
    simp at x0 x1
    have hl0 : w.heap.size < w1.drew.heap.size := (Array.getElem?_eq_some_iff.1 g0).1
    have HC1 := Lib.hid c1
    have HC2 := Lib.hid c2
    have HG := Lib.hid (And.intro g0 (And.intro g1 (And.intro hlo (And.intro hxs (And.intro hfine hl0)))))
    clear c1 c2 g0 g1 hlo hxs hfine hrd hl0 hb1
    go_upto_region 4 with fail
    go_cut [22] from 16 to 23 (fun s22 wc => s22 = .pointer (some ⟨w.heap.size, 0, none⟩) ∧ ∃ x : SX, x.s = s ∧ Ahead w wc w.heap.size x)
    case first =>
      refine wp_region_noPanic ?_
      go_region_with (first | (go_at_call 26; (with_reducible refine (HC1.out).mono ?_); rintro e w2 ⟨v1, rfl, ho1, hb1⟩; obtain ⟨ga, gc, rfl, hga, hgb⟩ := World.ownsRow.form ho1 HG.out.2.2.2.2.1.n0; clear hga hgb; have y1 : w2.cell? ⟨w.heap.size, 1, none⟩ = some (.slice B s.fl.length d) := (hb1.cell (p := ⟨w.heap.size, 1, none⟩) HG.out.2.2.2.2.2).trans x1; have HO1 := Lib.hid (And.intro ho1 hb1); clear ho1 hb1) | (go_at_call 27; (with_reducible refine (HC2.out _ HO1.out.2).mono ?_); rintro e w3 ⟨v2, rfl, ho2, hb2⟩; obtain ⟨fa, fc, rfl, hfr⟩ := Own.rd lenI ho2; clear hfr; have hq3 : w3.heap[w.heap.size]? = some (.cells (cellsS s (.slice A s.ms.length c) (.slice B s.fl.length d)) 27 (0, 0)) := (hb2.block _ (Nat.lt_of_lt_of_le HG.out.2.2.2.2.2 HO1.out.2.size)).trans ((HO1.out.2.block _ HG.out.2.2.2.2.2).trans HG.out.1); have q0 := cell_of_row _ w.heap.size 0 _ _ _ hq3; have q1 := cell_of_row _ w.heap.size 1 _ _ _ hq3; have qf0 := frozen_of_row _ w.heap.size 0 _ _ hq3; have qf1 := frozen_of_row _ w.heap.size 1 _ _ hq3; simp at q0 q1; have HO2 := Lib.hid (And.intro ho2 hb2); clear ho2 hb2 hq3))
      all_goals refine NoPanic.normal ?_
      all_goals have hcl := cloned (base := w.heap.size + 2) HG.out.2.2.2.1 HO1.out.1 (show Below w1.heap.size w1 w2 from ⟨HO1.out.2.os, HO1.out.2.tape, HO1.out.2.output, HO1.out.2.size, HO1.out.2.block⟩) HO2.out.1 HO2.out.2 HG.out.1 HG.out.2.2.2.2.1.n0
      all_goals (go_wp2_with fail; go_meet; obtain ⟨g, cc, hv, hms, hkp⟩ := hcl; exact ⟨rfl, ahead_of hms hkp HG.out.2.1 HG.out.2.2.1⟩)
    case rest =>
      obtain ⟨rfl, x, hxs, hah⟩ := hcut
      have HA := Lib.hid (And.intro hxs hah)
      clear x0 x1 hxs hah
      obtain ⟨W5, hW5⟩ : ∃ W5, wc.alloc (.cells #[.int .i64 0] 3) = W5 := ⟨_, rfl⟩
      have hb5 : Below wc.heap.size wc W5 := by rw [← hW5]; exact (Below.refl _ _).alloc (Nat.le_refl _) _
      have hn5 : W5.heap[wc.heap.size]? = some (.cells #[.int .i64 0] 3 (0, 0)) := by rw [← hW5]; exact heap_alloc_new wc _
      have hs5 : W5.heap.size = wc.heap.size + 1 := by rw [← hW5]; simp
      have hx5 : W5.heap[w.heap.size]? = some (.cells x.cells 27 (0, 0)) := (hb5.block _ (by have := HA.out.2.sz; omega)).trans HA.out.2.b0
      have hz := fun j => cell_of_row _ w.heap.size j _ _ _ hx5
      have z0 := hz 0
      have z1 := hz 1
      have z2 := hz 2
      have z3 := hz 3
      have z4 := hz 4
      have z5 := hz 5
      have z6 := hz 6
      have z7 := hz 7
      have z8 := hz 8
      simp [cellsS] at z0 z1 z2 z3 z4 z5 z6 z7 z8
      have H5 := Lib.hid (And.intro hW5 (And.intro hb5 (And.intro hn5 (And.intro hs5 hx5))))
      clear hz hW5 hb5 hn5 hs5 hx5
      go_upto_region 6 with fail
      rw [H5.out.1]
      go_wp2_with (refine (states_calls x M ms.length cm _).mono ?_; rintro e w2 ⟨rfl, rfl⟩)
      have hlt5 : w.heap.size + 2 ≤ wc.heap.size := HA.out.2.sz
      have hs5 := H5.out.2.2.2.1
      obtain ⟨V, hV⟩ : ∃ V, (W5.alloc (.cells x.cells 27)).alloc (.cells #[.slice M ms.length cm] 35) = V := ⟨_, rfl⟩
      have hb6 : Below W5.heap.size W5 V := by rw [← hV]; exact ((Below.refl _ _).alloc (Nat.le_refl _) _).alloc (by simp) _
      have hv1 : V.heap[W5.heap.size]? = some (.cells x.cells 27 (0, 0)) := by
        rw [← hV, Below.heap_alloc _ _ _ (by simp)]; exact heap_alloc_new W5 _
      have hv2 : V.heap[W5.heap.size + 1]? = some (.cells #[.slice M ms.length cm] 35 (0, 0)) := by
        rw [← hV]
        have := heap_alloc_new (W5.alloc (.cells x.cells 27)) (.cells #[.slice M ms.length cm] 35)
        simpa using this
      have hvs : V.heap.size = W5.heap.size + 2 := by rw [← hV]; simp
      have hlo6 : Below w.heap.size w V := (HA.out.2.lo.trans (H5.out.2.1.mono (by omega))).trans (hb6.mono (by omega))
      have hrd6 : RdS V x.A x.B x.s := (HA.out.2.rd.below H5.out.2.1).below hb6
      have hfA : Away (pbd w.heap.size wc.heap.size W5.heap.size) x.A := fun a ha e => by have := HA.out.2.fA a ha; simp only [pbd] at e; omega
      have hfB : Away (pbd w.heap.size wc.heap.size W5.heap.size) x.B := fun a ha e => by have := HA.out.2.fB a ha; simp only [pbd] at e; omega
      have hfM : Away (fun i => (i = w.heap.size ∨ i = wc.heap.size) ∨ i = W5.heap.size) M := fun a ha e => by have := HR.out.2.2 a ha; omega
      have hPI : PI w w.heap.size wc.heap.size W5.heap.size x [] V :=
        ⟨⟨(hb6.block _ (by omega)).trans H5.out.2.2.2.2, hrd6, hfA, hfB⟩, (hb6.block _ (by omega)).trans ((H5.out.2.1.block _ (by omega)).trans HA.out.2.b1), (hb6.block _ (by omega)).trans H5.out.2.2.1, hlo6⟩
      have hHo : Holds (pbd w.heap.size wc.heap.size W5.heap.size) V W5.heap.size x := ⟨hv1, hrd6, hfA, hfB⟩
      have hMV : Rd encV 3 V M ms := (HR.out.2.1.below hlo6)
      have HV := Lib.hid (And.intro hPI (And.intro hHo (And.intro hv2 (And.intro hMV (And.intro hfM hvs)))))
      rw [hV]
      clear hV hb6 hv1 hv2 hvs hlo6 hrd6 hfA hfB hfM hPI hHo hMV z0 z1 z2 z3 z4 z5 z6 z7 z8
      refine (wpIn_wide (n := 5)).1 ?_
      refine range_own (F := Fence.wide) (n := 5) rfl (by omega) (gf := 43) (lb := #[.pointer (some ⟨W5.heap.size + 1, 0, none⟩), .pointer (some ⟨W5.heap.size, 0, none⟩)]) rfl trivial (enters_of Try.func43 (by kernel_rfl) rfl) (encs := fun (y : SX) => #[y.v]) (fun _ => rfl)
        w.heap.size (by have := HV.out.2.2.2.2.2; omega) (fun i => i = w.heap.size ∨ i = wc.heap.size) (PI w w.heap.size wc.heap.size W5.heap.size x)
        (fun _ y W => RdS W y.A y.B y.s ∧ Away (pbd w.heap.size wc.heap.size W5.heap.size) y.A ∧ Away (pbd w.heap.size wc.heap.size W5.heap.size) y.B) (fun xs => xs.map (·.s) = seqL x.s ms)
        (fun _ _ _ hk h => h.kx hk (fun _ e => e.elim) (by omega) (by omega) (by omega)) (fun _ y _ _ hk h => ⟨h.1.kx hk (fun _ _ e => e) (fun _ _ e => e), h.2⟩) HV.out.1
        (fun pre y a' W => ∃ Bx, a' = { tmps := #[s.v A c B d, .slice M ms.length cm, .pointer (some ⟨w.heap.size, 0, none⟩), undef, .pointer (some ⟨w.heap.size + 1, 0, none⟩), .int .i64 0, .int .i64 0, .int .i64 (checkF s), .pointer (some ⟨wc.heap.size, 0, none⟩), .pointer (some ⟨Bx, 0, none⟩), .agg (cellsS s (.slice A s.ms.length c) (.slice B s.fl.length d)), .int .i64 (checkF s), .int .i64 (checkF s), .bool false, undef, undef, u16, u17, u18, u19, u20, u21, .pointer (some ⟨w.heap.size, 0, none⟩), u23, .agg x.cells, .slice M ms.length cm, .func (.func 43) #[] #[.pointer (some ⟨W5.heap.size + 1, 0, none⟩), .pointer (some ⟨W5.heap.size, 0, none⟩)], y.v, undef, undef, undef, undef, undef], defers := [] } ∧ W.heap[Bx]? = some (.cells y.cells 27 (0, 0)) ∧ PI w w.heap.size wc.heap.size W5.heap.size x pre W ∧ RdS W y.A y.B y.s ∧ Away (pbd w.heap.size wc.heap.size W5.heap.size) y.A ∧ Away (pbd w.heap.size wc.heap.size W5.heap.size) y.B)
        (fun _ y a' W W' hk h => by
          obtain ⟨Bx, ha, hB, hP, hr, hA⟩ := h
          exact ⟨Bx, ha, hk.same _ _ hB rfl (fun e => e), hP.kx hk (fun _ e => e.elim) (by omega) (by omega) (by omega), hr.kx hk (fun _ _ e => e) (fun _ _ e => e), hA⟩) ?seq ?assign ?body ?done
      case seq =>
        intro l Bk V2 hk hI hB hBk hY
        exact states1 4 l w.heap.size W5.heap.size (W5.heap.size + 1) (pbd w.heap.size wc.heap.size W5.heap.size) (fun i => i = w.heap.size ∨ i = wc.heap.size) (by simp only [pbd]; omega) (by simp [pbd]) (fun i e => by simp only [pbd]; omega) (by omega) (by omega) (fun i e => by simp only [pbd] at e; omega)
          ms M cm x (PI w w.heap.size wc.heap.size W5.heap.size x) Bk (fun _ _ _ hk h => h.kx hk (fun _ e => e) (by omega) (by omega) (by omega)) hBk hY V2
          (HV.out.2.1.kx hk (fun e => e) (fun _ e => e.elim)) (hk.same _ _ HV.out.2.2.1 rfl (fun e => e)) (HV.out.2.2.2.1.kx hk (fun _ _ e => e)) HV.out.2.2.2.2.1 hI hB
      case assign =>
        clear hs5
        intro l pre y U K hP hpre hK
        gi_wp2
        exact hK _ _ (KeepsOthers.alloc _ _) (Kx.alloc U _ (Nat.le_trans (by have := HA.out.2.lo.size; have := HA.out.2.sz; omega) (Nat.le_of_lt (Nat.lt_of_le_of_lt (Nat.le_refl _) (Array.getElem?_eq_some_iff.1 hP.h0.row).1)))) ⟨U.heap.size, rfl, heap_alloc_new U _, hP.kx (Kx.alloc (it := fun _ => False) U _ (Nat.le_of_lt (Array.getElem?_eq_some_iff.1 hP.h0.row).1)) (fun _ e => e.elim) (by have := H5.out.2.2.2.1; omega) (by have := H5.out.2.2.2.1; omega) (by have := H5.out.2.2.2.1; omega), hpre.1.kx (Kx.alloc (n0 := 0) (it := fun _ => False) U _ (Nat.zero_le _)) (fun _ _ e => e) (fun _ _ e => e), hpre.2⟩
      case body =>
        rintro l pre y a' U ⟨Bx, rfl, hBx, hP, hrd, hyA, hyB⟩
        clear hs5
        have hz := fun j => cell_of_row _ w.heap.size j _ _ _ hP.h0.row
        have z0 := hz 0
        have z1 := hz 1
        have z2 := hz 2
        have z3 := hz 3
        have z4 := hz 4
        have z5 := hz 5
        have z6 := hz 6
        have z7 := hz 7
        have z8 := hz 8
        simp [cellsS] at z0 z1 z2 z3 z4 z5 z6 z7 z8
        have fz0 := frozen_of_row _ w.heap.size 0 _ _ hP.h0.row
        have fz1 := frozen_of_row _ w.heap.size 1 _ _ hP.h0.row
        have fz2 := frozen_of_row _ w.heap.size 2 _ _ hP.h0.row
        have fz3 := frozen_of_row _ w.heap.size 3 _ _ hP.h0.row
        have fz4 := frozen_of_row _ w.heap.size 4 _ _ hP.h0.row
        have fz5 := frozen_of_row _ w.heap.size 5 _ _ hP.h0.row
        have fz6 := frozen_of_row _ w.heap.size 6 _ _ hP.h0.row
        have fz7 := frozen_of_row _ w.heap.size 7 _ _ hP.h0.row
        have fz8 := frozen_of_row _ w.heap.size 8 _ _ hP.h0.row
        have hy := fun j => cell_of_row _ Bx j _ _ _ hBx
        have y0 := hy 0
        have y1 := hy 1
        have y2 := hy 2
        have y3 := hy 3
        have y4 := hy 4
        have y5 := hy 5
        have y6 := hy 6
        have y7 := hy 7
        have y8 := hy 8
        simp [cellsS] at y0 y1 y2 y3 y4 y5 y6 y7 y8
        have q0 := filled (s0 := (pre.getLastD x).s) (M0 := .slice (pre.getLastD x).A (pre.getLastD x).s.ms.length (pre.getLastD x).c) (F0 := .slice (pre.getLastD x).B (pre.getLastD x).s.fl.length (pre.getLastD x).d) (.slice y.A y.s.ms.length y.c) (.slice y.B y.s.fl.length y.d) (.int .i64 y.s.wn) (.int .i64 y.s.ws) (.int .i64 y.s.wr) (.int .i64 y.s.ls) (.int .i64 y.s.lr) (.int .i64 y.s.wv) (.bool y.s.told) hP.h0.row
        have q1 := fill_kx w.heap.size w.heap.size (Nat.le_refl _) U (.slice y.A y.s.ms.length y.c) (.slice y.B y.s.fl.length y.d) (.int .i64 y.s.wn) (.int .i64 y.s.ws) (.int .i64 y.s.wr) (.int .i64 y.s.ls) (.int .i64 y.s.lr) (.int .i64 y.s.wv) (.bool y.s.told)
        obtain ⟨Z, hZ⟩ : ∃ Z, (((((((((U.setCell ⟨w.heap.size, 0, none⟩ (.slice y.A y.s.ms.length y.c)).setCell ⟨w.heap.size, 1, none⟩ (.slice y.B y.s.fl.length y.d)).setCell ⟨w.heap.size, 2, none⟩ (.int .i64 y.s.wn)).setCell ⟨w.heap.size, 3, none⟩ (.int .i64 y.s.ws)).setCell ⟨w.heap.size, 4, none⟩ (.int .i64 y.s.wr)).setCell ⟨w.heap.size, 5, none⟩ (.int .i64 y.s.ls)).setCell ⟨w.heap.size, 6, none⟩ (.int .i64 y.s.lr)).setCell ⟨w.heap.size, 7, none⟩ (.int .i64 y.s.wv)).setCell ⟨w.heap.size, 8, none⟩ (.bool y.s.told)) = Z := ⟨_, rfl⟩
        rw [hZ] at q0 q1
        have hcz := q1.1.same _ _ hP.h2 rfl (by omega)
        have cz := cell_of_row _ wc.heap.size 0 _ _ _ hcz
        simp at cz
        have cf := frozen_of_row _ wc.heap.size 0 _ _ hcz
        have HQ := Lib.hid (And.intro hZ (And.intro q0 (And.intro q1 hcz)))
        have HP := Lib.hid (And.intro hP (And.intro hrd (And.intro hyA hyB)))
        clear hz hy hZ q0 q1 hcz hP hrd hyA hyB hBx
        gi_upto_region 9 with fail
        rw [HQ.out.1]
        clear z0 fz0 y0 z1 fz1 y1 z2 fz2 y2 z3 fz3 y3 z4 fz4 y4 z5 fz5 y5 z6 fz6 y6 z7 fz7 y7 z8 fz8 y8
        gi_wp2
        have hKx : Kx w.heap.size (fun i => i = w.heap.size ∨ i = wc.heap.size) U (Z.setCell ⟨wc.heap.size, 0, none⟩ (.int .i64 (wrap64 (wrap64 (pre.length : Int) + 1)))) := (HQ.out.2.2.1.1.weaken (fun i e => .inl e)).trans (Kx.setCell Z ⟨wc.heap.size, 0, none⟩ _ (by show w.heap.size ≤ wc.heap.size; omega) (.inr rfl))
        refine ⟨HQ.out.2.2.1.2.trans (KeepsOthers.setCell _ _ _), hKx, ⟨⟨?_, ?_, ?_, ?_⟩, ?_, ?_, ?_⟩⟩
        · rw [heap_setCell_other _ ⟨wc.heap.size, 0, none⟩ _ _ (by show w.heap.size ≠ wc.heap.size; omega), List.getLastD_concat]; exact HQ.out.2.1
        · rw [List.getLastD_concat]; exact HP.out.2.1.kx hKx (HP.out.2.2.1.sub (fun i e => by simp only [pbd]; omega)) (HP.out.2.2.2.sub (fun i e => by simp only [pbd]; omega))
        · rw [List.getLastD_concat]; exact HP.out.2.2.1
        · rw [List.getLastD_concat]; exact HP.out.2.2.2
        · exact hKx.same _ _ HP.out.1.h1 rfl (by omega)
        · rw [heap_setCell_same Z _ 0 _ _ _ HQ.out.2.2.2]
          have hw : wrap64 (wrap64 (pre.length : Int) + 1) = IntKind.i64.wrap ((pre ++ [y]).length : Int) := by
            rw [List.length_append, List.length_singleton, IntKind.wrap_i64]
            simp only [wrap64]
            omega
          rw [hw]
          rfl
        · exact HP.out.1.lo.trans ⟨hKx.os, hKx.tape, hKx.output, hKx.size, hKx.low⟩
      case done =>
        intro D xs U hD hS hP hd
        have hlen : xs.length = (seqL x.s ms).length := by rw [← hS, List.length_map]
        have hxsl := seqL_length x.s ms
        have hMsm := HR.out.2.1.small
        have hwl : wrap64 (xs.length : Int) = (xs.length : Int) := by simp only [wrap64]; omega
        obtain ⟨L, hL⟩ : ∃ L, xs.getLastD x = L := ⟨_, rfl⟩
        have hLs : L.s = (seqL s ms).getLastD s := by
          rw [← HA.out.1, ← hS, ← hL, List.getLastD_eq_getLast?, List.getLastD_eq_getLast?, List.getLast?_map]
          cases xs.getLast? <;> rfl
        have h0 := hP.h0
        rw [hL] at h0
        have hz := fun j => cell_of_row _ (w.heap.size + 1) j _ _ _ hP.h1
        have z0 := hz 0
        have z1 := hz 1
        have z2 := hz 2
        have z3 := hz 3
        have z4 := hz 4
        have z5 := hz 5
        have z6 := hz 6
        have z7 := hz 7
        have z8 := hz 8
        simp at z0 z1 z2 z3 z4 z5 z6 z7 z8
        have fz0 := frozen_of_row _ (w.heap.size + 1) 0 _ _ hP.h1
        have fz1 := frozen_of_row _ (w.heap.size + 1) 1 _ _ hP.h1
        have fz2 := frozen_of_row _ (w.heap.size + 1) 2 _ _ hP.h1
        have fz3 := frozen_of_row _ (w.heap.size + 1) 3 _ _ hP.h1
        have fz4 := frozen_of_row _ (w.heap.size + 1) 4 _ _ hP.h1
        have fz5 := frozen_of_row _ (w.heap.size + 1) 5 _ _ hP.h1
        have fz6 := frozen_of_row _ (w.heap.size + 1) 6 _ _ hP.h1
        have fz7 := frozen_of_row _ (w.heap.size + 1) 7 _ _ hP.h1
        have fz8 := frozen_of_row _ (w.heap.size + 1) 8 _ _ hP.h1
        have hy := fun j => cell_of_row _ w.heap.size j _ _ _ h0.row
        have y0 := hy 0
        have y1 := hy 1
        have y2 := hy 2
        have y3 := hy 3
        have y4 := hy 4
        have y5 := hy 5
        have y6 := hy 6
        have y7 := hy 7
        have y8 := hy 8
        simp [cellsS] at y0 y1 y2 y3 y4 y5 y6 y7 y8
        have cz := cell_of_row _ wc.heap.size 0 _ _ _ hP.h2
        simp at cz
        have q0 := filled (s0 := St.zero) (M0 := .slice none 0 0) (F0 := .slice none 0 0) (.slice L.A L.s.ms.length L.c) (.slice L.B L.s.fl.length L.d) (.int .i64 L.s.wn) (.int .i64 L.s.ws) (.int .i64 L.s.wr) (.int .i64 L.s.ls) (.int .i64 L.s.lr) (.int .i64 L.s.wv) (.bool L.s.told) hP.h1
        have q1 := fill_kx w.heap.size (w.heap.size + 1) (by omega) U (.slice L.A L.s.ms.length L.c) (.slice L.B L.s.fl.length L.d) (.int .i64 L.s.wn) (.int .i64 L.s.ws) (.int .i64 L.s.wr) (.int .i64 L.s.ls) (.int .i64 L.s.lr) (.int .i64 L.s.wv) (.bool L.s.told)
        obtain ⟨Z, hZ⟩ : ∃ Z, (((((((((U.setCell ⟨w.heap.size + 1, 0, none⟩ (.slice L.A L.s.ms.length L.c)).setCell ⟨w.heap.size + 1, 1, none⟩ (.slice L.B L.s.fl.length L.d)).setCell ⟨w.heap.size + 1, 2, none⟩ (.int .i64 L.s.wn)).setCell ⟨w.heap.size + 1, 3, none⟩ (.int .i64 L.s.ws)).setCell ⟨w.heap.size + 1, 4, none⟩ (.int .i64 L.s.wr)).setCell ⟨w.heap.size + 1, 5, none⟩ (.int .i64 L.s.ls)).setCell ⟨w.heap.size + 1, 6, none⟩ (.int .i64 L.s.lr)).setCell ⟨w.heap.size + 1, 7, none⟩ (.int .i64 L.s.wv)).setCell ⟨w.heap.size + 1, 8, none⟩ (.bool L.s.told)) = Z := ⟨_, rfl⟩
        rw [hZ] at q0 q1
        have hDZ := q1.2.same _ _ hd rfl
        have hne2 : w.heap.size + 1 ≠ D := by rintro rfl; rw [hP.h1] at hd; cases hd
        have hx2 : Kx w.heap.size (fun _ => False) Z.drew (Z.drew.putObj D (.deferred none)) := Kx.putObj Z.drew hDZ rfl hD
        have HP := Lib.hid (And.intro hP (And.intro h0 (And.intro hlen (And.intro hLs (And.intro hd hne2)))))
        have HQ := Lib.hid (And.intro hZ (And.intro q0 (And.intro q1 (And.intro hDZ hx2))))
        have HL := Lib.hid hwl
        have HX := Lib.hid (And.intro hxsl hMsm)
        have hne : wc.heap.size ≠ w.heap.size + 1 := by omega
        clear hz hy hP hS hlen hxsl hMsm hd hs5 hL hLs h0 hwl q0 q1 hZ hDZ hne2 hx2
        go_wp2_with fail
        go_region
        go_wp2_with fail
        rw [HQ.out.1, HL.out]
        refine ⟨by simp, .inl ⟨_, _, rfl, run_takeDeferred HQ.out.2.2.2.1, ?_⟩⟩
        have hrow : (Z.drew.putObj D (.deferred none)).heap[w.heap.size + 1]? = some (.cells (cellsS L.s (.slice L.A L.s.ms.length L.c) (.slice L.B L.s.fl.length L.d)) 27 (0, 0)) := (World.putObj_heap_other (fun e => HP.out.2.2.2.2.2 (by omega))).trans HQ.out.2.1
        refine ⟨_, play_results _ _ _ L.s _ _ (xs.length : Int) 0 rfl rfl rfl hrow, L.A, L.c, L.B, L.d, ?_, ?_, ?_, fun a ha => by have := HP.out.2.1.aA a ha; simp only [pbd] at this; omega, fun a ha => by have := HP.out.2.1.aB a ha; simp only [pbd] at this; omega⟩
        · rw [← HP.out.2.2.2.1, HP.out.2.2.1, HA.out.1]
        · rw [← HP.out.2.2.2.1]
          exact RdS.kx (it := fun _ => False) (RdS.kx (n0 := 0) (it := fun _ => False) (HP.out.2.1.rd.kx HQ.out.2.2.1.1 (HP.out.2.1.aA.sub (fun i e => by simp only [pbd]; omega)) (HP.out.2.1.aB.sub (fun i e => by simp only [pbd]; omega))) (Kx.drew Z) (fun _ _ e => e) (fun _ _ e => e)) HQ.out.2.2.2.2 (fun _ _ e => e) (fun _ _ e => e)
        · have k1 := HQ.out.2.2.1.1
          have k2 := HQ.out.2.2.2.2
          exact (Below.drew (HP.out.1.lo.trans ⟨k1.os, k1.tape, k1.output, k1.size, k1.low⟩)).trans ⟨k2.os, k2.tape, k2.output, k2.size, k2.low⟩
  · have hkc : (checkF s != 0) = true := by rw [bne_iff_ne]; exact hk
    have hr : playF s ms = (St.zero, 0, checkF s) := by unfold playF; rw [if_neg hk]
    rw [hr]
    have HK := Lib.hid hk
    clear hr hk
    go_wp2_with fail
    rw [HW.out.1]
    (with_reducible refine (HC.out).mono ?_); rintro e w1 ⟨rfl, hb1⟩
    have hF := (hb1.block _ (by have := HW.out.2.2.1; omega)).trans HW.out.2.2.2.2
    have hHF := Lib.hid hb1
    have hz := fun j => cell_of_row _ (w.heap.size + 1) j _ _ _ hF
    have z0 := hz 0
    have z1 := hz 1
    have z2 := hz 2
    have z3 := hz 3
    have z4 := hz 4
    have z5 := hz 5
    have z6 := hz 6
    have z7 := hz 7
    have z8 := hz 8
    simp at z0 z1 z2 z3 z4 z5 z6 z7 z8
    have fz0 := frozen_of_row _ (w.heap.size + 1) 0 _ _ hF
    have fz1 := frozen_of_row _ (w.heap.size + 1) 1 _ _ hF
    have fz2 := frozen_of_row _ (w.heap.size + 1) 2 _ _ hF
    have fz3 := frozen_of_row _ (w.heap.size + 1) 3 _ _ hF
    have fz4 := frozen_of_row _ (w.heap.size + 1) 4 _ _ hF
    have fz5 := frozen_of_row _ (w.heap.size + 1) 5 _ _ hF
    have fz6 := frozen_of_row _ (w.heap.size + 1) 6 _ _ hF
    have fz7 := frozen_of_row _ (w.heap.size + 1) 7 _ _ hF
    have fz8 := frozen_of_row _ (w.heap.size + 1) 8 _ _ hF
    have HF := Lib.hid hF
    clear hz hb1 hF
    go_wp2_with fail
    have q0 := filled (s0 := St.zero) (M0 := .slice none 0 0) (F0 := .slice none 0 0) (.slice none 0 0) (.slice none 0 0) (.int .i64 0) (.int .i64 0) (.int .i64 0) (.int .i64 0) (.int .i64 0) (.int .i64 0) (.bool false) HF.out
    have q2 := filled_below w.heap.size w1 (w.heap.size + 1) (by omega) (.slice none 0 0) (.slice none 0 0) (.int .i64 0) (.int .i64 0) (.int .i64 0) (.int .i64 0) (.int .i64 0) (.int .i64 0) (.bool false)
    obtain ⟨X, hX⟩ : ∃ X, (((((((((w1.setCell ⟨w.heap.size + 1, 0, none⟩ (.slice none 0 0)).setCell ⟨w.heap.size + 1, 1, none⟩ (.slice none 0 0)).setCell ⟨w.heap.size + 1, 2, none⟩ (.int .i64 0)).setCell ⟨w.heap.size + 1, 3, none⟩ (.int .i64 0)).setCell ⟨w.heap.size + 1, 4, none⟩ (.int .i64 0)).setCell ⟨w.heap.size + 1, 5, none⟩ (.int .i64 0)).setCell ⟨w.heap.size + 1, 6, none⟩ (.int .i64 0)).setCell ⟨w.heap.size + 1, 7, none⟩ (.int .i64 0)).setCell ⟨w.heap.size + 1, 8, none⟩ (.bool false)) = X := ⟨_, rfl⟩
    rw [hX] at q0 q2 ⊢
    exact ⟨_, play_results _ X _ St.zero _ _ 0 (checkF s) rfl rfl rfl q0, _, _, _, _, rfl, RdS.zero _, (HW.out.2.1.trans (hHF.out.mono HW.out.2.1.size)).trans q2.1, Fresh.none _, Fresh.none _⟩
end Go.Proofs.Ythpcipfloofbcaa
