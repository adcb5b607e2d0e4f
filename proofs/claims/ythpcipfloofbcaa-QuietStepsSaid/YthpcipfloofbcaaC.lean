import Derived.Test.YthpcipfloofbcaaB
import Derived.Deep.DeepCutAuto
import Derived.Deep.LoopGhost
namespace Go.Proofs.Ythpcipfloofbcaa
open Go.RowKit
set_option maxHeartbeats 1000000
set_option maxRecDepth 100000
set_option linter.unusedSimpArgs false
set_option linter.unusedVariables false

theorem rd_lit1 (w : World) (n : Int) (t g : Nat) (hg : g = w.heap.size) : Rd encI 1 (w.alloc (.cells #[.int .i64 n] t)) (some ⟨g, 0, none⟩) [n] := by
  subst hg
  exact ⟨by simp, fun k hk => ⟨_, rfl, fun j v hv => by
    have hk0 : k = 0 := by simpa using hk
    subst hk0
    rcases j with _ | j
    · simp at hv; subst hv; simp [Addr.add]
    · simp at hv⟩⟩
theorem rd_lit2 (w : World) (n m : Int) (t g : Nat) (hg : g = w.heap.size) : Rd encI 1 (w.alloc (.cells #[.int .i64 n, .int .i64 m] t)) (some ⟨g, 0, none⟩) [n, m] := by
  subst hg
  exact ⟨by simp, fun k hk => ⟨_, rfl, fun j v hv => by
    rcases j with _ | j
    · match k, hk with
      | 0, _ => simp at hv; subst hv; simp [Addr.add]
      | 1, _ => simp at hv; subst hv; simp [Addr.add]
      | k + 2, hk => simp at hk; omega
    · simp at hv⟩⟩

theorem within_calls' (most : Int) (A : Option Addr) (xs : List Int) (n c : Nat) (hn : xs.length = n) (w : World) (hx : Rd encI 1 w A xs) :
    Calls Try.prog 39 #[.int .i64 most, .slice A n c] w fun e w' => e = .returned (.bool (!xs.any (wB most))) ∧ Below w.heap.size w w' := by
  subst hn; exact within_calls most A xs c w hx
/-- the block b holds a state -/
structure BoxS (w : World) (b : Nat) (s : St) (A : Option Addr) (c : Nat) (B : Option Addr) (d : Nat) : Prop where
  c0 : w.cell? ⟨b, 0, none⟩ = some (Value.slice A s.ms.length c)
  c1 : w.cell? ⟨b, 1, none⟩ = some (Value.slice B s.fl.length d)
  c2 : w.cell? ⟨b, 2, none⟩ = some (.int .i64 s.wn)
  c3 : w.cell? ⟨b, 3, none⟩ = some (.int .i64 s.ws)
  c4 : w.cell? ⟨b, 4, none⟩ = some (.int .i64 s.wr)
  c5 : w.cell? ⟨b, 5, none⟩ = some (.int .i64 s.ls)
  c6 : w.cell? ⟨b, 6, none⟩ = some (.int .i64 s.lr)
  c7 : w.cell? ⟨b, 7, none⟩ = some (.int .i64 s.wv)
  c8 : w.cell? ⟨b, 8, none⟩ = some (.bool s.told)
theorem BoxS.below {w w' : World} {b : Nat} {s : St} {A : Option Addr} {c : Nat} {B : Option Addr} {d : Nat} (h : BoxS w b s A c B d) (hb : Below w.heap.size w w') : BoxS w' b s A c B d := by
  have hl : b < w.heap.size := World.block_lt_of_cell? w _ h.c0
  have H : ∀ o, w'.cell? ⟨b, o, none⟩ = w.cell? ⟨b, o, none⟩ := fun o => hb.cell (p := ⟨b, o, none⟩) hl
  exact ⟨(H _).trans h.c0, (H _).trans h.c1, (H _).trans h.c2, (H _).trans h.c3, (H _).trans h.c4, (H _).trans h.c5, (H _).trans h.c6, (H _).trans h.c7, (H _).trans h.c8⟩
theorem BoxS.new (w : World) (s : St) (A : Option Addr) (c : Nat) (B : Option Addr) (d : Nat) (t : Nat) : BoxS (w.alloc (.cells #[Value.slice A s.ms.length c, Value.slice B s.fl.length d, .int .i64 s.wn, .int .i64 s.ws, .int .i64 s.wr, .int .i64 s.ls, .int .i64 s.lr, .int .i64 s.wv, .bool s.told] t)) w.heap.size s A c B d := by
  constructor <;> simp

/-- the code that Check returns -/
def checkF (s : St) : Int := if s.okB.all id then 0 else 360

theorem check_calls (s : St) (A : Option Addr) (c : Nat) (B : Option Addr) (d : Nat) (w : World) (h : RdS w A B s) :
    Calls Try.prog 20 #[s.v A c B d] w fun e w' => e = .returned (.int .i64 (checkF s)) ∧ Below w.heap.size w w' := by
  have hl := h.ms.small
  have hl2 := h.fl.small
  have H := Lib.hid h
  clear h
  go_enter Try.func20, Try.ntmps20
  go_upto_region 2 with fail
  go_cut [4] (fun s4 wc => s4 = .bool s.ok1 ∧ BoxS wc w.heap.size s A c B d ∧ Below w.heap.size w wc)
  case first =>
    by_cases h1 : (1 : Int) ≤ s.ms.length <;> by_cases h2 : (s.ms.length : Int) ≤ 10
    all_goals go_wp2
    all_goals go_meet
    all_goals exact ⟨by first | (simp [St.ok1, h1, h2]; done) | (simp [St.ok1]; intros; omega), BoxS.new _ _ _ _ _ _ _, (Below.refl _ _).alloc (Nat.le_refl _) _⟩
  case rest =>
    obtain ⟨rfl, hbox, hbw⟩ := hcut
    have HX := Lib.hid (And.intro hbox hbw)
    obtain ⟨c0, c1, c2, c3, c4, c5, c6, c7, c8⟩ := hbox
    clear hbw
    go_wp2_with fail
    clear c0 c1 c2 c3 c4 c5 c6 c7 c8
    go_loopg [4, 6, 25, 26, 27, 28, 29, 30, 31, 32, 33, 34, 35, 36, 37, 38] (s.ms.length) (fun g v4 v6 v25 v26 v27 v28 v29 v30 v31 v32 v33 v34 v35 v36 v37 v38 wr => ∃ k : Nat, k + g = s.ms.length ∧ v25 = .int .i64 k ∧ v4 = .bool (s.ok1 && (s.ms.take k).all Mem.ok) ∧ BoxS wr w.heap.size s A c B d ∧ Below w.heap.size w wr)
    case atStart => exact ⟨0, by simp, rfl, by simp, HX.out⟩
    case round =>
      obtain ⟨k, hk, rfl, rfl, hbox, hbw⟩ := hrel
      have HY := Lib.hid (And.intro hbox hbw)
      clear hbox hbw
      by_cases hlt : k < s.ms.length
      · obtain ⟨a, rfl, c0, c1, c2⟩ := (H.out.ms.below HY.out.2).mem k hlt
        have hst : (s.ms.take (k + 1)).all Mem.ok = ((s.ms.take k).all Mem.ok && s.ms[k].ok) := by
          rw [List.take_succ_eq_append_getElem hlt, List.all_append]; simp
        have HST := Lib.hid hst
        clear hst
        cases hr : (s.ok1 && (s.ms.take k).all Mem.ok) with
        | false =>
          have HR := Lib.hid hr
          clear hr
          go_wp2_with fail
          go_roundg (gk - 1)
          case measure => omega
          case rel => exact ⟨k + 1, by omega, by go_num, by rw [HST.out, ← Bool.and_assoc, HR.out]; rfl, HY.out.1.below ((Below.refl _ _).alloc (Nat.le_refl _) _), HY.out.2.alloc HY.out.2.size _⟩
        | true =>
          have HR := Lib.hid hr
          clear hr
          go_wp2_with fail
          have hw := within_calls' 1000000 (some ⟨wr.heap.size + 1, 0, none⟩) [s.ms[k].sent, s.ms[k].recv] 2 2 rfl _ (rd_lit2 (wr.alloc (.cells #[Value.bool s.ms[k].act, .int .i64 s.ms[k].sent, .int .i64 s.ms[k].recv] 63)) s.ms[k].sent s.ms[k].recv 3 _ (by simp))
          (with_reducible refine hw.mono ?_); clear hw; rintro e wx ⟨rfl, hb⟩
          have HB := Lib.hid ((HY.out.2.alloc HY.out.2.size (.cells #[Value.bool s.ms[k].act, .int .i64 s.ms[k].sent, .int .i64 s.ms[k].recv] 63)).alloc (by have := HY.out.2.size; simp; omega) (.cells #[.int .i64 s.ms[k].sent, .int .i64 s.ms[k].recv] 3))
          have HB2 := Lib.hid hb
          clear hb
          go_wp2_with fail
          go_roundg (gk - 1)
          case measure => omega
          case rel => exact ⟨k + 1, by omega, by go_num, by rw [HST.out, ← Bool.and_assoc, HR.out]; simp [Mem.ok], (HY.out.1.below (((Below.refl _ _).alloc (Nat.le_refl _) _).alloc (by simp) _)).below HB2.out, HB.out.trans (HB2.out.mono (by have := HY.out.2.size; simp; omega))⟩
      · have hkl : k = s.ms.length := by omega
        have hat : (s.ok1 && (s.ms.take k).all Mem.ok) = (s.ok1 && s.ms.all Mem.ok) := by rw [hkl, List.take_length]
        rw [hat]
        clear hat hk hkl
        go_upto_region 8 with fail
        go_cut [4] (fun s4 wc => s4 = .bool ((((s.ok1 && s.ms.all Mem.ok) && !(s.fl.any (wB (s.ms.length - 1)))) && !([s.wn].any (wB (s.ms.length - 1)))) && !([s.ws, s.wr].any (wB 10000000))) ∧ BoxS wc w.heap.size s A c B d ∧ Below w.heap.size w wc)
        case first =>
          obtain ⟨c0, c1, c2, c3, c4, c5, c6, c7, c8⟩ := HY.out.1
          cases hr0 : (s.ok1 && s.ms.all Mem.ok) with
          | false =>
            have hk := Lib.hid hr0
            clear hr0
            go_wp2_with fail
            go_meet
            exact ⟨by rw [hk.out]; rfl, HY.out.1, HY.out.2⟩
          | true =>
            have hk := Lib.hid hr0
            clear hr0
            have hw := within_calls (s.ms.length - 1) B s.fl d wr (H.out.fl.below HY.out.2)
            go_wp2_with fail
            (with_reducible refine hw.mono ?_); clear hw; rintro e wx1 ⟨rfl, hb⟩
            have hx1 := Lib.hid (And.intro (HY.out.1.below hb) (HY.out.2.trans (hb.mono HY.out.2.size)))
            clear hb c0 c1 c2 c3 c4 c5 c6 c7 c8
            obtain ⟨c0, c1, c2, c3, c4, c5, c6, c7, c8⟩ := hx1.out.1
            clear HY
            cases hr1 : !(s.fl.any (wB (s.ms.length - 1))) with
            | false =>
              have hk1 := Lib.hid hr1
              clear hr1
              go_wp2_with fail
              go_meet
              exact ⟨by rw [hk.out, hk1.out]; rfl, hx1.out.1, hx1.out.2⟩
            | true =>
              have hk1 := Lib.hid hr1
              clear hr1
              have hw := within_calls' (s.ms.length - 1) (some ⟨wx1.heap.size, 0, none⟩) [s.wn] 1 1 rfl _ (rd_lit1 wx1 s.wn 3 _ rfl)
              go_wp2_with fail
              (with_reducible refine hw.mono ?_); clear hw; rintro e wx2 ⟨rfl, hb⟩
              have hx2 := Lib.hid (And.intro ((hx1.out.1.below ((Below.refl _ _).alloc (Nat.le_refl _) (.cells #[.int .i64 s.wn] 3))).below hb) ((hx1.out.2.alloc hx1.out.2.size (.cells #[.int .i64 s.wn] 3)).trans (hb.mono (by have := hx1.out.2.size; simp; omega))))
              clear hb c0 c1 c2 c3 c4 c5 c6 c7 c8
              obtain ⟨c0, c1, c2, c3, c4, c5, c6, c7, c8⟩ := hx2.out.1
              clear hx1
              cases hr2 : !([s.wn].any (wB (s.ms.length - 1))) with
              | false =>
                have hk2 := Lib.hid hr2
                clear hr2
                go_wp2_with fail
                go_meet
                exact ⟨by rw [hk.out, hk1.out, hk2.out]; rfl, hx2.out.1, hx2.out.2⟩
              | true =>
                have hk2 := Lib.hid hr2
                clear hr2
                have hw := within_calls' 10000000 (some ⟨wx2.heap.size, 0, none⟩) [s.ws, s.wr] 2 2 rfl _ (rd_lit2 wx2 s.ws s.wr 3 _ rfl)
                go_wp2_with fail
                (with_reducible refine hw.mono ?_); clear hw; rintro e wx3 ⟨rfl, hb⟩
                have hx3 := Lib.hid (And.intro ((hx2.out.1.below ((Below.refl _ _).alloc (Nat.le_refl _) (.cells #[.int .i64 s.ws, .int .i64 s.wr] 3))).below hb) ((hx2.out.2.alloc hx2.out.2.size (.cells #[.int .i64 s.ws, .int .i64 s.wr] 3)).trans (hb.mono (by have := hx2.out.2.size; simp; omega))))
                clear hb c0 c1 c2 c3 c4 c5 c6 c7 c8
                obtain ⟨c0, c1, c2, c3, c4, c5, c6, c7, c8⟩ := hx3.out.1
                clear hx2
                go_wp2_with fail
                go_meet
                exact ⟨by rw [hk.out, hk1.out, hk2.out]; simp, hx3.out.1, hx3.out.2⟩
        case rest =>
          obtain ⟨rfl, hbox, hbw⟩ := hcut
          have hx3 := Lib.hid (And.intro hbox hbw)
          clear hbox hbw HY
          generalize hE : ((((s.ok1 && s.ms.all Mem.ok) && !(s.fl.any (wB (s.ms.length - 1)))) && !([s.wn].any (wB (s.ms.length - 1)))) && !([s.ws, s.wr].any (wB 10000000))) = r8
          have hE8 := Lib.hid hE
          clear hE
          go_upto_region 9 with fail
          go_cut [4] (fun s4 wc => s4 = .bool (r8 && (decide (0 < s.wn) || (decide (s.ws = 0) && decide (s.wr = 0)))) ∧ BoxS wc w.heap.size s A c B d ∧ Below w.heap.size w wc)
          case first =>
            obtain ⟨c0, c1, c2, c3, c4, c5, c6, c7, c8⟩ := hx3.out.1
            cases r8 with
            | false => go_wp2_with fail; go_meet; exact ⟨rfl, hx3.out.1, hx3.out.2⟩
            | true =>
              by_cases h1 : 0 < s.wn
              · go_wp2_with fail; go_meet; exact ⟨by simp [h1], hx3.out.1, hx3.out.2⟩
              · have hd1 := Lib.hid h1
                by_cases h2 : s.ws = 0
                · have h2b : (s.ws == 0) = true := beq_iff_eq.2 h2
                  clear h2
                  go_wp2_with fail; go_meet; exact ⟨by rw [decide_eq_false (by have := hd1.out; omega), decide_eq_true (eq_of_beq h2b)]; rfl, hx3.out.1, hx3.out.2⟩
                · have h2b : (s.ws == 0) = false := beq_eq_false_iff_ne.2 h2
                  have hd2 := Lib.hid h2
                  clear h2
                  go_wp2_with fail; go_meet; exact ⟨by rw [decide_eq_false (by have := hd1.out; omega), decide_eq_false hd2.out]; rfl, hx3.out.1, hx3.out.2⟩
          case rest =>
            obtain ⟨rfl, hbox, hbw⟩ := hcut
            have hx4 := Lib.hid (And.intro hbox hbw)
            clear hbox hbw hx3
            generalize hE : (r8 && (decide (0 < s.wn) || (decide (s.ws = 0) && decide (s.wr = 0)))) = r9
            have hE9 := Lib.hid hE
            clear hE
            go_upto_region 10 with fail
            go_cut [4] (fun s4 wc => s4 = .bool ((r9 && ((decide (s.ls = -1) && decide (s.lr = -1)) || !([s.ls, s.lr].any (wB 10000000)))) && !([s.wv].any (wB 1000000))) ∧ Below w.heap.size w wc)
            case first =>
              obtain ⟨c0, c1, c2, c3, c4, c5, c6, c7, c8⟩ := hx4.out.1
              cases r9 with
              | false => go_wp2_with fail; go_meet; exact ⟨rfl, hx4.out.2⟩
              | true =>
                by_cases h1 : s.ls = -1
                · have h1b : (s.ls == -1) = true := beq_iff_eq.2 h1
                  have h1h := Lib.hid h1
                  clear h1
                  by_cases h2 : s.lr = -1
                  · have h2b : (s.lr == -1) = true := beq_iff_eq.2 h2
                    have h2h := Lib.hid h2
                    clear h2
                    have hw := within_calls' 1000000 (some ⟨wc.heap.size, 0, none⟩) [s.wv] 1 1 rfl _ (rd_lit1 wc s.wv 3 _ rfl)
                    go_wp2_with fail
                    (with_reducible refine hw.mono ?_); clear hw; rintro e wx5 ⟨rfl, hb⟩
                    have hx5 := Lib.hid (And.intro ((hx4.out.1.below ((Below.refl _ _).alloc (Nat.le_refl _) (.cells #[.int .i64 s.wv] 3))).below hb) ((hx4.out.2.alloc hx4.out.2.size (.cells #[.int .i64 s.wv] 3)).trans (hb.mono (by have := hx4.out.2.size; simp; omega))))
                    clear hb c0 c1 c2 c3 c4 c5 c6 c7 c8
                    obtain ⟨c0, c1, c2, c3, c4, c5, c6, c7, c8⟩ := hx5.out.1
                    clear hx4
                    go_wp2_with fail
                    go_meet
                    exact ⟨by rw [decide_eq_true h1h.out, decide_eq_true h2h.out]; simp, hx5.out.2⟩
                  · have h2b : (s.lr == -1) = false := beq_eq_false_iff_ne.2 h2
                    have h2h := Lib.hid h2
                    clear h2
                    have hw := within_calls' 10000000 (some ⟨wc.heap.size, 0, none⟩) [s.ls, s.lr] 2 2 rfl _ (rd_lit2 wc s.ls s.lr 3 _ rfl)
                    go_wp2_with fail
                    (with_reducible refine hw.mono ?_); clear hw; rintro e wx5 ⟨rfl, hb⟩
                    have hx5 := Lib.hid (And.intro ((hx4.out.1.below ((Below.refl _ _).alloc (Nat.le_refl _) (.cells #[.int .i64 s.ls, .int .i64 s.lr] 3))).below hb) ((hx4.out.2.alloc hx4.out.2.size (.cells #[.int .i64 s.ls, .int .i64 s.lr] 3)).trans (hb.mono (by have := hx4.out.2.size; simp; omega))))
                    clear hb c0 c1 c2 c3 c4 c5 c6 c7 c8
                    obtain ⟨c0, c1, c2, c3, c4, c5, c6, c7, c8⟩ := hx5.out.1
                    clear hx4
                    cases hr5 : ([s.ls, s.lr].any (wB 10000000)) with
                    | true =>
                      have hk5 := Lib.hid hr5
                      clear hr5
                      go_wp2_with fail
                      go_meet
                      exact ⟨by rw [decide_eq_true h1h.out, decide_eq_false h2h.out, hk5.out]; rfl, hx5.out.2⟩
                    | false =>
                      have hk5 := Lib.hid hr5
                      clear hr5
                      have hw := within_calls' 1000000 (some ⟨wx5.heap.size, 0, none⟩) [s.wv] 1 1 rfl _ (rd_lit1 wx5 s.wv 3 _ rfl)
                      go_wp2_with fail
                      (with_reducible refine hw.mono ?_); clear hw; rintro e wx6 ⟨rfl, hb⟩
                      have hx6 := Lib.hid (And.intro ((hx5.out.1.below ((Below.refl _ _).alloc (Nat.le_refl _) (.cells #[.int .i64 s.wv] 3))).below hb) ((hx5.out.2.alloc hx5.out.2.size (.cells #[.int .i64 s.wv] 3)).trans (hb.mono (by have := hx5.out.2.size; simp; omega))))
                      clear hb c0 c1 c2 c3 c4 c5 c6 c7 c8
                      obtain ⟨c0, c1, c2, c3, c4, c5, c6, c7, c8⟩ := hx6.out.1
                      clear hx5
                      go_wp2_with fail
                      go_meet
                      exact ⟨by rw [decide_eq_true h1h.out, decide_eq_false h2h.out, hk5.out]; simp, hx6.out.2⟩
                · have h1b : (s.ls == -1) = false := beq_eq_false_iff_ne.2 h1
                  have h1h := Lib.hid h1
                  clear h1
                  have hw := within_calls' 10000000 (some ⟨wc.heap.size, 0, none⟩) [s.ls, s.lr] 2 2 rfl _ (rd_lit2 wc s.ls s.lr 3 _ rfl)
                  go_wp2_with fail
                  (with_reducible refine hw.mono ?_); clear hw; rintro e wx5 ⟨rfl, hb⟩
                  have hx5 := Lib.hid (And.intro ((hx4.out.1.below ((Below.refl _ _).alloc (Nat.le_refl _) (.cells #[.int .i64 s.ls, .int .i64 s.lr] 3))).below hb) ((hx4.out.2.alloc hx4.out.2.size (.cells #[.int .i64 s.ls, .int .i64 s.lr] 3)).trans (hb.mono (by have := hx4.out.2.size; simp; omega))))
                  clear hb c0 c1 c2 c3 c4 c5 c6 c7 c8
                  obtain ⟨c0, c1, c2, c3, c4, c5, c6, c7, c8⟩ := hx5.out.1
                  clear hx4
                  cases hr5 : ([s.ls, s.lr].any (wB 10000000)) with
                  | true =>
                    have hk5 := Lib.hid hr5
                    clear hr5
                    go_wp2_with fail
                    go_meet
                    exact ⟨by rw [decide_eq_false h1h.out, hk5.out]; rfl, hx5.out.2⟩
                  | false =>
                    have hk5 := Lib.hid hr5
                    clear hr5
                    have hw := within_calls' 1000000 (some ⟨wx5.heap.size, 0, none⟩) [s.wv] 1 1 rfl _ (rd_lit1 wx5 s.wv 3 _ rfl)
                    go_wp2_with fail
                    (with_reducible refine hw.mono ?_); clear hw; rintro e wx6 ⟨rfl, hb⟩
                    have hx6 := Lib.hid (And.intro ((hx5.out.1.below ((Below.refl _ _).alloc (Nat.le_refl _) (.cells #[.int .i64 s.wv] 3))).below hb) ((hx5.out.2.alloc hx5.out.2.size (.cells #[.int .i64 s.wv] 3)).trans (hb.mono (by have := hx5.out.2.size; simp; omega))))
                    clear hb c0 c1 c2 c3 c4 c5 c6 c7 c8
                    obtain ⟨c0, c1, c2, c3, c4, c5, c6, c7, c8⟩ := hx6.out.1
                    clear hx5
                    go_wp2_with fail
                    go_meet
                    exact ⟨by rw [decide_eq_false h1h.out, hk5.out]; simp, hx6.out.2⟩
            case rest =>
              obtain ⟨rfl, hbw⟩ := hcut
              have hbx := Lib.hid hbw
              clear hbw hx4
              have hall : s.okB.all id = ((r9 && ((decide (s.ls = -1) && decide (s.lr = -1)) || !([s.ls, s.lr].any (wB 10000000)))) && !([s.wv].any (wB 1000000))) := by rw [← hE9.out, ← hE8.out]; simp [St.okB, Bool.and_assoc]
              have hall : checkF s = if ((r9 && ((decide (s.ls = -1) && decide (s.lr = -1)) || !([s.ls, s.lr].any (wB 10000000)))) && !([s.wv].any (wB 1000000))) then 0 else 360 := by unfold checkF; rw [hall]
              have HA := Lib.hid hall
              clear hall hE8 hE9
              cases hr10 : ((r9 && ((decide (s.ls = -1) && decide (s.lr = -1)) || !([s.ls, s.lr].any (wB 10000000)))) && !([s.wv].any (wB 1000000))) with
              | false => have hk := Lib.hid hr10; clear hr10; go_wp2_with fail; go_ret; exact ⟨ret_int (by rw [HA.out, hk.out]; rfl), hbx.out⟩
              | true => have hk := Lib.hid hr10; clear hr10; go_wp2_with fail; go_ret; exact ⟨ret_int (by rw [HA.out, hk.out]; rfl), hbx.out⟩
end Go.Proofs.Ythpcipfloofbcaa
