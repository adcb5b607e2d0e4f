import Derived.Test.YthpcipfloofbcaaF
namespace Go.Proofs.Ythpcipfloofbcaa
open Go.RowKit
set_option maxHeartbeats 1000000
set_option maxRecDepth 100000
set_option linter.unusedSimpArgs false
set_option linter.unusedVariables false

theorem Rd.drew {α : Type} {enc : α → List Value} {sz : Nat} {w : World} {A : Option Addr} {xs : List α} (h : Rd enc sz w A xs) : Rd enc sz w.drew A xs := ⟨h.small, h.cell⟩
theorem Own.drew {α : Type} {enc : α → List Value} {sz : Nat} {e : TypeId} {w : World} {base : Nat} {v : Value} {xs : List α} (h : Own enc sz e w base v xs) : Own enc sz e w.drew base v xs := h
theorem MS.drew {w : World} {base bo : Nat} {s : St} {g c : Nat} {Fv : Value} (h : MS w base bo s g c Fv) : MS w.drew base bo s g c Fv := ⟨h.blk, h.hb, h.hsz, h.om, h.of⟩

theorem step_append_typed {α : Type} {P : Program} {enc : α → List Value} {sz : Nat} (hs : ∀ x, (enc x).length = sz) (h1 : ∀ x, ∀ u ∈ enc x, u.oneCell' = true)
    {w : World} {ops : Array Oper} {o : Oper} {a : Act} {K : Act → World → Prop} {Q : Exit → Act → World → Prop} {E : Prop} (hgd : o.guard = none) (s x : Operand) (t : TypeId)
    (ho : o.op = .call { callee := .builtin .append, args := #[s, x], argTypes := #[t, t] })
    (base : Nat) (e : TypeId) (z : Value) (bytes : Nat) (ht : P.underlying t = some (.slice e)) (hinfo : (P.info? e).map (fun i => (i.zero, i.size, i.bytes)) = some (some z, sz, bytes))
    (hzs : z.cells.size = sz) (hsz : 0 < sz) (hb0 : 0 < bytes)
    (v : Value) (xs : List α) (hv : a.eval s = v) (hown : Own enc sz e w base v xs)
    (ad : Addr) (m c : Nat) (ys : List α) (hx : a.eval x = .slice (some ad) m c) (hm : ys.length = m) (hm0 : 0 < m) (hr : Rd enc sz w (some ad) ys)
    (hbytes : (xs.length + m) * bytes ≤ 140737488355328) (hbase : base ≤ w.heap.size)
    (h : ∀ g cap w', Own enc sz e w' base (.slice (some ⟨g, 0, none⟩) (xs.length + m) cap) (xs ++ ys) → w.grownBy w' v.ownBlock → K (a.put o.dst (.slice (some ⟨g, 0, none⟩) (xs.length + m) cap)) w') :
    if Region.wanted o (yielded ops a.tmps) = true then Oper.wp P o a w K Q else E := by
  subst hm
  obtain ⟨i0, hi, hz0, hz1, hz2⟩ := info_parts hinfo
  refine step_append_lies w hgd s x t ho base e i0 z sz bytes ht hi hz0 hz1 hz2 hzs hsz v xs.length (xs.flatMap enc) hv hown ad ys.length c (ys.flatMap enc) hx (flat_length hs ys) (hr.news hs)
    (fun u hu => by obtain ⟨y, _, hy⟩ := List.mem_flatMap.1 hu; exact h1 y u hy) hm0 ?_ hbytes hbase _ rfl ?_
  · have : xs.length + ys.length ≤ (xs.length + ys.length) * bytes := Nat.le_mul_of_pos_right _ hb0
    simp only [maxLen]
    omega
  · intro g cap w' hown' hg _ _
    refine h g cap w' ?_ hg
    unfold Own
    rw [List.length_append, List.flatMap_append]
    exact hown'

theorem MS.setF {w w1 : World} {base bo : Nat} {s : St} {g c : Nat} {Fv Fv' : Value} {fl' : List Int} (h : MS w base bo s g c Fv) (hg : w.grownBy w1 Fv.ownBlock) (ho : Own encI 1 3 w1 base Fv' fl') :
    MS (w1.setCell ⟨bo, 1, none⟩ Fv') base bo { s with fl := fl' } g c Fv' ∧ Kp base bo w (w1.setCell ⟨bo, 1, none⟩ Fv') := by
  obtain ⟨n1, n2, n3⟩ := h.neg
  have hblk : w1.heap[bo]? = w.heap[bo]? := hg.block bo (Array.getElem?_eq_some_iff.1 h.blk).1 (fun e => n2 e.symm)
  have hsame := heap_setCell_same w1 bo 1 _ _ Fv' (hblk.trans h.blk)
  have hgr : w1.grownBy (w1.setCell ⟨bo, 1, none⟩ Fv') (some bo) := ⟨rfl, rfl, rfl, by simp, fun k _ hk => heap_setCell_other w1 ⟨bo, 1, none⟩ k Fv' (fun e => hk (by simp [e]))⟩
  have hFb : Fv'.ownBlock ≠ some bo := fun e => by
    obtain ⟨_, _, cur, hcur⟩ := ho.blk bo e
    rw [hblk, h.blk] at hcur
    simp at hcur
  refine ⟨⟨?_, h.hb, Nat.le_trans h.hsz (Nat.le_trans hg.size hgr.size), ?_, ho.grown hgr (.inr hFb)⟩, ?_⟩
  · rw [hsame]; simp [cellsS]
  · exact (h.om.grown hg (.inr (by rw [show (Value.slice (some ⟨g, 0, none⟩) s.ms.length c).ownBlock = some g from rfl]; exact fun e => n3 e.symm))).grown hgr (.inr (by simp [Value.ownBlock]; exact n1))
  · refine ((Kp.refl base bo w).grown hg h.hsz (fun k hk => ?_)).grown hgr (Nat.le_trans h.hsz hg.size) (fun k hk => by cases hk; exact h.hb)
    exact .inl (h.of.blk k hk).1

def sendF (s : St) (m : Mov) : Except Int St := match s.at m.a with
  | none => .error 4
  | some x => if (s.at m.b).isNone then .error 4 else if x.act then (if decide (x.sent < 1000000) && decide ((s.fl.length : Int) < 100) then .ok { s.put m.a { x with sent := x.sent + 1 } with fl := s.fl ++ [m.b] } else .error 5) else .error 11

theorem send_calls (base bo : Nat) (s : St) (g c : Nat) (Fv : Value) (m : Mov) (w : World) (h : MS w base bo s g c Fv) (hwf : ∀ x ∈ s.ms, 0 ≤ x.sent) :
    Calls Try.prog 30 #[.pointer (some ⟨bo, 0, none⟩), .agg #[.int .i64 m.k, .int .i64 m.a, .int .i64 m.b]] w (MPost base bo w (sendF s m)) := by
  have h1 := h.alloc (.cells #[.int .i64 m.k, .int .i64 m.a, .int .i64 m.b] 34)
  have hb1 : Kp base bo w (w.alloc (.cells #[.int .i64 m.k, .int .i64 m.a, .int .i64 m.b] 34)) := (Kp.refl _ _ _).alloc h.hsz _
  have hc := cell_of_row _ bo 0 _ _ _ h1.blk
  have hcf := cell_of_row _ bo 1 _ _ _ h1.blk
  simp at hc hcf
  obtain ⟨FA, Fc, hFv, hFr⟩ := h1.of.rd lenI
  have hg0 := Lib.hid (h.om.blk g rfl).2.1
  have H1 := Lib.hid (And.intro h1 hb1)
  clear h h1 hb1
  cases ha : s.at m.a with
  | none =>
    have hi : sendF s m = .error 4 := by simp [sendF, ha]
    rw [hi]
    have hm := member_no bo m.a _ _ _ _ hc (St.at_none ha)
    have HM := Lib.hid hm
    clear hm hi ha hc hcf
    go_enter Try.func30, Try.ntmps30
    go_wp2_with (go_at_call 44; (with_reducible refine (HM.out).mono ?_); rintro e w' ⟨rfl, rfl⟩)
    exact ⟨rfl, H1.out.2, rfl, _, _, _, _, H1.out.1⟩
  | some x =>
    obtain ⟨h0, hlt, hi, hx⟩ := St.at_some ha
    have hx0 : 0 ≤ x.sent := hwf x (by rw [← hx]; exact List.getElem_mem hi)
    have hm := member_ok bo m.a g _ _ _ hc h0 hlt
    have HM := Lib.hid hm
    obtain ⟨hca, hfa⟩ := H1.out.1.om.cell lenM rfl m.a.toNat hi 0 (.bool x.act) (by rw [hx]; rfl)
    obtain ⟨hca1, hfa1⟩ := H1.out.1.om.cell lenM rfl m.a.toNat hi 1 (.int .i64 x.sent) (by rw [hx]; rfl)
    simp only [Nat.add_zero] at hca hfa
    clear hm
    cases hbb : s.at m.b with
    | none =>
      have hi : sendF s m = .error 4 := by simp [sendF, ha, hbb]
      rw [hi]
      have hm := member_no bo m.b _ _ _ _ hc (St.at_none hbb)
      have HM2 := Lib.hid hm
      clear hm hi ha hc hcf hbb
      go_enter Try.func30, Try.ntmps30
      go_wp2_with (first | (go_at_call_of 44 (Value.int IntKind.i64 m.a); (with_reducible refine (HM.out).mono ?_); rintro e w' ⟨rfl, rfl⟩) | (go_at_call_of 44 (Value.int IntKind.i64 m.b); (with_reducible refine (HM2.out).mono ?_); rintro e w' ⟨rfl, rfl⟩))
      exact ⟨rfl, H1.out.2, rfl, _, _, _, _, H1.out.1⟩
    | some y =>
      obtain ⟨b0, blt, bi, by_⟩ := St.at_some hbb
      have hm := member_ok bo m.b g _ _ _ hc b0 blt
      have HM2 := Lib.hid hm
      clear hm
      cases hact : x.act with
      | false =>
        have hi : sendF s m = .error 11 := by simp [sendF, ha, hbb, hact]
        rw [hi]
        rw [hact] at hca
        have hn := need_no 11
        have HN := Lib.hid hn
        clear hn hi ha hact hc hcf hbb
        go_enter Try.func30, Try.ntmps30
        go_wp2_with (first | (go_at_call_of 44 (Value.int IntKind.i64 m.a); (with_reducible refine (HM.out).mono ?_); rintro e w' ⟨rfl, rfl⟩) | (go_at_call_of 44 (Value.int IntKind.i64 m.b); (with_reducible refine (HM2.out).mono ?_); rintro e w' ⟨rfl, rfl⟩) | (go_at_call 45; (with_reducible refine (HN.out _).mono ?_); rintro e w' ⟨rfl, rfl⟩))
        exact ⟨rfl, H1.out.2, rfl, _, _, _, _, H1.out.1⟩
      | true =>
        rw [hact] at hca
        have hn := need_ok
        have HN := Lib.hid hn
        have hn2 := need_no
        have HN2 := Lib.hid hn2
        clear hn hn2
        by_cases hs1 : x.sent < 1000000
        · by_cases hs2 : (s.fl.length : Int) < 100
          · have hi' : sendF s m = .ok { s.put m.a { x with sent := x.sent + 1 } with fl := s.fl ++ [m.b] } := by simp only [sendF, ha, hbb, hact, hs1, hs2]; rfl
            rw [hi']
            obtain ⟨q1, q2⟩ := H1.out.1.setM m.a.toNat hi 1 (by omega) (.int .i64 (x.sent + 1)) { x with sent := x.sent + 1 } (by rw [hx]; rfl)
            subst hFv
            obtain ⟨W, hW⟩ : ∃ W, (w.alloc (.cells #[.int .i64 m.k, .int .i64 m.a, .int .i64 m.b] 34)).setCell ⟨g, m.a.toNat * 3 + 1, none⟩ (.int .i64 (x.sent + 1)) = W := ⟨_, rfl⟩
            have hgw : g < w.heap.size ∧ w.heap.size < W.heap.size := by
              rw [← hW]
              exact ⟨hg0.out, by simp⟩
            have hbox : W.cell? ⟨w.heap.size, 2, none⟩ = some (.int .i64 m.b) := by
              rw [← hW, World.cell?_setCell_other _ _ _ _ (by simp <;> omega)]
              simp
            rw [hW] at q1 q2
            have HW := Lib.hid hW
            clear hW
            have hFv2 := cell_of_row _ bo 1 _ _ _ q1.blk
            have hFf := frozen_of_row _ bo 1 _ _ q1.blk
            have hbow : bo < W.heap.size := (Array.getElem?_eq_some_iff.1 q1.blk).1
            simp [cellsS] at hFv2
            have hgw1 := hgw.2
            have HGW := Lib.hid hgw
            clear hgw
            have HQ := Lib.hid (And.intro q1 q2)
            clear hi' ha hact hbb q1 q2
            go_enter Try.func30, Try.ntmps30
            go_wp2_with (first | (go_at_call_of 44 (Value.int IntKind.i64 m.a); (with_reducible refine (HM.out).mono ?_); rintro e w' ⟨rfl, rfl⟩) | (go_at_call_of 44 (Value.int IntKind.i64 m.b); (with_reducible refine (HM2.out).mono ?_); rintro e w' ⟨rfl, rfl⟩) | (go_at_call 45; (with_reducible refine (HN.out _ _).mono ?_); rintro e w' ⟨rfl, rfl⟩))
            rw [HW.out]
            clear hcf hca hfa hca1 hfa1 hc
            have hrd : Rd encI 1 (W.alloc (.cells #[.int .i64 m.b] 3)).drew (some ⟨W.heap.size, 0, none⟩) [m.b] := (rd_lit1 W m.b 3 _ rfl).drew
            have hown : Own encI 1 3 (W.alloc (.cells #[.int .i64 m.b] 3)).drew base (.slice FA s.fl.length Fc) s.fl := (HQ.out.1.alloc _).of.drew
            have hbs : base ≤ (W.alloc (.cells #[.int .i64 m.b] 3)).drew.heap.size := (HQ.out.1.alloc _).hsz
            have hby : (s.fl.length + 1) * 8 ≤ 140737488355328 := by omega
            have HH := Lib.hid (And.intro hrd (And.intro hown (And.intro hbs hby)))
            clear hrd hown hbs hby
            have hne : some bo ≠ (Value.slice FA s.fl.length Fc).ownBlock := fun e => HQ.out.1.neg.2.1 e.symm
            have HNE := Lib.hid hne
            have q3 := (HQ.out.1.alloc (.cells #[.int .i64 m.b] 3)).drew
            have hcb0 := cell_of_row _ bo 1 _ _ _ q3.blk
            have hfb0 := frozen_of_row _ bo 1 _ _ q3.blk
            simp [cellsS] at hcb0
            have HCB := Lib.hid (And.intro hcb0 hfb0)
            have HBW := Lib.hid (Array.getElem?_eq_some_iff.1 q3.blk).1
            have HQ3 := Lib.hid q3
            clear hne q3 hcb0 hfb0
            go_region_law (refine step_append_typed lenI oneI rfl (.tmp 43) (.tmp 46) 23 rfl base 3 (.int .i64 0) 8 Try.underlying23 info3 rfl (by decide) (by decide) (.slice FA s.fl.length Fc) s.fl (by simp [Act.eval, Act.put]) HH.out.2.1 ⟨W.heap.size, 0, none⟩ 1 1 [m.b] (by simp [Act.eval, Act.put]) rfl (by decide) HH.out.1 HH.out.2.2.2 HH.out.2.2.1 ?_; intro g2 cap2 w1 hown1 hg1; have hcb : w1.cell? ⟨bo, 1, none⟩ = some (.slice FA s.fl.length Fc) := (hg1.cell_far ⟨bo, 1, none⟩ HBW.out HNE.out).trans HCB.out.1; have hfb : w1.frozen? ⟨bo, 1, none⟩ = false := (hg1.frozen_far ⟨bo, 1, none⟩ HBW.out HNE.out).trans HCB.out.2; have HO := Lib.hid (And.intro hown1 hg1); clear hown1 hg1)
            all_goals go_end0
            all_goals obtain ⟨r1, r2⟩ := HQ3.out.setF HO.out.2 HO.out.1
            all_goals exact ⟨(H1.out.2.trans HQ.out.2).trans ((((Kp.refl _ _ _).alloc HQ.out.1.hsz _).drew).trans r2), rfl, _, _, _, r1⟩
          · have hi' : sendF s m = .error 5 := by simp only [sendF, ha, hbb, hact, hs1, hs2]; rfl
            rw [hi']
            subst hFv
            have hs2b := decide_eq_false hs2
            clear hi' ha hact hbb
            go_enter Try.func30, Try.ntmps30
            go_wp2_with (first | (go_at_call_of 44 (Value.int IntKind.i64 m.a); (with_reducible refine (HM.out).mono ?_); rintro e w' ⟨rfl, rfl⟩) | (go_at_call_of 44 (Value.int IntKind.i64 m.b); (with_reducible refine (HM2.out).mono ?_); rintro e w' ⟨rfl, rfl⟩) | (go_at_call 45; (with_reducible refine (HN.out _ _).mono ?_); rintro e w' ⟨rfl, rfl⟩) | (go_at_call 45; (with_reducible refine (HN2.out _ _).mono ?_); rintro e w' ⟨rfl, rfl⟩))
            exact ⟨rfl, H1.out.2, rfl, _, _, _, _, H1.out.1⟩
        · have hi' : sendF s m = .error 5 := by simp only [sendF, ha, hbb, hact, hs1]; rfl
          rw [hi']
          clear hi' ha hact hcf hbb
          go_enter Try.func30, Try.ntmps30
          go_wp2_with (first | (go_at_call_of 44 (Value.int IntKind.i64 m.a); (with_reducible refine (HM.out).mono ?_); rintro e w' ⟨rfl, rfl⟩) | (go_at_call_of 44 (Value.int IntKind.i64 m.b); (with_reducible refine (HM2.out).mono ?_); rintro e w' ⟨rfl, rfl⟩) | (go_at_call 45; (with_reducible refine (HN.out _ _).mono ?_); rintro e w' ⟨rfl, rfl⟩) | (go_at_call 45; (with_reducible refine (HN2.out _ _).mono ?_); rintro e w' ⟨rfl, rfl⟩))
          exact ⟨rfl, H1.out.2, rfl, _, _, _, _, H1.out.1⟩
end Go.Proofs.Ythpcipfloofbcaa
