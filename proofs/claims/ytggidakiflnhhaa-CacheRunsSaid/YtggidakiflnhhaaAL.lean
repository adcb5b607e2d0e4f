import Derived.Test.YtggidakiflnhhaaAK
import Derived.Deep.MidRow
import Derived.Deep.Onto
namespace Go.Proofs.Ytggidakiflnhhaa
open Go.RowKit
set_option maxHeartbeats 16000000
set_option maxRecDepth 100000
set_option linter.unusedSimpArgs false
set_option linter.unusedVariables false

/-- what a function over a row leaves -/
def RowPost (es : List En) (w : World) (y : Ending) (w' : World) : Prop := ∃ B cap, y = .returned (.slice B es.length cap) ∧ Own encN 13 107 w' w.heap.size (.slice B es.length cap) es ∧ Below w.heap.size w w'
theorem Own.lower {α : Type} {enc : α → List Value} {sz : Nat} {e : TypeId} {w : World} {base base' : Nat} {v : Value} {xs : List α} (h : Own enc sz e w base v xs) (hb : base' ≤ base) : Own enc sz e w base' v xs := World.ownsRow.mono h hb
theorem rd_range {w : World} {g : Nat} {es : List En} (h : Rd encN 13 w (some ⟨g, 0, none⟩) es) (i : Nat) (hi : i < es.length) : w.rangeAt g (i * 13) (encN es[i]) := fun j v hv => by
  obtain ⟨a, ha, hc⟩ := h.cell i hi
  obtain rfl := Option.some.inj ha
  have := hc j v hv
  rwa [add_at] at this
theorem rd_dropB {α : Type} {enc : α → List Value} {sz : Nat} {w : World} {g : Nat} {xs : List α} (h : Rd enc sz w (some ⟨g, 0, none⟩) xs) (i : Nat) : Rd enc sz w (some ⟨g, i * sz, none⟩) (xs.drop i) := by
  have := rd_drop h rfl i
  rwa [add_at] at this
theorem own_len {w : World} {base n m c : Nat} {B : Option Addr} {es : List En} (h : Own encN 13 107 w base (.slice B n c) es) (hm : n = m) : Own encN 13 107 w base (.slice B m c) es := by subst hm; exact h
theorem used_calls (es : List En) (i : Nat) (hi : i < es.length) (e : En) (he : es[i] = e) (g cp : Nat) (w : World) (hle : es.length ≤ cp) (hr : Rd encN 13 w (some ⟨g, 0, none⟩) es) (hsm : es.length ≤ 1000) :
    Calls Try.prog 50 #[.slice (some ⟨g, 0, none⟩) es.length cp, .int .i64 (i : Int)] w (RowPost (useL es i e) w) := by
  obtain ⟨W1, hW1⟩ : ∃ W1, w.alloc (.cells e.cells 107) = W1 := ⟨_, rfl⟩
  have hb1 : Below w.heap.size w W1 := by rw [← hW1]; exact (Below.refl _ w).alloc (Nat.le_refl _) _
  have hx1 : W1.heap[w.heap.size]? = some (.cells e.cells 107 (0, 0)) := by rw [← hW1]; exact Go.heap_alloc_new w _
  have hz1 : W1.heap.size = w.heap.size + 1 := by rw [← hW1]; simp
  obtain ⟨n0, hn0⟩ : ∃ n, w.heap.size = n := ⟨_, rfl⟩
  rw [hn0] at hb1 hx1 hz1
  have hrg := rd_range hr i hi
  rw [he] at hrg
  have hrd1 : Rd encN 13 W1 (some ⟨g, 0, none⟩) es := hr.below (by rw [hn0]; exact hb1)
  have hiI : (i : Int) < (es.length : Int) := by omega
  have HW := Lib.hid (And.intro hW1 hn0)
  have HX := Lib.hid (And.intro hb1 (And.intro hx1 (And.intro hz1 (And.intro hrd1 he))))
  have HG := Lib.hid hrg
  have hcpI : (i : Int) ≤ (cp : Int) := by omega
  have hcp2 : i ≤ cp := by omega
  have hcp3 : i + 1 ≤ cp := by omega
  have hcp4 : i + 1 ≤ es.length := by omega
  clear hW1 hb1 hx1 hz1 hrd1 hr hrg hn0 he
  go_enter Try.func50, Try.ntmps50
  go_upto_region 2 with (refine wpList_load_mid rfl 107 (.tmp 8) rfl g (i * 13) rfl (encN e) _ HG.out Try.underlying107 rfl info107s ?_)
  rw [HW.out.1]
  try rw [HW.out.2]
  have HO := Lib.hid (show (0 + i) * 48 ≤ 140737488355328 ∧ (i + (es.length - (i + 1))) * 48 ≤ 140737488355328 ∧ (es.length - 1 + 1) * 48 ≤ 140737488355328 ∧ n0 < W1.heap.size ∧ (i + 1) * 48 ≤ 140737488355328 ∧ (i + 0) * 48 ≤ 140737488355328 by have := HX.out.2.2.1; omega)
  have HL := Lib.hid (show (es.take i).length = i ∧ (es.drop (i + 1)).length = es.length - (i + 1) ∧ True ∧ (es.take i ++ es.drop (i + 1)).length = es.length - 1 ∧ i + (es.length - (i + 1)) = es.length - 1 ∧ es.length - 1 + 1 = es.length by
    refine ⟨?_, ?_, trivial, ?_, ?_, ?_⟩ <;> (try simp) <;> omega)
  have HL2 := Lib.hid (show es.take i ++ es.drop (i + 1) ++ [e] = useL es i e by unfold useL; rw [List.eraseIdx_eq_take_drop_succ])
  have i1 : (i : Int) ≤ (i : Int) + 1 := by omega
  have i2 : (i : Int) + 1 ≤ (es.length : Int) := by omega
  have i3 : (0 : Int) ≤ (i : Int) + 1 := by omega
  have i4 : ((i : Int) + 1).toNat = i + 1 := by omega
  have i5 : wrap64 ((i : Int) + 1) = (i : Int) + 1 := wrap64_fit _ (by omega)
  have i6 : IntKind.i64.wrap ((i : Int) + 1) = (i : Int) + 1 := wrapI_fit _ (by omega)
  by_cases hcap : cp = i + 1
  · subst hcap
    have hone : i + 1 = es.length := by omega
    have hul : es.take i ++ [e] = useL es i e := by unfold useL; rw [List.eraseIdx_eq_take_drop_succ, List.drop_of_length_le (by omega)]; simp
    have HONE := Lib.hid (And.intro hone hul)
    clear hone hul
    refine wp_region_held_drew (S := (fun w' => w'.heap[n0]? = some (.cells e.cells 107 (0, 0)))) (by kernel_rfl) ?_ (fun hHelda => ?_)
    · (try dsimp only); exact HX.out.2.1
    obtain ⟨U, hU⟩ : ∃ U, W1.drew = U := ⟨_, rfl⟩
    rw [hU] at hHelda ⊢
    obtain ⟨n1, hn1⟩ : ∃ n, W1.heap.size = n := ⟨_, rfl⟩
    have HU := Lib.hid (show Us n1 U [] (.slice none 0 0) none e U from Us.init e (by rw [← hU, ← hn1]; exact Nat.le_refl _))
    have HV := Lib.hid (show U.heap[n0]? = some (.cells e.cells 107 (0, 0)) ∧ Rd encN 13 U (some ⟨g, 0, none⟩) es ∧ n0 < n1 ∧ U.heap.size ≤ n1 from by rw [← hU, ← hn1]; exact ⟨HX.out.2.1, HX.out.2.2.2.1.drew, HO.out.2.2.2.1, Nat.le_refl _⟩)
    have HN := Lib.hid (And.intro hU hn1)
    clear hU hn1
    refine wpAnyH_take (i := 1) (oi := _) (v := ?va1) rfl (by kernel_rfl) (by kernel_rfl) (by kernel_rfl) (fun _ _ _ h => h) (Or.inl ⟨by rfl, ?hya1⟩) (by assumption) ?resta1
    case hya1 => (intro w hSw; (try dsimp only at hSw); go_simp; all_goals with_reducible rfl)
    try simp only [Act.put, List.getElem_toArray, List.getElem_cons_zero, List.getElem_cons_succ, List.setIfInBounds_toArray, List.set_cons_zero, List.set_cons_succ]
    refine wpAnyH_take (i := 2) (oi := _) (v := ?va2) rfl (by kernel_rfl) (by kernel_rfl) (by kernel_rfl) (fun _ _ _ h => h) (Or.inl ⟨by rfl, ?hya2⟩) (by assumption) ?resta2
    case hya2 => (intro w hSw; (try dsimp only at hSw); go_simp; all_goals with_reducible rfl)
    try simp only [Act.put, List.getElem_toArray, List.getElem_cons_zero, List.getElem_cons_succ, List.setIfInBounds_toArray, List.set_cons_zero, List.set_cons_succ]
    refine wpAnyH_take (i := 3) (oi := _) (v := ?va3) rfl (by kernel_rfl) (by kernel_rfl) (by kernel_rfl) (fun _ _ _ h => h) (Or.inl ⟨by rfl, ?hya3⟩) (by assumption) ?resta3
    case hya3 => (intro w hSw; (try dsimp only at hSw); go_simp; all_goals with_reducible rfl)
    try simp only [Act.put, List.getElem_toArray, List.getElem_cons_zero, List.getElem_cons_succ, List.setIfInBounds_toArray, List.set_cons_zero, List.set_cons_succ]
    refine wpAnyH_take (i := 5) (oi := _) (v := ?va4) rfl (by kernel_rfl) (by kernel_rfl) (by kernel_rfl) (fun _ _ _ h => h) (Or.inl ⟨by rfl, ?hya4⟩) (by assumption) ?resta4
    case hya4 => (intro w hSw; (try dsimp only at hSw); go_simp; all_goals with_reducible rfl)
    try simp only [Act.put, List.getElem_toArray, List.getElem_cons_zero, List.getElem_cons_succ, List.setIfInBounds_toArray, List.set_cons_zero, List.set_cons_succ]
    refine wpAnyH_take (i := 6) (oi := _) (v := ?va5) rfl (by kernel_rfl) (by kernel_rfl) (by kernel_rfl) (fun _ _ _ h => h) (Or.inl ⟨by rfl, ?hya5⟩) (by assumption) ?resta5
    case hya5 => (intro w hSw; (try dsimp only at hSw); go_simp; all_goals with_reducible rfl)
    try simp only [Act.put, List.getElem_toArray, List.getElem_cons_zero, List.getElem_cons_succ, List.setIfInBounds_toArray, List.set_cons_zero, List.set_cons_succ]
    refine wpAnyH_take (i := 7) (oi := _) (v := ?va6) rfl (by kernel_rfl) (by kernel_rfl) (by kernel_rfl) (fun _ _ _ h => h) (Or.inl ⟨by rfl, ?hya6⟩) (by assumption) ?resta6
    case hya6 => (intro w hSw; (try dsimp only at hSw); go_simp; all_goals with_reducible rfl)
    try simp only [Act.put, List.getElem_toArray, List.getElem_cons_zero, List.getElem_cons_succ, List.setIfInBounds_toArray, List.set_cons_zero, List.set_cons_succ]
    refine wpAnyH_take (i := 8) (oi := _) (v := ?va7) rfl (by kernel_rfl) (by kernel_rfl) (by kernel_rfl) (fun _ _ _ h => h) (Or.inl ⟨by rfl, ?hya7⟩) (by assumption) ?resta7
    case hya7 => (intro w hSw; (try dsimp only at hSw); go_simp; all_goals with_reducible rfl)
    try simp only [Act.put, List.getElem_toArray, List.getElem_cons_zero, List.getElem_cons_succ, List.setIfInBounds_toArray, List.set_cons_zero, List.set_cons_succ]
    refine wpAnyH_take (i := 10) (oi := _) (v := ?va8) rfl (by kernel_rfl) (by kernel_rfl) (by kernel_rfl) (fun _ _ _ h => h) (Or.inl ⟨by rfl, ?hya8⟩) (by assumption) ?resta8
    case hya8 => (intro w hSw; (try dsimp only at hSw); (refine exec_load_row 107 (.tmp 5) ?_ n0 ?_ 107 _ (0, 0) _ hSw Try.underlying107 rfl info107s) <;> rfl)
    try simp only [Act.put, List.getElem_toArray, List.getElem_cons_zero, List.getElem_cons_succ, List.setIfInBounds_toArray, List.set_cons_zero, List.set_cons_succ]
    refine wpAnyH_ready (rs := [0, 11]) (by kernel_rfl) (by simp) ?_
    refine AllReadyH.cons (o := _) rfl (fun K hK => ?_) ?_
    · go_simp
      obtain ⟨Un, hUn⟩ : ∃ W, U.alloc (.cells #[] 107) = W := ⟨_, rfl⟩
      rw [hUn]
      have HUn := Lib.hid (show Us _ _ _ _ _ _ Un by rw [← hUn]; exact HU.out.new)
      clear hUn
      refine hK.out _ _ ?_ (fun hHelda9 => ?_)
      · (try dsimp only); exact (HUn.out.lo.block _ HV.out.2.2.1).trans HV.out.1
      clear hK K hHelda
      try simp only [Act.put, List.getElem_toArray, List.getElem_cons_zero, List.getElem_cons_succ, List.setIfInBounds_toArray, List.set_cons_zero, List.set_cons_succ]
      refine wpAnyH_ready (rs := [4, 11]) (by kernel_rfl) (by simp) ?_
      refine AllReadyH.cons (o := _) rfl (fun K hK => ?_) ?_
      · refine wp_append_rowN lenN oneN Un (.tmp 10) (.tmp 13) 85 rfl n1 107 _ 48 Try.underlying85 info107 rfl (by decide) (by decide) _ _ 0 rfl rfl HUn.out.own _ i _ (es.take i) rfl HL.out.1 (rd_take (HV.out.2.1.below (HUn.out.lo.mono HV.out.2.2.2)) i) HO.out.1 HUn.out.size i (by omega) (es.take i) rfl ?_
        intro Ba ca Una ho hg hl
        have HUna := Lib.hid (HUn.out.app ho hg hl)
        clear ho hg hl
        refine hK.out _ _ ?_ (fun hHelda10 => ?_)
        · (try dsimp only); exact (HUna.out.lo.block _ HV.out.2.2.1).trans HV.out.1
        clear hK K hHelda9
        try simp only [Act.put, List.getElem_toArray, List.getElem_cons_zero, List.getElem_cons_succ, List.setIfInBounds_toArray, List.set_cons_zero, List.set_cons_succ]
        refine wpAnyH_ready (rs := [9, 11]) (by kernel_rfl) (by simp) ?_
        refine AllReadyH.cons (o := _) rfl (fun K hK => ?_) ?_
        · refine wp_append_rowN lenN oneN Una (.tmp 14) (.tmp 18) 85 rfl n1 107 _ 48 Try.underlying85 info107 rfl (by decide) (by decide) _ _ i HL.out.1 rfl HUna.out.own _ 0 _ [] rfl rfl (Rd.nil encN 13 _ _) HO.out.2.2.2.2.2 HUna.out.size i (by omega) (es.take i) (List.append_nil _) ?_
          intro Bb cb Unab ho hg hl
          have HUnab := Lib.hid (HUna.out.app ho hg hl)
          clear ho hg hl
          refine hK.out _ _ ?_ (fun hHelda11 => ?_)
          · (try dsimp only); exact (HUnab.out.lo.block _ HV.out.2.2.1).trans HV.out.1
          clear hK K hHelda10
          try simp only [Act.put, List.getElem_toArray, List.getElem_cons_zero, List.getElem_cons_succ, List.setIfInBounds_toArray, List.set_cons_zero, List.set_cons_succ]
          refine wpAnyH_ready (rs := [11]) (by kernel_rfl) (by simp) ?_
          refine AllReadyH.cons (o := _) rfl (fun K hK => ?_) AllReadyH.nil
          go_simp
          obtain ⟨Unabx, hUnabx⟩ : ∃ W, Unab.alloc (.cells e.cells 107) = W := ⟨_, rfl⟩
          rw [hUnabx]
          have HUnabx := Lib.hid (show Us _ _ _ _ _ _ Unabx by rw [← hUnabx]; exact HUnab.out.lay)
          clear hUnabx
          refine hK.out _ _ ?_ (fun hHelda12 => ?_)
          · (try dsimp only); exact (HUnabx.out.lo.block _ HV.out.2.2.1).trans HV.out.1
          clear hK K hHelda11
          try simp only [Act.put, List.getElem_toArray, List.getElem_cons_zero, List.getElem_cons_succ, List.setIfInBounds_toArray, List.set_cons_zero, List.set_cons_succ]
          refine wpAnyH_ready (rs := [12]) (by kernel_rfl) (by simp) ?_
          refine AllReadyH.cons (o := _) rfl (fun K hK => ?_) AllReadyH.nil
          refine wp_append_rowN lenN oneN Unabx (.tmp 19) (.tmp 21) 85 rfl n1 107 _ 48 Try.underlying85 info107 rfl (by decide) (by decide) _ _ i HL.out.1 rfl HUnabx.out.own _ 1 _ [e] rfl rfl HUnabx.out.rd1 HO.out.2.2.2.2.1 HUnabx.out.size es.length HONE.out.1 (useL es i e) HONE.out.2 ?_
          intro Bc cc Unabxc ho hg hl
          have HUnabxc := Lib.hid (HUnabx.out.app ho hg hl)
          clear ho hg hl
          refine hK.out _ _ ?_ (fun hHelda13 => ?_)
          · (try dsimp only); exact (HUnabxc.out.lo.block _ HV.out.2.2.1).trans HV.out.1
          clear hK K hHelda12
          try simp only [Act.put, List.getElem_toArray, List.getElem_cons_zero, List.getElem_cons_succ, List.setIfInBounds_toArray, List.set_cons_zero, List.set_cons_succ]
          refine wpAnyH_take (i := 13) (oi := _) (v := ?va14) rfl (by kernel_rfl) (by kernel_rfl) (by kernel_rfl) (fun _ _ _ h => h) (Or.inl ⟨by rfl, ?hya14⟩) (by assumption) ?resta14
          case hya14 => (intro w hSw; (try dsimp only at hSw); go_simp; all_goals with_reducible rfl)
          try simp only [Act.put, List.getElem_toArray, List.getElem_cons_zero, List.getElem_cons_succ, List.setIfInBounds_toArray, List.set_cons_zero, List.set_cons_succ]
          refine wpAnyH_done (by kernel_rfl) ?_ _
          go_wp2_with fail
          go_ret
          unfold RowPost
          have hu := HUnabxc.out
          refine ⟨Bc, cc, ?_, ?_, ?_⟩
          · rw [useL_len es i e (by omega)]; rfl
          · rw [useL_len es i e (by omega), HW.out.2]; exact hu.own.lower (Nat.le_of_lt HV.out.2.2.1)
          · rw [HW.out.2]; exact HX.out.1.trans ((drewN_below (Below.refl _ W1) 1).trans (by have := hu.lo; rw [← HN.out.1] at this; exact this.mono (Nat.le_of_lt HV.out.2.2.1)))
        refine AllReadyH.cons (o := _) rfl (fun K hK => ?_) AllReadyH.nil
        go_simp
        obtain ⟨Unax, hUnax⟩ : ∃ W, Una.alloc (.cells e.cells 107) = W := ⟨_, rfl⟩
        rw [hUnax]
        have HUnax := Lib.hid (show Us _ _ _ _ _ _ Unax by rw [← hUnax]; exact HUna.out.lay)
        clear hUnax
        refine hK.out _ _ ?_ (fun hHelda15 => ?_)
        · (try dsimp only); exact (HUnax.out.lo.block _ HV.out.2.2.1).trans HV.out.1
        clear hK K hHelda10
        try simp only [Act.put, List.getElem_toArray, List.getElem_cons_zero, List.getElem_cons_succ, List.setIfInBounds_toArray, List.set_cons_zero, List.set_cons_succ]
        refine wpAnyH_ready (rs := [9]) (by kernel_rfl) (by simp) ?_
        refine AllReadyH.cons (o := _) rfl (fun K hK => ?_) AllReadyH.nil
        refine wp_append_rowN lenN oneN Unax (.tmp 14) (.tmp 18) 85 rfl n1 107 _ 48 Try.underlying85 info107 rfl (by decide) (by decide) _ _ i HL.out.1 rfl HUnax.out.own _ 0 _ [] rfl rfl (Rd.nil encN 13 _ _) HO.out.2.2.2.2.2 HUnax.out.size i (by omega) (es.take i) (List.append_nil _) ?_
        intro Bb cb Unaxb ho hg hl
        have HUnaxb := Lib.hid (HUnax.out.app ho hg hl)
        clear ho hg hl
        refine hK.out _ _ ?_ (fun hHelda16 => ?_)
        · (try dsimp only); exact (HUnaxb.out.lo.block _ HV.out.2.2.1).trans HV.out.1
        clear hK K hHelda15
        try simp only [Act.put, List.getElem_toArray, List.getElem_cons_zero, List.getElem_cons_succ, List.setIfInBounds_toArray, List.set_cons_zero, List.set_cons_succ]
        refine wpAnyH_ready (rs := [12]) (by kernel_rfl) (by simp) ?_
        refine AllReadyH.cons (o := _) rfl (fun K hK => ?_) AllReadyH.nil
        refine wp_append_rowN lenN oneN Unaxb (.tmp 19) (.tmp 21) 85 rfl n1 107 _ 48 Try.underlying85 info107 rfl (by decide) (by decide) _ _ i HL.out.1 rfl HUnaxb.out.own _ 1 _ [e] rfl rfl HUnaxb.out.rd1 HO.out.2.2.2.2.1 HUnaxb.out.size es.length HONE.out.1 (useL es i e) HONE.out.2 ?_
        intro Bc cc Unaxbc ho hg hl
        have HUnaxbc := Lib.hid (HUnaxb.out.app ho hg hl)
        clear ho hg hl
        refine hK.out _ _ ?_ (fun hHelda17 => ?_)
        · (try dsimp only); exact (HUnaxbc.out.lo.block _ HV.out.2.2.1).trans HV.out.1
        clear hK K hHelda16
        try simp only [Act.put, List.getElem_toArray, List.getElem_cons_zero, List.getElem_cons_succ, List.setIfInBounds_toArray, List.set_cons_zero, List.set_cons_succ]
        refine wpAnyH_take (i := 13) (oi := _) (v := ?va18) rfl (by kernel_rfl) (by kernel_rfl) (by kernel_rfl) (fun _ _ _ h => h) (Or.inl ⟨by rfl, ?hya18⟩) (by assumption) ?resta18
        case hya18 => (intro w hSw; (try dsimp only at hSw); go_simp; all_goals with_reducible rfl)
        try simp only [Act.put, List.getElem_toArray, List.getElem_cons_zero, List.getElem_cons_succ, List.setIfInBounds_toArray, List.set_cons_zero, List.set_cons_succ]
        refine wpAnyH_done (by kernel_rfl) ?_ _
        go_wp2_with fail
        go_ret
        unfold RowPost
        have hu := HUnaxbc.out
        refine ⟨Bc, cc, ?_, ?_, ?_⟩
        · rw [useL_len es i e (by omega)]; rfl
        · rw [useL_len es i e (by omega), HW.out.2]; exact hu.own.lower (Nat.le_of_lt HV.out.2.2.1)
        · rw [HW.out.2]; exact HX.out.1.trans ((drewN_below (Below.refl _ W1) 1).trans (by have := hu.lo; rw [← HN.out.1] at this; exact this.mono (Nat.le_of_lt HV.out.2.2.1)))
      refine AllReadyH.cons (o := _) rfl (fun K hK => ?_) AllReadyH.nil
      go_simp
      obtain ⟨Unx, hUnx⟩ : ∃ W, Un.alloc (.cells e.cells 107) = W := ⟨_, rfl⟩
      rw [hUnx]
      have HUnx := Lib.hid (show Us _ _ _ _ _ _ Unx by rw [← hUnx]; exact HUn.out.lay)
      clear hUnx
      refine hK.out _ _ ?_ (fun hHelda19 => ?_)
      · (try dsimp only); exact (HUnx.out.lo.block _ HV.out.2.2.1).trans HV.out.1
      clear hK K hHelda9
      try simp only [Act.put, List.getElem_toArray, List.getElem_cons_zero, List.getElem_cons_succ, List.setIfInBounds_toArray, List.set_cons_zero, List.set_cons_succ]
      refine wpAnyH_ready (rs := [4]) (by kernel_rfl) (by simp) ?_
      refine AllReadyH.cons (o := _) rfl (fun K hK => ?_) AllReadyH.nil
      refine wp_append_rowN lenN oneN Unx (.tmp 10) (.tmp 13) 85 rfl n1 107 _ 48 Try.underlying85 info107 rfl (by decide) (by decide) _ _ 0 rfl rfl HUnx.out.own _ i _ (es.take i) rfl HL.out.1 (rd_take (HV.out.2.1.below (HUnx.out.lo.mono HV.out.2.2.2)) i) HO.out.1 HUnx.out.size i (by omega) (es.take i) rfl ?_
      intro Ba ca Unxa ho hg hl
      have HUnxa := Lib.hid (HUnx.out.app ho hg hl)
      clear ho hg hl
      refine hK.out _ _ ?_ (fun hHelda20 => ?_)
      · (try dsimp only); exact (HUnxa.out.lo.block _ HV.out.2.2.1).trans HV.out.1
      clear hK K hHelda19
      try simp only [Act.put, List.getElem_toArray, List.getElem_cons_zero, List.getElem_cons_succ, List.setIfInBounds_toArray, List.set_cons_zero, List.set_cons_succ]
      refine wpAnyH_ready (rs := [9]) (by kernel_rfl) (by simp) ?_
      refine AllReadyH.cons (o := _) rfl (fun K hK => ?_) AllReadyH.nil
      refine wp_append_rowN lenN oneN Unxa (.tmp 14) (.tmp 18) 85 rfl n1 107 _ 48 Try.underlying85 info107 rfl (by decide) (by decide) _ _ i HL.out.1 rfl HUnxa.out.own _ 0 _ [] rfl rfl (Rd.nil encN 13 _ _) HO.out.2.2.2.2.2 HUnxa.out.size i (by omega) (es.take i) (List.append_nil _) ?_
      intro Bb cb Unxab ho hg hl
      have HUnxab := Lib.hid (HUnxa.out.app ho hg hl)
      clear ho hg hl
      refine hK.out _ _ ?_ (fun hHelda21 => ?_)
      · (try dsimp only); exact (HUnxab.out.lo.block _ HV.out.2.2.1).trans HV.out.1
      clear hK K hHelda20
      try simp only [Act.put, List.getElem_toArray, List.getElem_cons_zero, List.getElem_cons_succ, List.setIfInBounds_toArray, List.set_cons_zero, List.set_cons_succ]
      refine wpAnyH_ready (rs := [12]) (by kernel_rfl) (by simp) ?_
      refine AllReadyH.cons (o := _) rfl (fun K hK => ?_) AllReadyH.nil
      refine wp_append_rowN lenN oneN Unxab (.tmp 19) (.tmp 21) 85 rfl n1 107 _ 48 Try.underlying85 info107 rfl (by decide) (by decide) _ _ i HL.out.1 rfl HUnxab.out.own _ 1 _ [e] rfl rfl HUnxab.out.rd1 HO.out.2.2.2.2.1 HUnxab.out.size es.length HONE.out.1 (useL es i e) HONE.out.2 ?_
      intro Bc cc Unxabc ho hg hl
      have HUnxabc := Lib.hid (HUnxab.out.app ho hg hl)
      clear ho hg hl
      refine hK.out _ _ ?_ (fun hHelda22 => ?_)
      · (try dsimp only); exact (HUnxabc.out.lo.block _ HV.out.2.2.1).trans HV.out.1
      clear hK K hHelda21
      try simp only [Act.put, List.getElem_toArray, List.getElem_cons_zero, List.getElem_cons_succ, List.setIfInBounds_toArray, List.set_cons_zero, List.set_cons_succ]
      refine wpAnyH_take (i := 13) (oi := _) (v := ?va23) rfl (by kernel_rfl) (by kernel_rfl) (by kernel_rfl) (fun _ _ _ h => h) (Or.inl ⟨by rfl, ?hya23⟩) (by assumption) ?resta23
      case hya23 => (intro w hSw; (try dsimp only at hSw); go_simp; all_goals with_reducible rfl)
      try simp only [Act.put, List.getElem_toArray, List.getElem_cons_zero, List.getElem_cons_succ, List.setIfInBounds_toArray, List.set_cons_zero, List.set_cons_succ]
      refine wpAnyH_done (by kernel_rfl) ?_ _
      go_wp2_with fail
      go_ret
      unfold RowPost
      have hu := HUnxabc.out
      refine ⟨Bc, cc, ?_, ?_, ?_⟩
      · rw [useL_len es i e (by omega)]; rfl
      · rw [useL_len es i e (by omega), HW.out.2]; exact hu.own.lower (Nat.le_of_lt HV.out.2.2.1)
      · rw [HW.out.2]; exact HX.out.1.trans ((drewN_below (Below.refl _ W1) 1).trans (by have := hu.lo; rw [← HN.out.1] at this; exact this.mono (Nat.le_of_lt HV.out.2.2.1)))
    refine AllReadyH.cons (o := _) rfl (fun K hK => ?_) AllReadyH.nil
    go_simp
    obtain ⟨Ux, hUx⟩ : ∃ W, U.alloc (.cells e.cells 107) = W := ⟨_, rfl⟩
    rw [hUx]
    have HUx := Lib.hid (show Us _ _ _ _ _ _ Ux by rw [← hUx]; exact HU.out.lay)
    clear hUx
    refine hK.out _ _ ?_ (fun hHelda24 => ?_)
    · (try dsimp only); exact (HUx.out.lo.block _ HV.out.2.2.1).trans HV.out.1
    clear hK K hHelda
    try simp only [Act.put, List.getElem_toArray, List.getElem_cons_zero, List.getElem_cons_succ, List.setIfInBounds_toArray, List.set_cons_zero, List.set_cons_succ]
    refine wpAnyH_ready (rs := [0]) (by kernel_rfl) (by simp) ?_
    refine AllReadyH.cons (o := _) rfl (fun K hK => ?_) AllReadyH.nil
    go_simp
    obtain ⟨Uxn, hUxn⟩ : ∃ W, Ux.alloc (.cells #[] 107) = W := ⟨_, rfl⟩
    rw [hUxn]
    have HUxn := Lib.hid (show Us _ _ _ _ _ _ Uxn by rw [← hUxn]; exact HUx.out.new)
    clear hUxn
    refine hK.out _ _ ?_ (fun hHelda25 => ?_)
    · (try dsimp only); exact (HUxn.out.lo.block _ HV.out.2.2.1).trans HV.out.1
    clear hK K hHelda24
    try simp only [Act.put, List.getElem_toArray, List.getElem_cons_zero, List.getElem_cons_succ, List.setIfInBounds_toArray, List.set_cons_zero, List.set_cons_succ]
    refine wpAnyH_ready (rs := [4]) (by kernel_rfl) (by simp) ?_
    refine AllReadyH.cons (o := _) rfl (fun K hK => ?_) AllReadyH.nil
    refine wp_append_rowN lenN oneN Uxn (.tmp 10) (.tmp 13) 85 rfl n1 107 _ 48 Try.underlying85 info107 rfl (by decide) (by decide) _ _ 0 rfl rfl HUxn.out.own _ i _ (es.take i) rfl HL.out.1 (rd_take (HV.out.2.1.below (HUxn.out.lo.mono HV.out.2.2.2)) i) HO.out.1 HUxn.out.size i (by omega) (es.take i) rfl ?_
    intro Ba ca Uxna ho hg hl
    have HUxna := Lib.hid (HUxn.out.app ho hg hl)
    clear ho hg hl
    refine hK.out _ _ ?_ (fun hHelda26 => ?_)
    · (try dsimp only); exact (HUxna.out.lo.block _ HV.out.2.2.1).trans HV.out.1
    clear hK K hHelda25
    try simp only [Act.put, List.getElem_toArray, List.getElem_cons_zero, List.getElem_cons_succ, List.setIfInBounds_toArray, List.set_cons_zero, List.set_cons_succ]
    refine wpAnyH_ready (rs := [9]) (by kernel_rfl) (by simp) ?_
    refine AllReadyH.cons (o := _) rfl (fun K hK => ?_) AllReadyH.nil
    refine wp_append_rowN lenN oneN Uxna (.tmp 14) (.tmp 18) 85 rfl n1 107 _ 48 Try.underlying85 info107 rfl (by decide) (by decide) _ _ i HL.out.1 rfl HUxna.out.own _ 0 _ [] rfl rfl (Rd.nil encN 13 _ _) HO.out.2.2.2.2.2 HUxna.out.size i (by omega) (es.take i) (List.append_nil _) ?_
    intro Bb cb Uxnab ho hg hl
    have HUxnab := Lib.hid (HUxna.out.app ho hg hl)
    clear ho hg hl
    refine hK.out _ _ ?_ (fun hHelda27 => ?_)
    · (try dsimp only); exact (HUxnab.out.lo.block _ HV.out.2.2.1).trans HV.out.1
    clear hK K hHelda26
    try simp only [Act.put, List.getElem_toArray, List.getElem_cons_zero, List.getElem_cons_succ, List.setIfInBounds_toArray, List.set_cons_zero, List.set_cons_succ]
    refine wpAnyH_ready (rs := [12]) (by kernel_rfl) (by simp) ?_
    refine AllReadyH.cons (o := _) rfl (fun K hK => ?_) AllReadyH.nil
    refine wp_append_rowN lenN oneN Uxnab (.tmp 19) (.tmp 21) 85 rfl n1 107 _ 48 Try.underlying85 info107 rfl (by decide) (by decide) _ _ i HL.out.1 rfl HUxnab.out.own _ 1 _ [e] rfl rfl HUxnab.out.rd1 HO.out.2.2.2.2.1 HUxnab.out.size es.length HONE.out.1 (useL es i e) HONE.out.2 ?_
    intro Bc cc Uxnabc ho hg hl
    have HUxnabc := Lib.hid (HUxnab.out.app ho hg hl)
    clear ho hg hl
    refine hK.out _ _ ?_ (fun hHelda28 => ?_)
    · (try dsimp only); exact (HUxnabc.out.lo.block _ HV.out.2.2.1).trans HV.out.1
    clear hK K hHelda27
    try simp only [Act.put, List.getElem_toArray, List.getElem_cons_zero, List.getElem_cons_succ, List.setIfInBounds_toArray, List.set_cons_zero, List.set_cons_succ]
    refine wpAnyH_take (i := 13) (oi := _) (v := ?va29) rfl (by kernel_rfl) (by kernel_rfl) (by kernel_rfl) (fun _ _ _ h => h) (Or.inl ⟨by rfl, ?hya29⟩) (by assumption) ?resta29
    case hya29 => (intro w hSw; (try dsimp only at hSw); go_simp; all_goals with_reducible rfl)
    try simp only [Act.put, List.getElem_toArray, List.getElem_cons_zero, List.getElem_cons_succ, List.setIfInBounds_toArray, List.set_cons_zero, List.set_cons_succ]
    refine wpAnyH_done (by kernel_rfl) ?_ _
    go_wp2_with fail
    go_ret
    unfold RowPost
    have hu := HUxnabc.out
    refine ⟨Bc, cc, ?_, ?_, ?_⟩
    · rw [useL_len es i e (by omega)]; rfl
    · rw [useL_len es i e (by omega), HW.out.2]; exact hu.own.lower (Nat.le_of_lt HV.out.2.2.1)
    · rw [HW.out.2]; exact HX.out.1.trans ((drewN_below (Below.refl _ W1) 1).trans (by have := hu.lo; rw [← HN.out.1] at this; exact this.mono (Nat.le_of_lt HV.out.2.2.1)))
  · have hne : ¬ i + 1 = cp := fun h => hcap h.symm
    refine wp_region_held_drew (S := (fun w' => w'.heap[n0]? = some (.cells e.cells 107 (0, 0)))) (by kernel_rfl) ?_ (fun hHeldb => ?_)
    · (try dsimp only); exact HX.out.2.1
    obtain ⟨U, hU⟩ : ∃ U, W1.drew = U := ⟨_, rfl⟩
    rw [hU] at hHeldb ⊢
    obtain ⟨n1, hn1⟩ : ∃ n, W1.heap.size = n := ⟨_, rfl⟩
    have HU := Lib.hid (show Us n1 U [] (.slice none 0 0) none e U from Us.init e (by rw [← hU, ← hn1]; exact Nat.le_refl _))
    have HV := Lib.hid (show U.heap[n0]? = some (.cells e.cells 107 (0, 0)) ∧ Rd encN 13 U (some ⟨g, 0, none⟩) es ∧ n0 < n1 ∧ U.heap.size ≤ n1 from by rw [← hU, ← hn1]; exact ⟨HX.out.2.1, HX.out.2.2.2.1.drew, HO.out.2.2.2.1, Nat.le_refl _⟩)
    have HN := Lib.hid (And.intro hU hn1)
    clear hU hn1
    refine wpAnyH_take (i := 1) (oi := _) (v := ?vb1) rfl (by kernel_rfl) (by kernel_rfl) (by kernel_rfl) (fun _ _ _ h => h) (Or.inl ⟨by rfl, ?hyb1⟩) (by assumption) ?restb1
    case hyb1 => (intro w hSw; (try dsimp only at hSw); go_simp; all_goals with_reducible rfl)
    try simp only [Act.put, List.getElem_toArray, List.getElem_cons_zero, List.getElem_cons_succ, List.setIfInBounds_toArray, List.set_cons_zero, List.set_cons_succ]
    refine wpAnyH_take (i := 2) (oi := _) (v := ?vb2) rfl (by kernel_rfl) (by kernel_rfl) (by kernel_rfl) (fun _ _ _ h => h) (Or.inl ⟨by rfl, ?hyb2⟩) (by assumption) ?restb2
    case hyb2 => (intro w hSw; (try dsimp only at hSw); go_simp; all_goals with_reducible rfl)
    try simp only [Act.put, List.getElem_toArray, List.getElem_cons_zero, List.getElem_cons_succ, List.setIfInBounds_toArray, List.set_cons_zero, List.set_cons_succ]
    refine wpAnyH_take (i := 3) (oi := _) (v := ?vb3) rfl (by kernel_rfl) (by kernel_rfl) (by kernel_rfl) (fun _ _ _ h => h) (Or.inl ⟨by rfl, ?hyb3⟩) (by assumption) ?restb3
    case hyb3 => (intro w hSw; (try dsimp only at hSw); go_simp; all_goals with_reducible rfl)
    try simp only [Act.put, List.getElem_toArray, List.getElem_cons_zero, List.getElem_cons_succ, List.setIfInBounds_toArray, List.set_cons_zero, List.set_cons_succ]
    refine wpAnyH_take (i := 5) (oi := _) (v := ?vb4) rfl (by kernel_rfl) (by kernel_rfl) (by kernel_rfl) (fun _ _ _ h => h) (Or.inl ⟨by rfl, ?hyb4⟩) (by assumption) ?restb4
    case hyb4 => (intro w hSw; (try dsimp only at hSw); go_simp; all_goals with_reducible rfl)
    try simp only [Act.put, List.getElem_toArray, List.getElem_cons_zero, List.getElem_cons_succ, List.setIfInBounds_toArray, List.set_cons_zero, List.set_cons_succ]
    refine wpAnyH_take (i := 6) (oi := _) (v := ?vb5) rfl (by kernel_rfl) (by kernel_rfl) (by kernel_rfl) (fun _ _ _ h => h) (Or.inl ⟨by rfl, ?hyb5⟩) (by assumption) ?restb5
    case hyb5 => (intro w hSw; (try dsimp only at hSw); go_simp; all_goals with_reducible rfl)
    try simp only [Act.put, List.getElem_toArray, List.getElem_cons_zero, List.getElem_cons_succ, List.setIfInBounds_toArray, List.set_cons_zero, List.set_cons_succ]
    refine wpAnyH_take (i := 7) (oi := _) (v := ?vb6) rfl (by kernel_rfl) (by kernel_rfl) (by kernel_rfl) (fun _ _ _ h => h) (Or.inl ⟨by rfl, ?hyb6⟩) (by assumption) ?restb6
    case hyb6 => (intro w hSw; (try dsimp only at hSw); go_simp; all_goals with_reducible rfl)
    try simp only [Act.put, List.getElem_toArray, List.getElem_cons_zero, List.getElem_cons_succ, List.setIfInBounds_toArray, List.set_cons_zero, List.set_cons_succ]
    refine wpAnyH_take (i := 8) (oi := _) (v := ?vb7) rfl (by kernel_rfl) (by kernel_rfl) (by kernel_rfl) (fun _ _ _ h => h) (Or.inl ⟨by rfl, ?hyb7⟩) (by assumption) ?restb7
    case hyb7 => (intro w hSw; (try dsimp only at hSw); go_simp; all_goals with_reducible rfl)
    try simp only [Act.put, List.getElem_toArray, List.getElem_cons_zero, List.getElem_cons_succ, List.setIfInBounds_toArray, List.set_cons_zero, List.set_cons_succ]
    refine wpAnyH_take (i := 10) (oi := _) (v := ?vb8) rfl (by kernel_rfl) (by kernel_rfl) (by kernel_rfl) (fun _ _ _ h => h) (Or.inl ⟨by rfl, ?hyb8⟩) (by assumption) ?restb8
    case hyb8 => (intro w hSw; (try dsimp only at hSw); (refine exec_load_row 107 (.tmp 5) ?_ n0 ?_ 107 _ (0, 0) _ hSw Try.underlying107 rfl info107s) <;> rfl)
    try simp only [Act.put, List.getElem_toArray, List.getElem_cons_zero, List.getElem_cons_succ, List.setIfInBounds_toArray, List.set_cons_zero, List.set_cons_succ]
    refine wpAnyH_ready (rs := [0, 11]) (by kernel_rfl) (by simp) ?_
    refine AllReadyH.cons (o := _) rfl (fun K hK => ?_) ?_
    · go_simp
      obtain ⟨Un, hUn⟩ : ∃ W, U.alloc (.cells #[] 107) = W := ⟨_, rfl⟩
      rw [hUn]
      have HUn := Lib.hid (show Us _ _ _ _ _ _ Un by rw [← hUn]; exact HU.out.new)
      clear hUn
      refine hK.out _ _ ?_ (fun hHeldb9 => ?_)
      · (try dsimp only); exact (HUn.out.lo.block _ HV.out.2.2.1).trans HV.out.1
      clear hK K hHeldb
      try simp only [Act.put, List.getElem_toArray, List.getElem_cons_zero, List.getElem_cons_succ, List.setIfInBounds_toArray, List.set_cons_zero, List.set_cons_succ]
      refine wpAnyH_ready (rs := [4, 11]) (by kernel_rfl) (by simp) ?_
      refine AllReadyH.cons (o := _) rfl (fun K hK => ?_) ?_
      · refine wp_append_rowN lenN oneN Un (.tmp 10) (.tmp 13) 85 rfl n1 107 _ 48 Try.underlying85 info107 rfl (by decide) (by decide) _ _ 0 rfl rfl HUn.out.own _ i _ (es.take i) rfl HL.out.1 (rd_take (HV.out.2.1.below (HUn.out.lo.mono HV.out.2.2.2)) i) HO.out.1 HUn.out.size i (by omega) (es.take i) rfl ?_
        intro Ba ca Una ho hg hl
        have HUna := Lib.hid (HUn.out.app ho hg hl)
        clear ho hg hl
        refine hK.out _ _ ?_ (fun hHeldb10 => ?_)
        · (try dsimp only); exact (HUna.out.lo.block _ HV.out.2.2.1).trans HV.out.1
        clear hK K hHeldb9
        try simp only [Act.put, List.getElem_toArray, List.getElem_cons_zero, List.getElem_cons_succ, List.setIfInBounds_toArray, List.set_cons_zero, List.set_cons_succ]
        refine wpAnyH_ready (rs := [9, 11]) (by kernel_rfl) (by simp) ?_
        refine AllReadyH.cons (o := _) rfl (fun K hK => ?_) ?_
        · refine wp_append_rowN lenN oneN Una (.tmp 14) (.tmp 18) 85 rfl n1 107 _ 48 Try.underlying85 info107 rfl (by decide) (by decide) _ _ i HL.out.1 rfl HUna.out.own _ (es.length - (i + 1)) _ (es.drop (i + 1)) rfl HL.out.2.1 (rd_dropB (HV.out.2.1.below (HUna.out.lo.mono HV.out.2.2.2)) (i + 1)) HO.out.2.1 HUna.out.size (es.length - 1) HL.out.2.2.2.2.1 (es.take i ++ es.drop (i + 1)) rfl ?_
          intro Bb cb Unab ho hg hl
          have HUnab := Lib.hid (HUna.out.app ho hg hl)
          clear ho hg hl
          refine hK.out _ _ ?_ (fun hHeldb11 => ?_)
          · (try dsimp only); exact (HUnab.out.lo.block _ HV.out.2.2.1).trans HV.out.1
          clear hK K hHeldb10
          try simp only [Act.put, List.getElem_toArray, List.getElem_cons_zero, List.getElem_cons_succ, List.setIfInBounds_toArray, List.set_cons_zero, List.set_cons_succ]
          refine wpAnyH_ready (rs := [11]) (by kernel_rfl) (by simp) ?_
          refine AllReadyH.cons (o := _) rfl (fun K hK => ?_) AllReadyH.nil
          go_simp
          obtain ⟨Unabx, hUnabx⟩ : ∃ W, Unab.alloc (.cells e.cells 107) = W := ⟨_, rfl⟩
          rw [hUnabx]
          have HUnabx := Lib.hid (show Us _ _ _ _ _ _ Unabx by rw [← hUnabx]; exact HUnab.out.lay)
          clear hUnabx
          refine hK.out _ _ ?_ (fun hHeldb12 => ?_)
          · (try dsimp only); exact (HUnabx.out.lo.block _ HV.out.2.2.1).trans HV.out.1
          clear hK K hHeldb11
          try simp only [Act.put, List.getElem_toArray, List.getElem_cons_zero, List.getElem_cons_succ, List.setIfInBounds_toArray, List.set_cons_zero, List.set_cons_succ]
          refine wpAnyH_ready (rs := [12]) (by kernel_rfl) (by simp) ?_
          refine AllReadyH.cons (o := _) rfl (fun K hK => ?_) AllReadyH.nil
          refine wp_append_rowN lenN oneN Unabx (.tmp 19) (.tmp 21) 85 rfl n1 107 _ 48 Try.underlying85 info107 rfl (by decide) (by decide) _ _ (es.length - 1) HL.out.2.2.2.1 rfl HUnabx.out.own _ 1 _ [e] rfl rfl HUnabx.out.rd1 HO.out.2.2.1 HUnabx.out.size es.length HL.out.2.2.2.2.2 (useL es i e) HL2.out ?_
          intro Bc cc Unabxc ho hg hl
          have HUnabxc := Lib.hid (HUnabx.out.app ho hg hl)
          clear ho hg hl
          refine hK.out _ _ ?_ (fun hHeldb13 => ?_)
          · (try dsimp only); exact (HUnabxc.out.lo.block _ HV.out.2.2.1).trans HV.out.1
          clear hK K hHeldb12
          try simp only [Act.put, List.getElem_toArray, List.getElem_cons_zero, List.getElem_cons_succ, List.setIfInBounds_toArray, List.set_cons_zero, List.set_cons_succ]
          refine wpAnyH_take (i := 13) (oi := _) (v := ?vb14) rfl (by kernel_rfl) (by kernel_rfl) (by kernel_rfl) (fun _ _ _ h => h) (Or.inl ⟨by rfl, ?hyb14⟩) (by assumption) ?restb14
          case hyb14 => (intro w hSw; (try dsimp only at hSw); go_simp; all_goals with_reducible rfl)
          try simp only [Act.put, List.getElem_toArray, List.getElem_cons_zero, List.getElem_cons_succ, List.setIfInBounds_toArray, List.set_cons_zero, List.set_cons_succ]
          refine wpAnyH_done (by kernel_rfl) ?_ _
          go_wp2_with fail
          go_ret
          unfold RowPost
          have hu := HUnabxc.out
          refine ⟨Bc, cc, ?_, ?_, ?_⟩
          · rw [useL_len es i e (by omega)]; rfl
          · rw [useL_len es i e (by omega), HW.out.2]; exact hu.own.lower (Nat.le_of_lt HV.out.2.2.1)
          · rw [HW.out.2]; exact HX.out.1.trans ((drewN_below (Below.refl _ W1) 1).trans (by have := hu.lo; rw [← HN.out.1] at this; exact this.mono (Nat.le_of_lt HV.out.2.2.1)))
        refine AllReadyH.cons (o := _) rfl (fun K hK => ?_) AllReadyH.nil
        go_simp
        obtain ⟨Unax, hUnax⟩ : ∃ W, Una.alloc (.cells e.cells 107) = W := ⟨_, rfl⟩
        rw [hUnax]
        have HUnax := Lib.hid (show Us _ _ _ _ _ _ Unax by rw [← hUnax]; exact HUna.out.lay)
        clear hUnax
        refine hK.out _ _ ?_ (fun hHeldb15 => ?_)
        · (try dsimp only); exact (HUnax.out.lo.block _ HV.out.2.2.1).trans HV.out.1
        clear hK K hHeldb10
        try simp only [Act.put, List.getElem_toArray, List.getElem_cons_zero, List.getElem_cons_succ, List.setIfInBounds_toArray, List.set_cons_zero, List.set_cons_succ]
        refine wpAnyH_ready (rs := [9]) (by kernel_rfl) (by simp) ?_
        refine AllReadyH.cons (o := _) rfl (fun K hK => ?_) AllReadyH.nil
        refine wp_append_rowN lenN oneN Unax (.tmp 14) (.tmp 18) 85 rfl n1 107 _ 48 Try.underlying85 info107 rfl (by decide) (by decide) _ _ i HL.out.1 rfl HUnax.out.own _ (es.length - (i + 1)) _ (es.drop (i + 1)) rfl HL.out.2.1 (rd_dropB (HV.out.2.1.below (HUnax.out.lo.mono HV.out.2.2.2)) (i + 1)) HO.out.2.1 HUnax.out.size (es.length - 1) HL.out.2.2.2.2.1 (es.take i ++ es.drop (i + 1)) rfl ?_
        intro Bb cb Unaxb ho hg hl
        have HUnaxb := Lib.hid (HUnax.out.app ho hg hl)
        clear ho hg hl
        refine hK.out _ _ ?_ (fun hHeldb16 => ?_)
        · (try dsimp only); exact (HUnaxb.out.lo.block _ HV.out.2.2.1).trans HV.out.1
        clear hK K hHeldb15
        try simp only [Act.put, List.getElem_toArray, List.getElem_cons_zero, List.getElem_cons_succ, List.setIfInBounds_toArray, List.set_cons_zero, List.set_cons_succ]
        refine wpAnyH_ready (rs := [12]) (by kernel_rfl) (by simp) ?_
        refine AllReadyH.cons (o := _) rfl (fun K hK => ?_) AllReadyH.nil
        refine wp_append_rowN lenN oneN Unaxb (.tmp 19) (.tmp 21) 85 rfl n1 107 _ 48 Try.underlying85 info107 rfl (by decide) (by decide) _ _ (es.length - 1) HL.out.2.2.2.1 rfl HUnaxb.out.own _ 1 _ [e] rfl rfl HUnaxb.out.rd1 HO.out.2.2.1 HUnaxb.out.size es.length HL.out.2.2.2.2.2 (useL es i e) HL2.out ?_
        intro Bc cc Unaxbc ho hg hl
        have HUnaxbc := Lib.hid (HUnaxb.out.app ho hg hl)
        clear ho hg hl
        refine hK.out _ _ ?_ (fun hHeldb17 => ?_)
        · (try dsimp only); exact (HUnaxbc.out.lo.block _ HV.out.2.2.1).trans HV.out.1
        clear hK K hHeldb16
        try simp only [Act.put, List.getElem_toArray, List.getElem_cons_zero, List.getElem_cons_succ, List.setIfInBounds_toArray, List.set_cons_zero, List.set_cons_succ]
        refine wpAnyH_take (i := 13) (oi := _) (v := ?vb18) rfl (by kernel_rfl) (by kernel_rfl) (by kernel_rfl) (fun _ _ _ h => h) (Or.inl ⟨by rfl, ?hyb18⟩) (by assumption) ?restb18
        case hyb18 => (intro w hSw; (try dsimp only at hSw); go_simp; all_goals with_reducible rfl)
        try simp only [Act.put, List.getElem_toArray, List.getElem_cons_zero, List.getElem_cons_succ, List.setIfInBounds_toArray, List.set_cons_zero, List.set_cons_succ]
        refine wpAnyH_done (by kernel_rfl) ?_ _
        go_wp2_with fail
        go_ret
        unfold RowPost
        have hu := HUnaxbc.out
        refine ⟨Bc, cc, ?_, ?_, ?_⟩
        · rw [useL_len es i e (by omega)]; rfl
        · rw [useL_len es i e (by omega), HW.out.2]; exact hu.own.lower (Nat.le_of_lt HV.out.2.2.1)
        · rw [HW.out.2]; exact HX.out.1.trans ((drewN_below (Below.refl _ W1) 1).trans (by have := hu.lo; rw [← HN.out.1] at this; exact this.mono (Nat.le_of_lt HV.out.2.2.1)))
      refine AllReadyH.cons (o := _) rfl (fun K hK => ?_) AllReadyH.nil
      go_simp
      obtain ⟨Unx, hUnx⟩ : ∃ W, Un.alloc (.cells e.cells 107) = W := ⟨_, rfl⟩
      rw [hUnx]
      have HUnx := Lib.hid (show Us _ _ _ _ _ _ Unx by rw [← hUnx]; exact HUn.out.lay)
      clear hUnx
      refine hK.out _ _ ?_ (fun hHeldb19 => ?_)
      · (try dsimp only); exact (HUnx.out.lo.block _ HV.out.2.2.1).trans HV.out.1
      clear hK K hHeldb9
      try simp only [Act.put, List.getElem_toArray, List.getElem_cons_zero, List.getElem_cons_succ, List.setIfInBounds_toArray, List.set_cons_zero, List.set_cons_succ]
      refine wpAnyH_ready (rs := [4]) (by kernel_rfl) (by simp) ?_
      refine AllReadyH.cons (o := _) rfl (fun K hK => ?_) AllReadyH.nil
      refine wp_append_rowN lenN oneN Unx (.tmp 10) (.tmp 13) 85 rfl n1 107 _ 48 Try.underlying85 info107 rfl (by decide) (by decide) _ _ 0 rfl rfl HUnx.out.own _ i _ (es.take i) rfl HL.out.1 (rd_take (HV.out.2.1.below (HUnx.out.lo.mono HV.out.2.2.2)) i) HO.out.1 HUnx.out.size i (by omega) (es.take i) rfl ?_
      intro Ba ca Unxa ho hg hl
      have HUnxa := Lib.hid (HUnx.out.app ho hg hl)
      clear ho hg hl
      refine hK.out _ _ ?_ (fun hHeldb20 => ?_)
      · (try dsimp only); exact (HUnxa.out.lo.block _ HV.out.2.2.1).trans HV.out.1
      clear hK K hHeldb19
      try simp only [Act.put, List.getElem_toArray, List.getElem_cons_zero, List.getElem_cons_succ, List.setIfInBounds_toArray, List.set_cons_zero, List.set_cons_succ]
      refine wpAnyH_ready (rs := [9]) (by kernel_rfl) (by simp) ?_
      refine AllReadyH.cons (o := _) rfl (fun K hK => ?_) AllReadyH.nil
      refine wp_append_rowN lenN oneN Unxa (.tmp 14) (.tmp 18) 85 rfl n1 107 _ 48 Try.underlying85 info107 rfl (by decide) (by decide) _ _ i HL.out.1 rfl HUnxa.out.own _ (es.length - (i + 1)) _ (es.drop (i + 1)) rfl HL.out.2.1 (rd_dropB (HV.out.2.1.below (HUnxa.out.lo.mono HV.out.2.2.2)) (i + 1)) HO.out.2.1 HUnxa.out.size (es.length - 1) HL.out.2.2.2.2.1 (es.take i ++ es.drop (i + 1)) rfl ?_
      intro Bb cb Unxab ho hg hl
      have HUnxab := Lib.hid (HUnxa.out.app ho hg hl)
      clear ho hg hl
      refine hK.out _ _ ?_ (fun hHeldb21 => ?_)
      · (try dsimp only); exact (HUnxab.out.lo.block _ HV.out.2.2.1).trans HV.out.1
      clear hK K hHeldb20
      try simp only [Act.put, List.getElem_toArray, List.getElem_cons_zero, List.getElem_cons_succ, List.setIfInBounds_toArray, List.set_cons_zero, List.set_cons_succ]
      refine wpAnyH_ready (rs := [12]) (by kernel_rfl) (by simp) ?_
      refine AllReadyH.cons (o := _) rfl (fun K hK => ?_) AllReadyH.nil
      refine wp_append_rowN lenN oneN Unxab (.tmp 19) (.tmp 21) 85 rfl n1 107 _ 48 Try.underlying85 info107 rfl (by decide) (by decide) _ _ (es.length - 1) HL.out.2.2.2.1 rfl HUnxab.out.own _ 1 _ [e] rfl rfl HUnxab.out.rd1 HO.out.2.2.1 HUnxab.out.size es.length HL.out.2.2.2.2.2 (useL es i e) HL2.out ?_
      intro Bc cc Unxabc ho hg hl
      have HUnxabc := Lib.hid (HUnxab.out.app ho hg hl)
      clear ho hg hl
      refine hK.out _ _ ?_ (fun hHeldb22 => ?_)
      · (try dsimp only); exact (HUnxabc.out.lo.block _ HV.out.2.2.1).trans HV.out.1
      clear hK K hHeldb21
      try simp only [Act.put, List.getElem_toArray, List.getElem_cons_zero, List.getElem_cons_succ, List.setIfInBounds_toArray, List.set_cons_zero, List.set_cons_succ]
      refine wpAnyH_take (i := 13) (oi := _) (v := ?vb23) rfl (by kernel_rfl) (by kernel_rfl) (by kernel_rfl) (fun _ _ _ h => h) (Or.inl ⟨by rfl, ?hyb23⟩) (by assumption) ?restb23
      case hyb23 => (intro w hSw; (try dsimp only at hSw); go_simp; all_goals with_reducible rfl)
      try simp only [Act.put, List.getElem_toArray, List.getElem_cons_zero, List.getElem_cons_succ, List.setIfInBounds_toArray, List.set_cons_zero, List.set_cons_succ]
      refine wpAnyH_done (by kernel_rfl) ?_ _
      go_wp2_with fail
      go_ret
      unfold RowPost
      have hu := HUnxabc.out
      refine ⟨Bc, cc, ?_, ?_, ?_⟩
      · rw [useL_len es i e (by omega)]; rfl
      · rw [useL_len es i e (by omega), HW.out.2]; exact hu.own.lower (Nat.le_of_lt HV.out.2.2.1)
      · rw [HW.out.2]; exact HX.out.1.trans ((drewN_below (Below.refl _ W1) 1).trans (by have := hu.lo; rw [← HN.out.1] at this; exact this.mono (Nat.le_of_lt HV.out.2.2.1)))
    refine AllReadyH.cons (o := _) rfl (fun K hK => ?_) AllReadyH.nil
    go_simp
    obtain ⟨Ux, hUx⟩ : ∃ W, U.alloc (.cells e.cells 107) = W := ⟨_, rfl⟩
    rw [hUx]
    have HUx := Lib.hid (show Us _ _ _ _ _ _ Ux by rw [← hUx]; exact HU.out.lay)
    clear hUx
    refine hK.out _ _ ?_ (fun hHeldb24 => ?_)
    · (try dsimp only); exact (HUx.out.lo.block _ HV.out.2.2.1).trans HV.out.1
    clear hK K hHeldb
    try simp only [Act.put, List.getElem_toArray, List.getElem_cons_zero, List.getElem_cons_succ, List.setIfInBounds_toArray, List.set_cons_zero, List.set_cons_succ]
    refine wpAnyH_ready (rs := [0]) (by kernel_rfl) (by simp) ?_
    refine AllReadyH.cons (o := _) rfl (fun K hK => ?_) AllReadyH.nil
    go_simp
    obtain ⟨Uxn, hUxn⟩ : ∃ W, Ux.alloc (.cells #[] 107) = W := ⟨_, rfl⟩
    rw [hUxn]
    have HUxn := Lib.hid (show Us _ _ _ _ _ _ Uxn by rw [← hUxn]; exact HUx.out.new)
    clear hUxn
    refine hK.out _ _ ?_ (fun hHeldb25 => ?_)
    · (try dsimp only); exact (HUxn.out.lo.block _ HV.out.2.2.1).trans HV.out.1
    clear hK K hHeldb24
    try simp only [Act.put, List.getElem_toArray, List.getElem_cons_zero, List.getElem_cons_succ, List.setIfInBounds_toArray, List.set_cons_zero, List.set_cons_succ]
    refine wpAnyH_ready (rs := [4]) (by kernel_rfl) (by simp) ?_
    refine AllReadyH.cons (o := _) rfl (fun K hK => ?_) AllReadyH.nil
    refine wp_append_rowN lenN oneN Uxn (.tmp 10) (.tmp 13) 85 rfl n1 107 _ 48 Try.underlying85 info107 rfl (by decide) (by decide) _ _ 0 rfl rfl HUxn.out.own _ i _ (es.take i) rfl HL.out.1 (rd_take (HV.out.2.1.below (HUxn.out.lo.mono HV.out.2.2.2)) i) HO.out.1 HUxn.out.size i (by omega) (es.take i) rfl ?_
    intro Ba ca Uxna ho hg hl
    have HUxna := Lib.hid (HUxn.out.app ho hg hl)
    clear ho hg hl
    refine hK.out _ _ ?_ (fun hHeldb26 => ?_)
    · (try dsimp only); exact (HUxna.out.lo.block _ HV.out.2.2.1).trans HV.out.1
    clear hK K hHeldb25
    try simp only [Act.put, List.getElem_toArray, List.getElem_cons_zero, List.getElem_cons_succ, List.setIfInBounds_toArray, List.set_cons_zero, List.set_cons_succ]
    refine wpAnyH_ready (rs := [9]) (by kernel_rfl) (by simp) ?_
    refine AllReadyH.cons (o := _) rfl (fun K hK => ?_) AllReadyH.nil
    refine wp_append_rowN lenN oneN Uxna (.tmp 14) (.tmp 18) 85 rfl n1 107 _ 48 Try.underlying85 info107 rfl (by decide) (by decide) _ _ i HL.out.1 rfl HUxna.out.own _ (es.length - (i + 1)) _ (es.drop (i + 1)) rfl HL.out.2.1 (rd_dropB (HV.out.2.1.below (HUxna.out.lo.mono HV.out.2.2.2)) (i + 1)) HO.out.2.1 HUxna.out.size (es.length - 1) HL.out.2.2.2.2.1 (es.take i ++ es.drop (i + 1)) rfl ?_
    intro Bb cb Uxnab ho hg hl
    have HUxnab := Lib.hid (HUxna.out.app ho hg hl)
    clear ho hg hl
    refine hK.out _ _ ?_ (fun hHeldb27 => ?_)
    · (try dsimp only); exact (HUxnab.out.lo.block _ HV.out.2.2.1).trans HV.out.1
    clear hK K hHeldb26
    try simp only [Act.put, List.getElem_toArray, List.getElem_cons_zero, List.getElem_cons_succ, List.setIfInBounds_toArray, List.set_cons_zero, List.set_cons_succ]
    refine wpAnyH_ready (rs := [12]) (by kernel_rfl) (by simp) ?_
    refine AllReadyH.cons (o := _) rfl (fun K hK => ?_) AllReadyH.nil
    refine wp_append_rowN lenN oneN Uxnab (.tmp 19) (.tmp 21) 85 rfl n1 107 _ 48 Try.underlying85 info107 rfl (by decide) (by decide) _ _ (es.length - 1) HL.out.2.2.2.1 rfl HUxnab.out.own _ 1 _ [e] rfl rfl HUxnab.out.rd1 HO.out.2.2.1 HUxnab.out.size es.length HL.out.2.2.2.2.2 (useL es i e) HL2.out ?_
    intro Bc cc Uxnabc ho hg hl
    have HUxnabc := Lib.hid (HUxnab.out.app ho hg hl)
    clear ho hg hl
    refine hK.out _ _ ?_ (fun hHeldb28 => ?_)
    · (try dsimp only); exact (HUxnabc.out.lo.block _ HV.out.2.2.1).trans HV.out.1
    clear hK K hHeldb27
    try simp only [Act.put, List.getElem_toArray, List.getElem_cons_zero, List.getElem_cons_succ, List.setIfInBounds_toArray, List.set_cons_zero, List.set_cons_succ]
    refine wpAnyH_take (i := 13) (oi := _) (v := ?vb29) rfl (by kernel_rfl) (by kernel_rfl) (by kernel_rfl) (fun _ _ _ h => h) (Or.inl ⟨by rfl, ?hyb29⟩) (by assumption) ?restb29
    case hyb29 => (intro w hSw; (try dsimp only at hSw); go_simp; all_goals with_reducible rfl)
    try simp only [Act.put, List.getElem_toArray, List.getElem_cons_zero, List.getElem_cons_succ, List.setIfInBounds_toArray, List.set_cons_zero, List.set_cons_succ]
    refine wpAnyH_done (by kernel_rfl) ?_ _
    go_wp2_with fail
    go_ret
    unfold RowPost
    have hu := HUxnabc.out
    refine ⟨Bc, cc, ?_, ?_, ?_⟩
    · rw [useL_len es i e (by omega)]; rfl
    · rw [useL_len es i e (by omega), HW.out.2]; exact hu.own.lower (Nat.le_of_lt HV.out.2.2.1)
    · rw [HW.out.2]; exact HX.out.1.trans ((drewN_below (Below.refl _ W1) 1).trans (by have := hu.lo; rw [← HN.out.1] at this; exact this.mono (Nat.le_of_lt HV.out.2.2.1)))
end Go.Proofs.Ytggidakiflnhhaa
