import Derived.Test.YtggidakiflnhhaaAQ
namespace Go.Proofs.Ytggidakiflnhhaa
open Go.RowKit
set_option maxHeartbeats 16000000
set_option maxRecDepth 100000
set_option linter.unusedSimpArgs false
set_option linter.unusedVariables false

theorem snoc_filt {α β : Type} (f : α → β) (q : β → Bool) (l : List α) (j : Nat) (h : j < l.length) : ((l.take (j + 1)).map f).filter q = ((l.take j).map f).filter q ++ (if q (f l[j]) = true then [f l[j]] else []) := by
  rw [List.take_succ_eq_append_getElem h, List.map_append, List.filter_append]
  congr 1
  simp [List.filter_cons]
theorem acquireR_calls (es : List En) (P : Option Addr) (cp : Nat) (w : World) (hr : Rd encN 13 w P es) (hP : ∀ a, P = some a → a.off = 0 ∧ a.spot = none) (hsm : es.length ≤ 1000) :
    Calls Try.prog 37 #[.slice P es.length cp] w (RowPost ((es.map acE).filter (fun e => anyT e.v)) w) := by
  obtain ⟨n0, hn0⟩ : ∃ n, w.heap.size = n := ⟨_, rfl⟩
  have HR := Lib.hid (And.intro hr (And.intro hP hn0))
  clear hr hP hn0
  go_enter Try.func37, Try.ntmps37
  go_wp2_with fail
  go_loopg [3, 4, 5, 6, 7, 8, 9, 10, 11, 12, 13, 14, 15, 16, 17, 18, 19, 20, 21, 22, 23, 24, 25] es.length (fun gk v3 v4 v5 v6 v7 v8 v9 v10 v11 v12 v13 v14 v15 v16 v17 v18 v19 v20 v21 v22 v23 v24 v25 wr => ∃ j : Nat, j + gk = es.length ∧ v4 = .int .i64 (j : Int) ∧ Own encN 13 107 wr n0 v3 (((es.take j).map acE).filter (fun e => anyT e.v)) ∧ Below n0 w wr)
  case atStart => exact ⟨0, by omega, rfl, ⟨by simp, Or.inl ⟨rfl, rfl⟩⟩, Below.refl _ _⟩
  case round =>
    obtain ⟨j, hj, rfl, ho, hb⟩ := hrel
    obtain ⟨zs, hzs⟩ : ∃ zs, ((es.take j).map acE).filter (fun e => anyT e.v) = zs := ⟨_, rfl⟩
    rw [hzs] at ho
    have hzl : zs.length ≤ es.length := by rw [← hzs]; exact Nat.le_trans (List.length_filter_le _ _) (by simp; omega)
    obtain ⟨A, c, rfl, hle, hrv, hbk⟩ := ho.form lenN
    by_cases hlt : j < es.length
    · have hd : decide (j < es.length) = true := decide_eq_true hlt
      have hlt' : (j : Int) < (es.length : Int) := by omega
      obtain ⟨a, rfl, hca⟩ := HR.out.1.cell j hlt
      clear hca
      obtain ⟨hP1, hP2⟩ := HR.out.2.1 a rfl
      obtain ⟨g, go, gs⟩ := a
      simp only at hP1 hP2
      subst hP1
      subst hP2
      obtain ⟨e, he⟩ : ∃ e, es[j] = e := ⟨_, rfl⟩
      have hrg : wr.rangeAt g (j * 13) (encN e) := by
        have := rd_range ((HR.out.1).below (by rw [HR.out.2.2]; exact hb)) j hlt
        rw [he] at this
        exact this
      have hsn := snoc_filt acE (fun e => anyT e.v) es j hlt
      rw [hzs, he] at hsn
      obtain ⟨W5, hW5⟩ : ∃ W, wr.alloc (.cells #[.int .i64 (e.l : Int), .int .i64 (e.d 0), .int .i64 (e.d 1), .int .i64 (e.d 2), .int .i64 (e.d 3), .bool (e.t 0), .bool (e.t 1), .bool (e.t 2), .bool (e.t 3), .bool (e.t 0), .bool (e.t 1), .bool (e.t 2), .bool (e.t 3)] 107) = W := ⟨_, rfl⟩
      obtain ⟨n5, hn5⟩ : ∃ n, wr.heap.size = n := ⟨_, rfl⟩
      have hx5 : W5.heap[n5]? = some (.cells (acE e).cells 107 (0, 0)) := by rw [← hW5, ← hn5]; exact Go.heap_alloc_new _ _
      have hb5 : Below wr.heap.size wr W5 := by rw [← hW5]; exact (Below.refl _ _).alloc (Nat.le_refl _) _
      have hn05 : n0 ≤ n5 := by rw [← hn5, ← HR.out.2.2]; exact hb.size
      obtain ⟨an, han⟩ : ∃ b, anyT e.t = b := ⟨_, rfl⟩
      have hsc := some_calls (acE e).v W5
      rw [show anyT (acE e).v = an from han] at hsc
      have HG := Lib.hid hrg
      have HZ := Lib.hid (And.intro ho (And.intro hb (And.intro hsn (And.intro hzl (And.intro hx5 (And.intro hb5 (And.intro hn05 han)))))))
      have HS := Lib.hid hsc
      have HW := Lib.hid (And.intro hW5 hn5)
      have hb48 : (zs.length + 1) * 48 ≤ 140737488355328 := by omega
      have HB48 := Lib.hid hb48
      obtain ⟨k0, k1, k2, k3, k4, k5, k6, k7, k8, _, _, _, _⟩ := st13 hx5
      clear hrg ho hb hsn hx5 hb5 hn05 hsc hW5 hn5 hzs hzl hrv hbk he hb48 k0 k1 k2 k3 k4
      go_upto_region 7 with (refine wpList_load_mid rfl 107 (.tmp 14) rfl g (j * 13) rfl (encN e) _ HG.out Try.underlying107 rfl info107s ?_)
      rw [HW.out.1, HW.out.2]
      cases an with
      | false =>
        go_wp2_with ((with_reducible refine (HS.out).mono ?_); rintro y w6 ⟨rfl, hb6⟩; have H6 := Lib.hid hb6; clear hb6)
        go_roundg (gk - 1)
        case measure => omega
        case rel =>
          refine ⟨j + 1, by omega, by go_num, ?_, HZ.out.2.1.trans ((HZ.out.2.2.2.2.2.1.trans (H6.out.mono HZ.out.2.2.2.2.2.1.size)).mono (by have := HZ.out.2.1.size; have := HR.out.2.2; omega))⟩
          rw [HZ.out.2.2.1, if_neg (by show ¬ anyT e.t = true; rw [HZ.out.2.2.2.2.2.2.2]; simp), List.append_nil]
          exact (HZ.out.1.rest HZ.out.2.2.2.2.2.1).rest H6.out
      | true =>
        go_upto_region 8 with ((with_reducible refine (HS.out).mono ?_); rintro y w6 ⟨rfl, hb6⟩; have H6 := Lib.hid (And.intro hb6 (And.intro ((hb6.block _ (blk_lt HZ.out.2.2.2.2.1)).trans HZ.out.2.2.2.2.1) ((HZ.out.1.rest HZ.out.2.2.2.2.2.1).rest hb6))); clear hb6)
        clear k5 k6 k7 k8
        obtain ⟨W7, hW7⟩ : ∃ W, w6.alloc (.cells (acE e).cells 107) = W := ⟨_, rfl⟩
        have hb7 : Below w6.heap.size w6 W7 := by rw [← hW7]; exact (Below.refl _ _).alloc (Nat.le_refl _) _
        have hr7 : Rd encN 13 W7 (some ⟨w6.heap.size, 0, none⟩) [acE e] := by rw [← hW7]; exact rd_one encN 13 w6 (acE e) 107 _ rfl _ rfl
        have hs7 : n0 ≤ W7.heap.size := by have := HZ.out.2.1.size; have := HZ.out.2.2.2.2.2.1.size; have := H6.out.1.size; have := hb7.size; have := HR.out.2.2; omega
        have H7 := Lib.hid (And.intro (H6.out.2.2.rest hb7) (And.intro hr7 (And.intro hb7 (And.intro hs7 hW7))))
        clear hb7 hr7 hs7 hW7
        go_wp2_with (first | (refine wpList_load_row rfl 107 (.tmp 5) rfl n5 rfl 107 _ (0, 0) _ H6.out.2.1 Try.underlying107 rfl info107s ?_) | (at_builtin; rw [H7.out.2.2.2.2]; go_must (refine wpList_append_rowN lenN oneN W7 rfl (.tmp 22) (.tmp 24) 85 rfl n0 107 _ 48 Try.underlying85 info107 rfl (by decide) (by decide) _ zs zs.length rfl rfl H7.out.1 _ 1 _ [acE e] rfl rfl H7.out.2.1 HB48.out H7.out.2.2.2.1 (zs.length + 1) rfl (zs ++ [acE e]) rfl ?_); intro B1 c1 W8 ho8 hg8 hl8; have H8 := Lib.hid (And.intro ho8 (And.intro hg8 hl8)); clear ho8 hg8 hl8))
        go_roundg (gk - 1)
        case measure => omega
        case rel =>
          refine ⟨j + 1, by omega, by go_num, ?_, ?_⟩
          · rw [HZ.out.2.2.1, if_pos (show anyT (acE e).v = true from HZ.out.2.2.2.2.2.2.2)]
            exact H8.out.1
          · have hb7 : Below n0 w W7 := (HZ.out.2.1.trans ((HZ.out.2.2.2.2.2.1.trans (H6.out.1.mono HZ.out.2.2.2.2.2.1.size)).mono (by have := HZ.out.2.1.size; have := HR.out.2.2; omega))).trans (H7.out.2.2.1.mono (by have := HZ.out.2.1.size; have := HZ.out.2.2.2.2.2.1.size; have := H6.out.1.size; have := HR.out.2.2; omega))
            exact hb7.grown H8.out.2.1 H7.out.2.2.2.1 (fun k hk => (H7.out.1.blk k hk).1)
    · have hd : decide (j < es.length) = false := decide_eq_false hlt
      have hjl : j = es.length := by omega
      have HE := Lib.hid (And.intro ho (And.intro hb (And.intro hjl hzs)))
      clear ho hb hjl hzs hrv hbk
      go_wp2_with fail
      go_ret
      unfold RowPost
      have e1 : (es.map acE).filter (fun e => anyT e.v) = zs := by rw [← HE.out.2.2.2, HE.out.2.2.1, List.take_of_length_le (Nat.le_refl _)]
      rw [e1, HR.out.2.2]
      exact ⟨A, c, rfl, HE.out.1, HE.out.2.1⟩
end Go.Proofs.Ytggidakiflnhhaa
