import Derived.Test.YtggidakiflnhhaaJ
namespace Go.Proofs.Ytggidakiflnhhaa
open Go.RowKit
set_option maxHeartbeats 8000000
set_option maxRecDepth 100000
set_option linter.unusedSimpArgs false
set_option linter.unusedVariables false

/-- a list whose first element has gone where it is full -/
def evL {α : Type} (c : Cf) (l : List α) : List α := if (l.length : Int) = c.N then l.tail else l
def evA (c : Cf) (A : AS) (k : Nat) (es : List En) : AS := if (es.length : Int) = c.N then { wb A (es.headD (newE 0)) with cs := A.cs.set k es.tail } else A
def entA (c : Cf) (A : AS) (k : Nat) (es : List En) (x : Nat) : AS := { evA c A k es with cs := A.cs.set k (evL c es ++ [newE x]) }
def EvPost (c : Cf) (bs bm bc base : Nat) (vv : Value) (ps : List (List Nat)) (A : AS) (k : Nat) (l : List Nat) (es : List En) (x : Nat) (w : World) (y : Ending) (w' : World) : Prop :=
  ∃ b sv, y = .returned (ptr b) ∧ Sys c bs bm bc base none sv vv (ps.set k (evL c l ++ [b])) (entA c A k es x) w' ∧ Bel base w w' ∧ w.heap.size ≤ b
theorem drop_head {l : List Nat} (h : 0 < l.length) : l.eraseIdx 0 = l.tail := by cases l with | nil => simp at h | cons a l => rfl
theorem evL_len {α β : Type} (c : Cf) (l : List α) (m : List β) (h : l.length = m.length) : (evL c l).length = (evL c m).length := by
  unfold evL
  rw [h]
  split <;> simp [h]
theorem mem_evL {α : Type} {c : Cf} {l : List α} {x : α} (h : x ∈ evL c l) : x ∈ l := by
  unfold evL at h
  split at h
  · exact List.mem_of_mem_tail h
  · exact h
theorem Sys.lt_size {c : Cf} {bs bm bc base : Nat} {hole : Option Nat} {sv : List Value} {vv : Value} {ps : List (List Nat)} {A : AS} {w : World} (h : Sys c bs bm bc base hole sv vv ps A w) {k q : Nat} {l : List Nat} (hk : ps[k]? = some l) (hq : q ∈ l) : q < w.heap.size := by
  obtain ⟨i, hi, rfl⟩ := List.mem_iff_getElem.1 hq
  obtain ⟨_, _, _, _, h9⟩ := h.ent' hk (List.getElem?_eq_getElem hi)
  exact blk_lt h9
theorem snoc_at {l : List Nat} {es : List En} (hle : es.length = l.length) {b q j : Nat} {f e : En} (h1 : (l ++ [b])[j]? = some q) (h2 : (es ++ [e])[j]? = some f) : (l[j]? = some q ∧ es[j]? = some f) ∨ (q = b ∧ f = e) := by
  rw [List.getElem?_append] at h1 h2
  rw [hle] at h2
  split at h1
  · rename_i h; rw [if_pos h] at h2; exact Or.inl ⟨h1, h2⟩
  · rename_i h
    rw [if_neg h] at h2
    have hj : j - l.length = 0 := by
      have := (List.getElem?_eq_some_iff.1 h1).1
      simp at this; omega
    rw [hj] at h1 h2
    exact Or.inr ⟨by simpa using h1.symm, by simpa using h2.symm⟩
theorem Sys.belowRow {c : Cf} {bs bm bc base : Nat} {hole : Option Nat} {sv : List Value} {vv : Value} {ps : List (List Nat)} {A : AS} {w w' : World} (h : Sys c bs bm bc base hole sv vv ps A w) {v : Value} {l : List Nat} (ho : Own encQ 1 100 w base v l) (hg : w.grownBy w' v.ownBlock) : Bel base w w' := by
  cases hv : v.ownBlock with
  | none => rw [hv] at hg; exact Bel.of ⟨hg.os, hg.tape, hg.output, hg.size, fun k hk => hg.block k hk (by simp)⟩ h.bp_size
  | some x => rw [hv] at hg; exact h.below (ho.part hv) hg
theorem notRow {w : World} {base : Nat} {v : Value} {l : List Nat} {b : Nat} {e : En} (ho : Own encQ 1 100 w base v l) (he : EnAt w b e) (h : v.ownBlock = some b) : False := by
  obtain ⟨_, _, cur, hc⟩ := ho.blk b h
  unfold EnAt at he
  rw [hc] at he
  simp at he
theorem enter_calls {c : Cf} {bs bm bc base : Nat} {sv : List Value} {vv : Value} {ps : List (List Nat)} {A : AS} {w : World} (h : Sys c bs bm bc base none sv vv ps A w)
    {k : Nat} {l : List Nat} {es : List En} (hk : ps[k]? = some l) (hc : A.cs[k]? = some es) (x : Nat) (hok : cfOk c) (hm : A.m.length ≤ 256) (hl : ∀ e ∈ es, e.l * 4 + 4 ≤ A.m.length) (hw : A.wr < 1000000000) (hsm : l.length ≤ 1000) :
    Calls Try.prog 57 #[ptr bs, .int .i64 (k : Int), .int .i64 (x : Int)] w (EvPost c bs bm bc base vv ps A k l es x w) := by
  obtain ⟨v, hv⟩ := h.sv_at hk
  have hn := h.nodup hk
  have hle := h.le _ _ _ hk hc
  have hks2 : k < sv.length := (List.getElem?_eq_some_iff.1 hv).1
  have hks : (k : Int) < (sv.length : Int) := by omega
  obtain ⟨a, cp, rfl, hcp, hrd, hab⟩ := (h.row k v l hv hk (by simp)).form lenQ
  obtain ⟨s0, s1, s2, s3, s4, s5, s6, s7, s8, s9, s10⟩ := h.ten
  have t0 := (h.at k _ hv).1
  have hN : 1 ≤ c.N := hok.2.2.2.2.2.1
  have HQ := Lib.hid (And.intro h (And.intro hk (And.intro hc (And.intro hv (And.intro hn (And.intro hle (And.intro hl (And.intro hw (And.intro hm hsm)))))))))
  clear h hk hc hn hle hl hw hrd hv hok s0 s1 s3 s4 s5 s6 s7 s9 s10
  go_enter Try.func57, Try.ntmps57
  go_upto_if 23 with fail
  go_cut [7] (fun _ wx => ∃ sv', Sys c bs bm bc base none sv' vv (ps.set k (evL c l)) (evA c A k es) wx ∧ Bel base w wx ∧ w.heap.size ≤ wx.heap.size)
  case first =>
    by_cases hfull : (l.length : Int) = c.N
    · have hl0 : 0 < l.length := by omega
      have e1 : evL c l = l.tail := if_pos hfull
      have e2 : evA c A k es = { wb A (es.headD (newE 0)) with cs := A.cs.set k es.tail } := if_pos (by rw [HQ.out.2.2.2.2.2.1]; exact hfull)
      obtain ⟨g, cp2, hgv⟩ := (HQ.out.1.row k _ l HQ.out.2.2.2.1 HQ.out.2.1 (by simp)).big hl0
      obtain ⟨rfl, _, rfl⟩ := Value.slice.inj hgv
      obtain ⟨e0, he0⟩ : ∃ e0, es[0]? = some e0 := ⟨_, List.getElem?_eq_getElem (by rw [HQ.out.2.2.2.2.2.1]; exact hl0)⟩
      obtain ⟨p0, hp0⟩ : ∃ p0, l[0]? = some p0 := ⟨_, List.getElem?_eq_getElem hl0⟩
      have hp0' : l[0] = p0 := by rw [List.getElem?_eq_getElem hl0] at hp0; exact Option.some.inj hp0
      have e3 : es.headD (newE 0) = e0 := by cases es with | nil => simp at he0 | cons e es => simpa using he0
      have q0 := ((HQ.out.1.row k _ l HQ.out.2.2.2.1 HQ.out.2.1 (by simp)).qcell rfl 0 hl0).1
      rw [hp0'] at q0
      have hfl := flush_calls HQ.out.1 HQ.out.2.1 hp0 HQ.out.2.2.1 he0 HQ.out.2.2.2.2.2.2.2.2.1 (HQ.out.2.2.2.2.2.2.1 e0 (List.mem_of_getElem? he0)) HQ.out.2.2.2.2.2.2.2.1
      have HFL := Lib.hid hfl
      have HE := Lib.hid (And.intro e1 (And.intro e2 (And.intro e3 (And.intro he0 hp0))))
      have hli : (0 : Int) < (l.length : Int) := by omega
      clear e1 e2 e3 hfl he0 hp0 hp0' hgv hab
      go_wp2_with fail
      (with_reducible refine (HFL.out).mono ?_); rintro y w1 ⟨rfl, h1, hb1⟩
      have ho1 := h1.row k _ l HQ.out.2.2.2.1 HQ.out.2.1 (by simp)
      have hap : ∀ (j : Nat) (u : Value), sv[j]? = some u → j ≠ k → Apt (.slice (some ⟨g, 0, none⟩) l.length cp) u := fun j u a b => h1.apt k j _ u HQ.out.2.2.2.1 a (fun e => b e.symm) (by simp) (by simp)
      have hdel : Calls Try.prog 65 #[.slice (some ⟨g, 0, none⟩) l.length cp, .int .i64 0, .int .i64 1] w1.drew (DelPost base g cp l 0 w1.drew) := by
        have := delete_calls base g cp l 0 w1.drew (ho1.rest (bb_drew (Below.refl _ _))) hl0 (by have := HQ.out.2.2.2.2.2.2.2.2.2; omega)
        simpa using this
      have HDL := Lib.hid hdel
      have F := Lib.hid (And.intro ((h1.open k).rest (bb_drew (Below.refl _ _))) (And.intro (ho1.rest (bb_drew (Below.refl _ _))) (And.intro hb1.drew hap)))
      clear h1 hb1 ho1 hdel hap q0 t0 s2 s8
      go_upto_region 4 with fail
      refine wp_region_held_drew (S := (fun w' => w'.cell? ⟨bs, 8, none⟩ = some (.slice (some ⟨bc, 0, none⟩) sv.length sv.length))) (by kernel_rfl) ?_ (fun hHelda => ?_)
      · (try dsimp only); exact F.out.1.ten.2.2.2.2.2.2.2.2.1
      refine wpAnyH_take (i := 0) (oi := _) (v := ?va1) rfl (by kernel_rfl) (by kernel_rfl) (by kernel_rfl) (fun _ _ _ h => h) (Or.inl ⟨by rfl, ?hya1⟩) (by assumption) ?resta1
      case hya1 => (intro w hSw; (try dsimp only at hSw); go_simp; all_goals with_reducible rfl)
      try simp only [Act.put, List.getElem_toArray, List.getElem_cons_zero, List.getElem_cons_succ, List.setIfInBounds_toArray, List.set_cons_zero, List.set_cons_succ]
      refine wpAnyH_take (i := 1) (oi := _) (v := ?va2) rfl (by kernel_rfl) (by kernel_rfl) (by kernel_rfl) (fun _ _ _ h => h) (Or.inl ⟨by rfl, ?hya2⟩) (by assumption) ?resta2
      case hya2 => (intro w hSw; (try dsimp only at hSw); go_simp; all_goals with_reducible rfl)
      try simp only [Act.put, List.getElem_toArray, List.getElem_cons_zero, List.getElem_cons_succ, List.setIfInBounds_toArray, List.set_cons_zero, List.set_cons_succ]
      refine wpAnyH_take (i := 2) (oi := _) (v := ?va3) rfl (by kernel_rfl) (by kernel_rfl) (by kernel_rfl) (fun _ _ _ h => h) (Or.inl ⟨by rfl, ?hya3⟩) (by assumption) ?resta3
      case hya3 => (intro w hSw; (try dsimp only at hSw); go_simp; all_goals with_reducible rfl)
      try simp only [Act.put, List.getElem_toArray, List.getElem_cons_zero, List.getElem_cons_succ, List.setIfInBounds_toArray, List.set_cons_zero, List.set_cons_succ]
      refine wpAnyH_take (i := 3) (oi := _) (v := ?va4) rfl (by kernel_rfl) (by kernel_rfl) (by kernel_rfl) (fun _ _ _ h => h) (Or.inl ⟨by rfl, ?hya4⟩) (by assumption) ?resta4
      case hya4 => (intro w hSw; (try dsimp only at hSw); go_simp; all_goals with_reducible rfl)
      try simp only [Act.put, List.getElem_toArray, List.getElem_cons_zero, List.getElem_cons_succ, List.setIfInBounds_toArray, List.set_cons_zero, List.set_cons_succ]
      refine wpAnyH_take (i := 4) (oi := _) (v := ?va5) rfl (by kernel_rfl) (by kernel_rfl) (by kernel_rfl) (fun _ _ _ h => h) (Or.inl ⟨by rfl, ?hya5⟩) (by assumption) ?resta5
      case hya5 => (intro w hSw; (try dsimp only at hSw); go_simp; all_goals with_reducible rfl)
      try simp only [Act.put, List.getElem_toArray, List.getElem_cons_zero, List.getElem_cons_succ, List.setIfInBounds_toArray, List.set_cons_zero, List.set_cons_succ]
      refine wpAnyH_take (i := 5) (oi := _) (v := ?va6) rfl (by kernel_rfl) (by kernel_rfl) (by kernel_rfl) (fun _ _ _ h => h) (Or.inl ⟨by rfl, ?hya6⟩) (by assumption) ?resta6
      case hya6 => (intro w hSw; (try dsimp only at hSw); go_simp; all_goals with_reducible rfl)
      try simp only [Act.put, List.getElem_toArray, List.getElem_cons_zero, List.getElem_cons_succ, List.setIfInBounds_toArray, List.set_cons_zero, List.set_cons_succ]
      refine wpAnyH_ready (rs := [6]) (by kernel_rfl) (by simp) ?_
      refine AllReadyH.cons (o := _) rfl (fun K hK => ?_) AllReadyH.nil
      go_simp
      (with_reducible refine (HDL.out).mono ?_)
      rintro y u ⟨rfl, hA, hC⟩
      have hK := F.out.1.keptRow F.out.2.1 F.out.2.2.2 hC
      have F2 := Lib.hid (And.intro hK (And.intro hA (F.out.2.2.1.trans (F.out.1.below (F.out.2.1.part rfl) hC))))
      clear hA hC hK
      go_wp2_with fail
      refine hK.out _ _ ?_ (fun hHelda7 => ?_)
      · (try dsimp only); exact F2.out.1.ten.2.2.2.2.2.2.2.2.1
      clear hK K hHelda
      try simp only [Act.put, List.getElem_toArray, List.getElem_cons_zero, List.getElem_cons_succ, List.setIfInBounds_toArray, List.set_cons_zero, List.set_cons_succ]
      refine wpAnyH_take (i := 7) (oi := _) (v := ?va8) rfl (by kernel_rfl) (by kernel_rfl) (by kernel_rfl) (fun _ _ _ h => h) (Or.inl ⟨by rfl, ?hya8⟩) (by assumption) ?resta8
      case hya8 => (intro w hSw; (try dsimp only at hSw); go_simp; all_goals with_reducible rfl)
      try simp only [Act.put, List.getElem_toArray, List.getElem_cons_zero, List.getElem_cons_succ, List.setIfInBounds_toArray, List.set_cons_zero, List.set_cons_succ]
      refine wpAnyH_ready (rs := [8]) (by kernel_rfl) (by simp) ?_
      refine AllReadyH.cons (o := _) rfl (fun K hK => ?_) AllReadyH.nil
      have t0 := (F2.out.1.at k _ HQ.out.2.2.2.1).1
      have t1 := (F2.out.1.at k _ HQ.out.2.2.2.1).2
      go_simp
      clear t0 t1
      have e0' : l.eraseIdx 0 = l.tail := drop_head hl0
      have hls : l.tail.length = l.length - 1 := by simp
      have ho3 := F2.out.2.1
      rw [e0'] at ho3
      have hz := F2.out.1.close (v := .slice (some ⟨g, 0, none⟩) (l.length - 1) cp) (l := l.tail) (es := es.tail) (List.getElem?_eq_some_iff.1 HQ.out.2.1).1 ho3 (fun j u a b => (F.out.2.2.2 j u a b).len _) (by simp [HQ.out.2.2.2.2.2.1]) (fun j q f a b => by rw [List.getElem?_tail] at a b; exact F2.out.1.ent k l (es.set 0 (clE e0)) (j + 1) q f HQ.out.2.1 (List.getElem?_set_self (List.getElem?_eq_some_iff.1 HQ.out.2.2.1).1) a (by rw [List.getElem?_set_ne (by omega)]; exact b)) (HQ.out.2.2.2.2.1.sublist (List.tail_sublist l)) (fun j l' q a b d => useFar F2.out.1 HQ.out.2.1 b (fun e => a e.symm) (List.mem_of_mem_tail d)) (fun q d => F2.out.1.bp _ _ _ HQ.out.2.1 (List.mem_of_mem_tail d))
      have HFF := Lib.hid (And.intro hz.1 (F2.out.2.2.trans (F2.out.1.below F2.out.1.pbc hz.2)))
      have HZ := Lib.hid (show (u.setCell ⟨bc, k, none⟩ (.slice (some ⟨g, 0, none⟩) (l.length - 1) cp)).cell? ⟨bs, 8, none⟩ = some (.slice (some ⟨bc, 0, none⟩) sv.length sv.length) from by have := hz.1.ten.2.2.2.2.2.2.2.2.1; rw [List.length_set] at this; exact this)
      clear hz ho3 e0' hls
      refine hK.out _ _ ?_ (fun hHelda9 => ?_)
      · (try dsimp only); exact HZ.out
      clear hK K hHelda7
      try simp only [Act.put, List.getElem_toArray, List.getElem_cons_zero, List.getElem_cons_succ, List.setIfInBounds_toArray, List.set_cons_zero, List.set_cons_succ]
      refine wpAnyH_done (by kernel_rfl) ?_ _
      go_wp2_with fail
      go_meet
      refine ⟨sv.set k (.slice (some ⟨g, 0, none⟩) (l.length - 1) cp), ?_, HFF.out.2, HFF.out.2.size⟩
      rw [HE.out.1, HE.out.2.1, HE.out.2.2.1]
      have h9 := HFF.out.1
      simp only [List.set_set] at h9
      exact h9
    · have hne : ((l.length : Int) == c.N) = false := by simpa using hfull
      have e1 : evL c l = l := if_neg hfull
      have e2 : evA c A k es = A := if_neg (by rw [HQ.out.2.2.2.2.2.1]; exact hfull)
      have HE := Lib.hid (And.intro e1 e2)
      clear e1 e2 hfull
      go_wp2_with fail
      go_meet
      exact ⟨sv, by rw [HE.out.1, HE.out.2, set_same HQ.out.2.1]; exact HQ.out.1, Bel.refl _ _, Nat.le_refl _⟩
  case rest =>
    obtain ⟨sv1, hs1, hb1, hz1⟩ := hcut
    have hkl : k < ps.length := (List.getElem?_eq_some_iff.1 HQ.out.2.1).1
    have hk1 : (ps.set k (evL c l))[k]? = some (evL c l) := List.getElem?_set_self hkl
    have hkc : k < A.cs.length := (List.getElem?_eq_some_iff.1 HQ.out.2.2.1).1
    have hc1 : (evA c A k es).cs[k]? = some (evL c es) := by
      unfold evA evL
      split
      · exact List.getElem?_set_self hkc
      · exact HQ.out.2.2.1
    have hcs : (evA c A k es).cs.set k (evL c es ++ [newE x]) = A.cs.set k (evL c es ++ [newE x]) := by
      unfold evA
      split
      · simp [List.set_set]
      · rfl
    obtain ⟨l1, hl1⟩ : ∃ l1, evL c l = l1 := ⟨_, rfl⟩
    obtain ⟨es1, hes1⟩ : ∃ es1, evL c es = es1 := ⟨_, rfl⟩
    obtain ⟨A1, hA1⟩ : ∃ A1, evA c A k es = A1 := ⟨_, rfl⟩
    have hlt1 : l1.length ≤ 1000 := by
      rw [← hl1]; unfold evL
      have := HQ.out.2.2.2.2.2.2.2.2.2
      split <;> simp <;> omega
    rw [hl1] at hk1 hs1
    rw [hes1] at hc1 hcs
    rw [hA1] at hs1 hc1 hcs
    obtain ⟨v1, hv1⟩ := hs1.sv_at hk1
    have hks1 : k < sv1.length := (List.getElem?_eq_some_iff.1 hv1).1
    have hksI : (k : Int) < (sv1.length : Int) := by omega
    -- the new entry
    obtain ⟨W1, hW1⟩ : ∃ W1, wc.alloc (.cells #[.int .i64 (x : Int), .int .i64 0, .int .i64 0, .int .i64 0, .int .i64 0, .bool false, .bool false, .bool false, .bool false, .bool false, .bool false, .bool false, .bool false] 115) = W1 := ⟨_, rfl⟩
    have hbb : Below wc.heap.size wc W1 := by rw [← hW1]; exact (Below.refl _ wc).alloc (Nat.le_refl _) _
    have hnew : EnAt W1 wc.heap.size (newE x) := by unfold EnAt; rw [← hW1]; exact Go.heap_alloc_new wc _
    have hfar : ∀ q ∈ l1, q ≠ wc.heap.size := fun q hq e => by have := hs1.lt_size hk1 hq; omega
    have hfar2 : ∀ (j : Nat) (l' : List Nat), (ps.set k l1)[j]? = some l' → wc.heap.size ∉ l' := fun j l' a hq => by have := hs1.lt_size a hq; omega
    have hbas : base ≤ wc.heap.size := hs1.bp_size
    have hown : ∀ (j : Nat) (u : Value), sv1[j]? = some u → j ≠ k → ∀ b, u.ownBlock = some b → b < wc.heap.size := fun j u a b y hy => by
      obtain ⟨l', hl'⟩ : ∃ l', (ps.set k l1)[j]? = some l' := ⟨_, List.getElem?_eq_getElem (by rw [← hs1.ls]; exact (List.getElem?_eq_some_iff.1 a).1)⟩
      exact ((hs1.row j u l' a hl' (by simp)).blk y hy).2.1
    have hapt : ∀ (j : Nat) (u : Value), sv1[j]? = some u → j ≠ k → Apt v1 u := fun j u a b => hs1.apt k j _ u hv1 a (fun e => b e.symm) (by simp) (by simp)
    have h1 := hs1.rest hbb
    have hn1 := h1.nodup hk1
    have hle1 := h1.le _ _ _ hk1 hc1
    obtain ⟨b, hbe⟩ : ∃ b, wc.heap.size = b := ⟨_, rfl⟩
    have hsz1 : wc.heap.size ≤ W1.heap.size := hbb.size
    rw [hbe] at hnew hfar hfar2 hbas hown hsz1
    have F := Lib.hid (And.intro ((h1.open k).rest (bb_drew (Below.refl _ _))) (And.intro (show Own encQ 1 100 W1.drew base v1 l1 from (h1.row k v1 l1 hv1 hk1 (by simp)).rest (bb_drew (Below.refl _ _))) (And.intro (show EnAt W1.drew b (newE x) from hnew) (show Bel base w W1.drew from (hb1.trans (Bel.of hbb hs1.bp_size)).drew))))
    have HQ2 := Lib.hid (And.intro hfar (And.intro hfar2 (And.intro hbas (And.intro hown (And.intro hapt (And.intro hn1 (And.intro hle1 (And.intro hk1 (And.intro hc1 (And.intro hcs (And.intro hsz1 hlt1)))))))))))
    have HN := Lib.hid (And.intro hl1 (And.intro hes1 (And.intro hA1 (And.intro hz1 hbe))))
    have HW := Lib.hid hW1
    have HV := Lib.hid hv1
    clear hs1 hb1 hz1 hk1 hc1 hcs hl1 hes1 hA1 hv1 hW1 hbb hnew hfar hfar2 hbas hown hapt h1 hn1 hle1 hsz1 hkl hkc s2 s8 t0 hlt1 hab
    go_upto_region 6 with fail
    rw [HW.out]
    try rw [HN.out.2.2.2.2]
    refine wp_region_held_drew (S := (fun w' => w'.cell? ⟨bs, 8, none⟩ = some (.slice (some ⟨bc, 0, none⟩) sv1.length sv1.length))) (by kernel_rfl) ?_ (fun hHeldb => ?_)
    · (try dsimp only); exact F.out.1.ten.2.2.2.2.2.2.2.2.1
    refine wpAnyH_take (i := 0) (oi := _) (v := ?vb1) rfl (by kernel_rfl) (by kernel_rfl) (by kernel_rfl) (fun _ _ _ h => h) (Or.inl ⟨by rfl, ?hyb1⟩) (by assumption) ?restb1
    case hyb1 => (intro w hSw; (try dsimp only at hSw); go_simp; all_goals with_reducible rfl)
    try simp only [Act.put, List.getElem_toArray, List.getElem_cons_zero, List.getElem_cons_succ, List.setIfInBounds_toArray, List.set_cons_zero, List.set_cons_succ]
    refine wpAnyH_take (i := 1) (oi := _) (v := ?vb2) rfl (by kernel_rfl) (by kernel_rfl) (by kernel_rfl) (fun _ _ _ h => h) (Or.inl ⟨by rfl, ?hyb2⟩) (by assumption) ?restb2
    case hyb2 => (intro w hSw; (try dsimp only at hSw); go_simp; all_goals with_reducible rfl)
    try simp only [Act.put, List.getElem_toArray, List.getElem_cons_zero, List.getElem_cons_succ, List.setIfInBounds_toArray, List.set_cons_zero, List.set_cons_succ]
    refine wpAnyH_take (i := 2) (oi := _) (v := ?vb3) rfl (by kernel_rfl) (by kernel_rfl) (by kernel_rfl) (fun _ _ _ h => h) (Or.inl ⟨by rfl, ?hyb3⟩) (by assumption) ?restb3
    case hyb3 => (intro w hSw; (try dsimp only at hSw); go_simp; all_goals with_reducible rfl)
    try simp only [Act.put, List.getElem_toArray, List.getElem_cons_zero, List.getElem_cons_succ, List.setIfInBounds_toArray, List.set_cons_zero, List.set_cons_succ]
    refine wpAnyH_take (i := 3) (oi := _) (v := ?vb4) rfl (by kernel_rfl) (by kernel_rfl) (by kernel_rfl) (fun _ _ _ h => h) (Or.inl ⟨by rfl, ?hyb4⟩) (by assumption) ?restb4
    case hyb4 => (intro w hSw; (try dsimp only at hSw); go_simp; all_goals with_reducible rfl)
    try simp only [Act.put, List.getElem_toArray, List.getElem_cons_zero, List.getElem_cons_succ, List.setIfInBounds_toArray, List.set_cons_zero, List.set_cons_succ]
    refine wpAnyH_take (i := 4) (oi := _) (v := ?vb5) rfl (by kernel_rfl) (by kernel_rfl) (by kernel_rfl) (fun _ _ _ h => h) (Or.inl ⟨by rfl, ?hyb5⟩) (by assumption) ?restb5
    case hyb5 => (intro w hSw; (try dsimp only at hSw); go_simp; all_goals with_reducible rfl)
    try simp only [Act.put, List.getElem_toArray, List.getElem_cons_zero, List.getElem_cons_succ, List.setIfInBounds_toArray, List.set_cons_zero, List.set_cons_succ]
    refine wpAnyH_take (i := 5) (oi := _) (v := ?vb6) rfl (by kernel_rfl) (by kernel_rfl) (by kernel_rfl) (fun _ _ _ h => h) (Or.inl ⟨by rfl, ?hyb6⟩) (by assumption) ?restb6
    case hyb6 => (intro w hSw; (try dsimp only at hSw); go_simp; all_goals with_reducible rfl)
    try simp only [Act.put, List.getElem_toArray, List.getElem_cons_zero, List.getElem_cons_succ, List.setIfInBounds_toArray, List.set_cons_zero, List.set_cons_succ]
    refine wpAnyH_take (i := 6) (oi := _) (v := ?vb7) rfl (by kernel_rfl) (by kernel_rfl) (by kernel_rfl) (fun _ _ _ h => h) (Or.inl ⟨by rfl, ?hyb7⟩) (by assumption) ?restb7
    case hyb7 => (intro w hSw; (try dsimp only at hSw); go_simp; all_goals with_reducible rfl)
    try simp only [Act.put, List.getElem_toArray, List.getElem_cons_zero, List.getElem_cons_succ, List.setIfInBounds_toArray, List.set_cons_zero, List.set_cons_succ]
    refine wpAnyH_take (i := 7) (oi := _) (v := ?vb8) rfl (by kernel_rfl) (by kernel_rfl) (by kernel_rfl) (fun _ _ _ h => h) (Or.inl ⟨by rfl, ?hyb8⟩) (by assumption) ?restb8
    case hyb8 => (intro w hSw; (try dsimp only at hSw); go_simp; all_goals with_reducible rfl)
    try simp only [Act.put, List.getElem_toArray, List.getElem_cons_zero, List.getElem_cons_succ, List.setIfInBounds_toArray, List.set_cons_zero, List.set_cons_succ]
    refine wpAnyH_take (i := 8) (oi := _) (v := ?vb9) rfl (by kernel_rfl) (by kernel_rfl) (by kernel_rfl) (fun _ _ _ h => h) (Or.inl ⟨by rfl, ?hyb9⟩) (by assumption) ?restb9
    case hyb9 => (intro w hSw; (try dsimp only at hSw); go_simp; all_goals with_reducible rfl)
    try simp only [Act.put, List.getElem_toArray, List.getElem_cons_zero, List.getElem_cons_succ, List.setIfInBounds_toArray, List.set_cons_zero, List.set_cons_succ]
    refine wpAnyH_take (i := 9) (oi := _) (v := ?vb10) rfl (by kernel_rfl) (by kernel_rfl) (by kernel_rfl) (fun _ _ _ h => h) (Or.inl ⟨by rfl, ?hyb10⟩) (by assumption) ?restb10
    case hyb10 => (intro w hSw; (try dsimp only at hSw); go_simp; all_goals with_reducible rfl)
    try simp only [Act.put, List.getElem_toArray, List.getElem_cons_zero, List.getElem_cons_succ, List.setIfInBounds_toArray, List.set_cons_zero, List.set_cons_succ]
    refine wpAnyH_take (i := 10) (oi := _) (v := ?vb11) rfl (by kernel_rfl) (by kernel_rfl) (by kernel_rfl) (fun _ _ _ h => h) (Or.inl ⟨by rfl, ?hyb11⟩) (by assumption) ?restb11
    case hyb11 => (intro w hSw; (try dsimp only at hSw); go_simp; all_goals with_reducible rfl)
    try simp only [Act.put, List.getElem_toArray, List.getElem_cons_zero, List.getElem_cons_succ, List.setIfInBounds_toArray, List.set_cons_zero, List.set_cons_succ]
    refine wpAnyH_take (i := 12) (oi := _) (v := ?vb12) rfl (by kernel_rfl) (by kernel_rfl) (by kernel_rfl) (fun _ _ _ h => h) (Or.inl ⟨by rfl, ?hyb12⟩) (by assumption) ?restb12
    case hyb12 => (intro w hSw; (try dsimp only at hSw); go_simp; all_goals with_reducible rfl)
    try simp only [Act.put, List.getElem_toArray, List.getElem_cons_zero, List.getElem_cons_succ, List.setIfInBounds_toArray, List.set_cons_zero, List.set_cons_succ]
    refine wpAnyH_ready (rs := [11, 13]) (by kernel_rfl) (by simp) ?_
    refine AllReadyH.cons (o := _) rfl (fun K hK => ?_) ?_
    · have t0 := (F.out.1.at k _ HV.out).1
      go_simp
      clear t0
      refine hK.out _ _ ?_ (fun hHeldb13 => ?_)
      · (try dsimp only); exact F.out.1.ten.2.2.2.2.2.2.2.2.1
      clear hK K hHeldb
      try simp only [Act.put, List.getElem_toArray, List.getElem_cons_zero, List.getElem_cons_succ, List.setIfInBounds_toArray, List.set_cons_zero, List.set_cons_succ]
      refine wpAnyH_ready (rs := [13]) (by kernel_rfl) (by simp) ?_
      refine AllReadyH.cons (o := _) rfl (fun K hK => ?_) AllReadyH.nil
      go_simp
      obtain ⟨ub, hu⟩ : ∃ u, (W1.alloc (.cells #[ptr b] 100)).drew = u := ⟨_, rfl⟩
      have hbu : Below W1.drew.heap.size W1.drew ub := by rw [← hu]; exact below_drew_alloc W1 _
      obtain ⟨nb, hnb⟩ : ∃ nb, W1.heap.size = nb := ⟨_, rfl⟩
      have hrd : Rd encQ 1 ub (some ⟨nb, 0, none⟩) [b] := by rw [← hu, ← hnb]; exact (rd_one encQ 1 W1 b 100 _ rfl _ rfl).drew
      have Fb := Lib.hid (And.intro (F.out.1.rest hbu) (And.intro (F.out.2.1.rest hbu) (And.intro (F.out.2.2.1.rest hbu) (And.intro (F.out.2.2.2.trans (Bel.of hbu F.out.1.bp_size)) hrd))))
      rw [hu]
      try rw [hnb]
      have HNB := Lib.hid hnb
      have HSB := Lib.hid (show W1.heap.size ≤ ub.heap.size from hbu.size)
      clear hu hbu hrd hnb
      refine hK.out _ _ ?_ (fun hHeldb14 => ?_)
      · (try dsimp only); exact Fb.out.1.ten.2.2.2.2.2.2.2.2.1
      clear hK K hHeldb13
      try simp only [Act.put, List.getElem_toArray, List.getElem_cons_zero, List.getElem_cons_succ, List.setIfInBounds_toArray, List.set_cons_zero, List.set_cons_succ]
      refine wpAnyH_ready (rs := [14]) (by kernel_rfl) (by simp) ?_
      refine AllReadyH.cons (o := _) rfl (fun K hK => ?_) AllReadyH.nil
      refine step_append_typed lenQ oneQ rfl (.tmp 51) (.tmp 53) 99 rfl base 100 (.pointer none) 8 Try.underlying99 info100 rfl (by decide) (by decide) v1 l1 (by simp [Act.eval, Act.put]) Fb.out.2.1 ⟨nb, 0, none⟩ 1 1 [b] (by simp [Act.eval, Act.put]) rfl (by decide) Fb.out.2.2.2.2 (by have := HQ2.out.2.2.2.2.2.2.2.2.2.2.2; omega) Fb.out.1.bp_size ?_
      intro g2 cap2 uba hA hB hL
      have hC := Fb.out.1.keptRow Fb.out.2.1 HQ2.out.2.2.2.2.1 hB
      have hD : EnAt uba b (newE x) := (hB.block _ (blk_lt Fb.out.2.2.1) (fun e => notRow Fb.out.2.1 Fb.out.2.2.1 e.symm)).trans Fb.out.2.2.1
      have Fba := Lib.hid (And.intro hC (And.intro hA (And.intro hD (And.intro (show Bel base w uba from Fb.out.2.2.2.1.trans (Fb.out.1.belowRow Fb.out.2.1 hB)) (show v1.ownBlock = some g2 ∨ b ≤ g2 from hL.elim Or.inl (fun e => Or.inr (by have h7 := HQ2.out.2.2.2.2.2.2.2.2.2.2.1; have h8 := HSB.out; omega)))))))
      clear hA hB hC hD hL
      refine hK.out _ _ ?_ (fun hHeldb15 => ?_)
      · (try dsimp only); exact Fba.out.1.ten.2.2.2.2.2.2.2.2.1
      clear hK K hHeldb14
      try simp only [Act.put, List.getElem_toArray, List.getElem_cons_zero, List.getElem_cons_succ, List.setIfInBounds_toArray, List.set_cons_zero, List.set_cons_succ]
      refine wpAnyH_take (i := 15) (oi := _) (v := ?vb16) rfl (by kernel_rfl) (by kernel_rfl) (by kernel_rfl) (fun _ _ _ h => h) (Or.inl ⟨by rfl, ?hyb16⟩) (by assumption) ?restb16
      case hyb16 => (intro w hSw; (try dsimp only at hSw); go_simp; all_goals with_reducible rfl)
      try simp only [Act.put, List.getElem_toArray, List.getElem_cons_zero, List.getElem_cons_succ, List.setIfInBounds_toArray, List.set_cons_zero, List.set_cons_succ]
      refine wpAnyH_ready (rs := [16]) (by kernel_rfl) (by simp) ?_
      refine AllReadyH.cons (o := _) rfl (fun K hK => ?_) AllReadyH.nil
      have t0 := (Fba.out.1.at k _ HV.out).1
      have t1 := (Fba.out.1.at k _ HV.out).2
      go_simp
      clear t0 t1
      have hz := Fba.out.1.close (v := .slice (some ⟨g2, 0, none⟩) (l1.length + 1) cap2) (l := l1 ++ [b]) (es := es1 ++ [newE x]) (List.getElem?_eq_some_iff.1 HQ2.out.2.2.2.2.2.2.2.1).1 Fba.out.2.1 (fun j u a b' => Fba.out.2.1.apt_new (HQ2.out.2.2.2.2.1 j u a b') (Fba.out.2.2.2.2.elim Or.inl (fun h => Or.inr (fun y hy e => by have := HQ2.out.2.2.2.1 j u a b' y hy; omega)))) (by simp [HQ2.out.2.2.2.2.2.2.1]) (fun j q f a b' => (snoc_at HQ2.out.2.2.2.2.2.2.1 a b').elim (fun h => Fba.out.1.ent _ _ _ _ _ _ HQ2.out.2.2.2.2.2.2.2.1 HQ2.out.2.2.2.2.2.2.2.2.1 h.1 h.2) (fun h => by rw [h.1, h.2]; exact Fba.out.2.2.1)) (by rw [List.nodup_append]; exact ⟨HQ2.out.2.2.2.2.2.1, by simp, fun a ha d hd => by simp at hd; subst hd; exact HQ2.out.1 a ha⟩) (fun j l' q a b' d => by rcases List.mem_append.1 d with d | d; exact useFar Fba.out.1 HQ2.out.2.2.2.2.2.2.2.1 b' (fun e => a e.symm) d; simp at d; subst d; exact HQ2.out.2.1 j l' b') (fun q d => by rcases List.mem_append.1 d with d | d; exact Fba.out.1.bp _ _ _ HQ2.out.2.2.2.2.2.2.2.1 d; simp at d; subst d; exact HQ2.out.2.2.1)
      have HFbas := Lib.hid (And.intro hz.1 (Fba.out.2.2.2.1.trans (Fba.out.1.below Fba.out.1.pbc hz.2)))
      have HZbas := Lib.hid (show (uba.setCell ⟨bc, k, none⟩ (.slice (some ⟨g2, 0, none⟩) (l1.length + 1) cap2)).cell? ⟨bs, 8, none⟩ = some (.slice (some ⟨bc, 0, none⟩) sv1.length sv1.length) from by have := hz.1.ten.2.2.2.2.2.2.2.2.1; rw [List.length_set] at this; exact this)
      clear hz
      refine hK.out _ _ ?_ (fun hHeldb17 => ?_)
      · (try dsimp only); exact HZbas.out
      clear hK K hHeldb15
      try simp only [Act.put, List.getElem_toArray, List.getElem_cons_zero, List.getElem_cons_succ, List.setIfInBounds_toArray, List.set_cons_zero, List.set_cons_succ]
      refine wpAnyH_done (by kernel_rfl) ?_ _
      go_wp2_with fail
      go_ret
      refine ⟨b, sv1.set k (.slice (some ⟨g2, 0, none⟩) (l1.length + 1) cap2), rfl, ?_, HFbas.out.2, by have := HN.out.2.2.2.1; have := HN.out.2.2.2.2; omega⟩
      have h9 := HFbas.out.1
      simp only [List.set_set] at h9
      unfold entA
      rw [HN.out.1, HN.out.2.1, HN.out.2.2.1, ← HQ2.out.2.2.2.2.2.2.2.2.2.1]
      exact h9
    refine AllReadyH.cons (o := _) rfl (fun K hK => ?_) AllReadyH.nil
    go_simp
    obtain ⟨ub, hu⟩ : ∃ u, (W1.alloc (.cells #[ptr b] 100)).drew = u := ⟨_, rfl⟩
    have hbu : Below W1.drew.heap.size W1.drew ub := by rw [← hu]; exact below_drew_alloc W1 _
    obtain ⟨nb, hnb⟩ : ∃ nb, W1.heap.size = nb := ⟨_, rfl⟩
    have hrd : Rd encQ 1 ub (some ⟨nb, 0, none⟩) [b] := by rw [← hu, ← hnb]; exact (rd_one encQ 1 W1 b 100 _ rfl _ rfl).drew
    have Fb := Lib.hid (And.intro (F.out.1.rest hbu) (And.intro (F.out.2.1.rest hbu) (And.intro (F.out.2.2.1.rest hbu) (And.intro (F.out.2.2.2.trans (Bel.of hbu F.out.1.bp_size)) hrd))))
    rw [hu]
    try rw [hnb]
    have HNB := Lib.hid hnb
    have HSB := Lib.hid (show W1.heap.size ≤ ub.heap.size from hbu.size)
    clear hu hbu hrd hnb
    refine hK.out _ _ ?_ (fun hHeldb18 => ?_)
    · (try dsimp only); exact Fb.out.1.ten.2.2.2.2.2.2.2.2.1
    clear hK K hHeldb
    try simp only [Act.put, List.getElem_toArray, List.getElem_cons_zero, List.getElem_cons_succ, List.setIfInBounds_toArray, List.set_cons_zero, List.set_cons_succ]
    refine wpAnyH_ready (rs := [11]) (by kernel_rfl) (by simp) ?_
    refine AllReadyH.cons (o := _) rfl (fun K hK => ?_) AllReadyH.nil
    have t0 := (Fb.out.1.at k _ HV.out).1
    go_simp
    clear t0
    refine hK.out _ _ ?_ (fun hHeldb19 => ?_)
    · (try dsimp only); exact Fb.out.1.ten.2.2.2.2.2.2.2.2.1
    clear hK K hHeldb18
    try simp only [Act.put, List.getElem_toArray, List.getElem_cons_zero, List.getElem_cons_succ, List.setIfInBounds_toArray, List.set_cons_zero, List.set_cons_succ]
    refine wpAnyH_ready (rs := [14]) (by kernel_rfl) (by simp) ?_
    refine AllReadyH.cons (o := _) rfl (fun K hK => ?_) AllReadyH.nil
    refine step_append_typed lenQ oneQ rfl (.tmp 51) (.tmp 53) 99 rfl base 100 (.pointer none) 8 Try.underlying99 info100 rfl (by decide) (by decide) v1 l1 (by simp [Act.eval, Act.put]) Fb.out.2.1 ⟨nb, 0, none⟩ 1 1 [b] (by simp [Act.eval, Act.put]) rfl (by decide) Fb.out.2.2.2.2 (by have := HQ2.out.2.2.2.2.2.2.2.2.2.2.2; omega) Fb.out.1.bp_size ?_
    intro g2 cap2 uba hA hB hL
    have hC := Fb.out.1.keptRow Fb.out.2.1 HQ2.out.2.2.2.2.1 hB
    have hD : EnAt uba b (newE x) := (hB.block _ (blk_lt Fb.out.2.2.1) (fun e => notRow Fb.out.2.1 Fb.out.2.2.1 e.symm)).trans Fb.out.2.2.1
    have Fba := Lib.hid (And.intro hC (And.intro hA (And.intro hD (And.intro (show Bel base w uba from Fb.out.2.2.2.1.trans (Fb.out.1.belowRow Fb.out.2.1 hB)) (show v1.ownBlock = some g2 ∨ b ≤ g2 from hL.elim Or.inl (fun e => Or.inr (by have h7 := HQ2.out.2.2.2.2.2.2.2.2.2.2.1; have h8 := HSB.out; omega)))))))
    clear hA hB hC hD hL
    refine hK.out _ _ ?_ (fun hHeldb20 => ?_)
    · (try dsimp only); exact Fba.out.1.ten.2.2.2.2.2.2.2.2.1
    clear hK K hHeldb19
    try simp only [Act.put, List.getElem_toArray, List.getElem_cons_zero, List.getElem_cons_succ, List.setIfInBounds_toArray, List.set_cons_zero, List.set_cons_succ]
    refine wpAnyH_take (i := 15) (oi := _) (v := ?vb21) rfl (by kernel_rfl) (by kernel_rfl) (by kernel_rfl) (fun _ _ _ h => h) (Or.inl ⟨by rfl, ?hyb21⟩) (by assumption) ?restb21
    case hyb21 => (intro w hSw; (try dsimp only at hSw); go_simp; all_goals with_reducible rfl)
    try simp only [Act.put, List.getElem_toArray, List.getElem_cons_zero, List.getElem_cons_succ, List.setIfInBounds_toArray, List.set_cons_zero, List.set_cons_succ]
    refine wpAnyH_ready (rs := [16]) (by kernel_rfl) (by simp) ?_
    refine AllReadyH.cons (o := _) rfl (fun K hK => ?_) AllReadyH.nil
    have t0 := (Fba.out.1.at k _ HV.out).1
    have t1 := (Fba.out.1.at k _ HV.out).2
    go_simp
    clear t0 t1
    have hz := Fba.out.1.close (v := .slice (some ⟨g2, 0, none⟩) (l1.length + 1) cap2) (l := l1 ++ [b]) (es := es1 ++ [newE x]) (List.getElem?_eq_some_iff.1 HQ2.out.2.2.2.2.2.2.2.1).1 Fba.out.2.1 (fun j u a b' => Fba.out.2.1.apt_new (HQ2.out.2.2.2.2.1 j u a b') (Fba.out.2.2.2.2.elim Or.inl (fun h => Or.inr (fun y hy e => by have := HQ2.out.2.2.2.1 j u a b' y hy; omega)))) (by simp [HQ2.out.2.2.2.2.2.2.1]) (fun j q f a b' => (snoc_at HQ2.out.2.2.2.2.2.2.1 a b').elim (fun h => Fba.out.1.ent _ _ _ _ _ _ HQ2.out.2.2.2.2.2.2.2.1 HQ2.out.2.2.2.2.2.2.2.2.1 h.1 h.2) (fun h => by rw [h.1, h.2]; exact Fba.out.2.2.1)) (by rw [List.nodup_append]; exact ⟨HQ2.out.2.2.2.2.2.1, by simp, fun a ha d hd => by simp at hd; subst hd; exact HQ2.out.1 a ha⟩) (fun j l' q a b' d => by rcases List.mem_append.1 d with d | d; exact useFar Fba.out.1 HQ2.out.2.2.2.2.2.2.2.1 b' (fun e => a e.symm) d; simp at d; subst d; exact HQ2.out.2.1 j l' b') (fun q d => by rcases List.mem_append.1 d with d | d; exact Fba.out.1.bp _ _ _ HQ2.out.2.2.2.2.2.2.2.1 d; simp at d; subst d; exact HQ2.out.2.2.1)
    have HFbas := Lib.hid (And.intro hz.1 (Fba.out.2.2.2.1.trans (Fba.out.1.below Fba.out.1.pbc hz.2)))
    have HZbas := Lib.hid (show (uba.setCell ⟨bc, k, none⟩ (.slice (some ⟨g2, 0, none⟩) (l1.length + 1) cap2)).cell? ⟨bs, 8, none⟩ = some (.slice (some ⟨bc, 0, none⟩) sv1.length sv1.length) from by have := hz.1.ten.2.2.2.2.2.2.2.2.1; rw [List.length_set] at this; exact this)
    clear hz
    refine hK.out _ _ ?_ (fun hHeldb22 => ?_)
    · (try dsimp only); exact HZbas.out
    clear hK K hHeldb20
    try simp only [Act.put, List.getElem_toArray, List.getElem_cons_zero, List.getElem_cons_succ, List.setIfInBounds_toArray, List.set_cons_zero, List.set_cons_succ]
    refine wpAnyH_done (by kernel_rfl) ?_ _
    go_wp2_with fail
    go_ret
    refine ⟨b, sv1.set k (.slice (some ⟨g2, 0, none⟩) (l1.length + 1) cap2), rfl, ?_, HFbas.out.2, by have := HN.out.2.2.2.1; have := HN.out.2.2.2.2; omega⟩
    have h9 := HFbas.out.1
    simp only [List.set_set] at h9
    unfold entA
    rw [HN.out.1, HN.out.2.1, HN.out.2.2.1, ← HQ2.out.2.2.2.2.2.2.2.2.2.1]
    exact h9
end Go.Proofs.Ytggidakiflnhhaa
