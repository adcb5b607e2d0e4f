import Derived.Test.YtggidakiflnhhaaI
namespace Go.Proofs.Ytggidakiflnhhaa
open Go.RowKit
set_option maxHeartbeats 8000000
set_option maxRecDepth 100000
set_option linter.unusedSimpArgs false
set_option linter.unusedVariables false

theorem step_append_typed {α : Type} {P : Program} {enc : α → List Value} {sz : Nat} (hs : ∀ x, (enc x).length = sz) (h1 : ∀ x, ∀ u ∈ enc x, u.oneCell' = true)
    {w : World} {ops : Array Oper} {o : Oper} {a : Act} {K : Act → World → Prop} {Q : Exit → Act → World → Prop} {E : Prop} (hgd : o.guard = none) (s x : Operand) (t : TypeId)
    (ho : o.op = .call { callee := .builtin .append, args := #[s, x], argTypes := #[t, t] })
    (base : Nat) (e : TypeId) (z : Value) (bytes : Nat) (ht : P.underlying t = some (.slice e)) (hinfo : (P.info? e).map (fun i => (i.zero, i.size, i.bytes)) = some (some z, sz, bytes))
    (hzs : z.cells.size = sz) (hsz : 0 < sz) (hb0 : 0 < bytes)
    (v : Value) (xs : List α) (hv : a.eval s = v) (hown : Own enc sz e w base v xs)
    (ad : Addr) (m c : Nat) (ys : List α) (hx : a.eval x = .slice (some ad) m c) (hm : ys.length = m) (hm0 : 0 < m) (hr : Rd enc sz w (some ad) ys)
    (hbytes : (xs.length + m) * bytes ≤ 140737488355328) (hbase : base ≤ w.heap.size)
    (h : ∀ g cap w', Own enc sz e w' base (.slice (some ⟨g, 0, none⟩) (xs.length + m) cap) (xs ++ ys) → w.grownBy w' v.ownBlock → (v.ownBlock = some g ∨ g = w.heap.size) → K (a.put o.dst (.slice (some ⟨g, 0, none⟩) (xs.length + m) cap)) w') :
    if Region.wanted o (yielded ops a.tmps) = true then Oper.wp P o a w K Q else E := by
  subst hm
  obtain ⟨i0, hi, hz0, hz1, hz2⟩ := info_parts hinfo
  refine step_append_lies w hgd s x t ho base e i0 z sz bytes ht hi hz0 hz1 hz2 hzs hsz v xs.length (xs.flatMap enc) hv hown ad ys.length c (ys.flatMap enc) hx (flat_length hs ys) (hr.news hs)
    (fun u hu => by obtain ⟨y, _, hy⟩ := List.mem_flatMap.1 hu; exact h1 y u hy) hm0 ?_ hbytes hbase _ rfl ?_
  · have : xs.length + ys.length ≤ (xs.length + ys.length) * bytes := Nat.le_mul_of_pos_right _ hb0
    simp only [maxLen]
    omega
  · intro g cap w' hown' hg h5 _
    refine h g cap w' ?_ hg h5
    unfold Own
    rw [List.length_append, List.flatMap_append]
    exact hown'


theorem filter_out {l : List Nat} (hn : l.Nodup) {i p : Nat} (hi : l[i]? = some p) : l.filter (fun x => !decide (x = p)) = l.eraseIdx i := by
  induction l generalizing i with
  | nil => simp at hi
  | cons x l ih =>
    rw [List.nodup_cons] at hn
    cases i with
    | zero =>
      have e : x = p := by simpa using hi
      subst e
      rw [List.filter_cons]
      simp only [decide_true, Bool.not_true, Bool.false_eq_true, if_false, List.eraseIdx_cons_zero]
      rw [List.filter_eq_self]
      intro a ha
      have : a ≠ x := fun e => hn.1 (e ▸ ha)
      simp [this]
    | succ i =>
      have hi' : l[i]? = some p := by simpa using hi
      have : x ≠ p := fun e => hn.1 (e ▸ List.mem_of_getElem? hi')
      rw [List.filter_cons]
      simp only [this, decide_false, Bool.not_false, if_true, List.eraseIdx_cons_succ]
      rw [ih hn.2 hi']
theorem nodup_use {l : List Nat} (hn : l.Nodup) {i p : Nat} (hi : l[i]? = some p) : (l.eraseIdx i ++ [p]).Nodup := by
  rw [← filter_out hn hi, List.nodup_append]
  refine ⟨hn.filter _, by simp, fun a ha b hb => ?_⟩
  simp at ha hb
  subst hb
  exact ha.2
/-- the list behind the use of an element -/
def useL {α : Type} (l : List α) (i : Nat) (x : α) : List α := l.eraseIdx i ++ [x]
theorem useL_len {α : Type} (l : List α) (i : Nat) (x : α) (h : i < l.length) : (useL l i x).length = l.length := by
  unfold useL
  rw [List.length_append, List.length_eraseIdx_of_lt h]
  simp; omega
theorem useL_at {l : List Nat} {es : List En} {i p : Nat} {e : En} (hle : es.length = l.length) (hi : l[i]? = some p) (he : es[i]? = some e) (j q : Nat) (f : En) (h1 : (useL l i p)[j]? = some q) (h2 : (useL es i e)[j]? = some f) : ∃ j' : Nat, l[j']? = some q ∧ es[j']? = some f := by
  have hil : i < l.length := (List.getElem?_eq_some_iff.1 hi).1
  unfold useL at h1 h2
  rw [List.getElem?_append] at h1 h2
  rw [List.length_eraseIdx_of_lt hil] at h1
  rw [List.length_eraseIdx_of_lt (by omega), hle] at h2
  split at h1
  · rename_i hlt
    rw [if_pos hlt] at h2
    rw [List.getElem?_eraseIdx] at h1 h2
    split at h1
    · rename_i h; rw [if_pos h] at h2; exact ⟨j, h1, h2⟩
    · rename_i h; rw [if_neg h] at h2; exact ⟨j + 1, h1, h2⟩
  · rename_i hlt
    rw [if_neg hlt] at h2
    have hj : j - (l.length - 1) = 0 := by
      have := (List.getElem?_eq_some_iff.1 h1).1
      simp at this; omega
    rw [hj] at h1 h2
    have e1 : p = q := by simpa using h1
    have e2 : e = f := by simpa using h2
    subst e1 e2
    exact ⟨i, hi, he⟩
theorem Apt.len {A : Option Addr} {n c : Nat} {u : Value} (h : Apt (.slice A n c) u) (m : Nat) : Apt (.slice A m c) u := fun k hk => h k (by cases A <;> simp [Value.ownBlock] at hk ⊢; exact hk)
theorem rd_far {w w' : World} {nb p g : Nat} (h : Rd encQ 1 w (some ⟨nb, 0, none⟩) [p]) (hg : w.grownBy w' (some g)) (hne : nb ≠ g) : Rd encQ 1 w' (some ⟨nb, 0, none⟩) [p] := by
  refine ⟨h.small, fun k hk => ?_⟩
  obtain ⟨a, ha, hc⟩ := h.cell k hk
  refine ⟨a, ha, fun j v hv => ?_⟩
  have h1 := hc j v hv
  have hb : (a.add (k * 1 + j)).block = nb := by
    obtain rfl := Option.some.inj ha
    unfold Addr.add
    split <;> rfl
  rw [World.cell?_of_block (hg.block _ (World.block_lt_of_cell? _ _ h1) (by rw [hb]; exact fun e => hne (Option.some.inj e)))]
  exact h1
theorem aptCase {g g2 n0 n c : Nat} {u : Value} (h : g = g2 ∨ n0 ≤ g2) (hu : ∀ b, u.ownBlock = some b → b < n0) : (Value.slice (some ⟨g, 0, none⟩) n c).ownBlock = some g2 ∨ ∀ b, u.ownBlock = some b → b ≠ g2 := by
  rcases h with h | h
  · subst h; exact Or.inl rfl
  · exact Or.inr (fun b hb e => by have := hu b hb; omega)
theorem below_drew_alloc (w : World) (o : Obj) : Below w.drew.heap.size w.drew (w.alloc o).drew := by
  have h := (Below.refl w.heap.size w).alloc (Nat.le_refl _) o
  exact ⟨h.os, h.tape, h.output, h.size, h.block⟩
theorem useFar {c : Cf} {bs bm bc base : Nat} {hole : Option Nat} {sv : List Value} {vv : Value} {ps : List (List Nat)} {A : AS} {w : World} (h : Sys c bs bm bc base hole sv vv ps A w) {k j q : Nat} {l l' : List Nat} (hk : ps[k]? = some l) (hj : ps[j]? = some l') (hne : k ≠ j) (hq : q ∈ l) : q ∉ l' := by
  intro hq'
  obtain ⟨x, hx, e1⟩ := List.mem_iff_getElem.1 hq
  obtain ⟨y, hy, e2⟩ := List.mem_iff_getElem.1 hq'
  exact hne (h.inj k l x j l' y q hk (by rw [← e1]; exact List.getElem?_eq_getElem hx) hj (by rw [← e2]; exact List.getElem?_eq_getElem hy)).1
theorem noTab {c : Cf} {bs bm bc base : Nat} {hole : Option Nat} {sv : List Value} {vv : Value} {ps : List (List Nat)} {A : AS} {w : World} (h : Sys c bs bm bc base hole sv vv ps A w) {b : Nat} {cs : Array Value} (hb : w.heap[b]? = some (.cells cs 100 (0, 0))) (e : b = bc) : False := by
  subst e
  rw [h.tab] at hb
  simp at hb
def UsPost (c : Cf) (bs bm bc base : Nat) (vv : Value) (ps : List (List Nat)) (A : AS) (k i : Nat) (l : List Nat) (p : Nat) (es : List En) (e : En) (w : World) (x : Ending) (w' : World) : Prop :=
  x = .returned (.tuple #[]) ∧ (∃ sv, Sys c bs bm bc base none sv vv (ps.set k (useL l i p)) { A with cs := A.cs.set k (useL es i e) } w') ∧ Bel base w w'
theorem Own.apt_new {w' : World} {base g n c : Nat} {l : List Nat} (h : Own encQ 1 100 w' base (.slice (some ⟨g, 0, none⟩) n c) l) {u v : Value} (hv : Apt v u) (hl : v.ownBlock = some g ∨ ∀ b, u.ownBlock = some b → b ≠ g) : Apt (.slice (some ⟨g, 0, none⟩) n c) u := by
  intro b hb e
  have hb : g = b := by simpa [Value.ownBlock] using hb
  subst hb
  rcases hl with hl | hl
  · exact hv _ hl e
  · exact hl _ e rfl
theorem use_calls {c : Cf} {bs bm bc base : Nat} {sv : List Value} {vv : Value} {ps : List (List Nat)} {A : AS} {w : World} (h : Sys c bs bm bc base none sv vv ps A w)
    {k i : Nat} {l : List Nat} {p : Nat} {es : List En} {e : En} (hk : ps[k]? = some l) (hi : l[i]? = some p) (hc : A.cs[k]? = some es) (he : es[i]? = some e) (hsm : l.length ≤ 1000) :
    Calls Try.prog 58 #[ptr bs, .int .i64 (k : Int), ptr p] w (UsPost c bs bm bc base vv ps A k i l p es e w) := by
  obtain ⟨v, hv⟩ := h.sv_at hk
  have hn := h.nodup hk
  have hle := h.le _ _ _ hk hc
  have hil : i < l.length := (List.getElem?_eq_some_iff.1 hi).1
  have hks2 : k < sv.length := (List.getElem?_eq_some_iff.1 hv).1
  have hks : (k : Int) < (sv.length : Int) := by omega
  obtain ⟨g, cp, rfl⟩ := (h.row k v l hv hk (by simp)).big (by omega)
  obtain ⟨W1, hW1⟩ : ∃ W1, w.alloc (.cells #[ptr p] 100) = W1 := ⟨_, rfl⟩
  have hb1 : Below w.heap.size w W1 := by rw [← hW1]; exact (Below.refl _ w).alloc (Nat.le_refl _) _
  have hbox : W1.heap[w.heap.size]? = some (.cells #[ptr p] 100 (0, 0)) := by rw [← hW1]; exact Go.heap_alloc_new w _
  obtain ⟨b0, hb0⟩ : ∃ b0, w.heap.size = b0 := ⟨_, rfl⟩
  have hgb : g ≠ b0 := by
    have := ((h.row k _ l hv hk (by simp)).blk g rfl).2.1
    omega
  have hlow1 : Bel base w W1 := Bel.of hb1 h.bp_size
  have hsz1 : w.heap.size ≤ W1.heap.size := hb1.size
  have h1 := h.rest hb1
  have hrow := h1.row k _ l hv hk (by simp)
  have ho1 := h1.open k
  have hapt : ∀ (j : Nat) (u : Value), sv[j]? = some u → j ≠ k → Apt (.slice (some ⟨g, 0, none⟩) l.length cp) u := fun j u a b => h.apt k j _ u hv a (fun e => b e.symm) (by simp) (by simp)
  have hown : ∀ (j : Nat) (u : Value), sv[j]? = some u → j ≠ k → ∀ b, u.ownBlock = some b → b < w.heap.size := fun j u a b x hx => by
    obtain ⟨l', hl'⟩ : ∃ l', ps[j]? = some l' := ⟨_, List.getElem?_eq_getElem (by rw [← h.ls]; exact (List.getElem?_eq_some_iff.1 a).1)⟩
    exact ((h.row j u l' a hl' (by simp)).blk x hx).2.1
  have hent : ∀ (j q : Nat) (f : En), (useL l i p)[j]? = some q → (useL es i e)[j]? = some f → ∃ j' : Nat, l[j']? = some q ∧ es[j']? = some f := useL_at hle hi he
  have hmem : ∀ q ∈ useL l i p, q ∈ l := fun q hq => by
    unfold useL at hq
    rcases List.mem_append.1 hq with hq | hq
    · exact List.mem_of_mem_eraseIdx hq
    · simp at hq; subst hq; exact List.mem_of_getElem? hi
  -- the call of DeleteFunc in a world in which the entries and the box are as they were
  have hdel : ∀ w2, Sys c bs bm bc base (some k) sv vv ps A w2 → Own encQ 1 100 w2 base (.slice (some ⟨g, 0, none⟩) l.length cp) l → w2.heap[b0]? = some (.cells #[ptr p] 100 (0, 0)) →
      Calls Try.prog 61 #[.slice (some ⟨g, 0, none⟩) l.length cp, .func (.func 66) #[] #[ptr b0]] w2 (fun x w3 => x = .returned (.slice (some ⟨g, 0, none⟩) (l.eraseIdx i).length cp) ∧ Own encQ 1 100 w3 base (.slice (some ⟨g, 0, none⟩) (l.eraseIdx i).length cp) (l.eraseIdx i) ∧ Sys c bs bm bc base (some k) sv vv ps A w3 ∧ w2.grownBy w3 (some g)) := fun w2 hs2 ho2 hx2 => by
    refine (deleteFunc_calls (fun x => decide (x = p)) 66 #[ptr b0] base g cp l w2 ho2 (by omega) (enters_of Try.func66 (by kernel_rfl) rfl) (fun j hj w3 hg => ?_)).mono ?_
    · have hs3 := hs2.keptRow ho2 hapt hg
      have hj2 : j < es.length := by omega
      have e1 := hs3.ent k l es j _ _ hk hc (List.getElem?_eq_getElem hj) (List.getElem?_eq_getElem hj2)
      have e2 := hs3.ent k l es i _ _ hk hc hi he
      exact isIt_calls l[j] p b0 es[j] e w3 e1 e2 ((hg.block _ (blk_lt hx2) (fun e => hgb (Option.some.inj e).symm)).trans hx2)
    · rintro x w3 ⟨a, b, d⟩
      rw [filter_out hn hi] at a b
      exact ⟨a, b, hs2.keptRow ho2 hapt d, d⟩
  have F := Lib.hid (And.intro (show Sys c bs bm bc base (some k) sv vv ps A W1.drew from ho1.rest (bb_drew (Below.refl _ _))) (And.intro (show Own encQ 1 100 W1.drew base (.slice (some ⟨g, 0, none⟩) l.length cp) l from hrow.rest (bb_drew (Below.refl _ _))) (And.intro (show W1.drew.heap[b0]? = some (.cells #[ptr p] 100 (0, 0)) from by rw [← hb0]; exact hbox) (show Bel base w W1.drew from hlow1.drew))))
  have HW := Lib.hid (And.intro hW1 hb0)
  have HD := Lib.hid hdel
  have HV := Lib.hid hv
  have hsize : (l.eraseIdx i).length + 1 = l.length := by rw [List.length_eraseIdx_of_lt hil]; omega
  have HQ := Lib.hid (And.intro hk (And.intro hc (And.intro hn (And.intro hle (And.intro hapt (And.intro hown (And.intro hent (And.intro hmem (And.intro h (And.intro hsize (And.intro hi (And.intro he (And.intro hsz1 hgb)))))))))))))
  clear h1 hrow ho1 hapt hown hent hmem hdel h hk hi hc he hn hle hb1 hbox hW1 hb0 hlow1 hsz1 hgb hv hsize
  go_enter Try.func58, Try.ntmps58
  go_upto_region 1 with fail
  rw [HW.out.1, HW.out.2]
  refine wp_region_held_drew (S := (fun w' => w'.cell? ⟨bs, 8, none⟩ = some (.slice (some ⟨bc, 0, none⟩) sv.length sv.length) ∧ w'.cell? ⟨b0, 0, none⟩ = some (ptr p))) (by kernel_rfl) ?_ (fun hHelda => ?_)
  · (try dsimp only); exact ⟨F.out.1.ten.2.2.2.2.2.2.2.2.1, by rw [cell_of_row _ _ _ _ _ _ F.out.2.2.1]; rfl⟩
  refine wpAnyH_take (i := 0) (oi := _) (v := ?va1) rfl (by kernel_rfl) (by kernel_rfl) (by kernel_rfl) (fun _ _ _ h => h) (Or.inl ⟨by rfl, ?hya1⟩) (by assumption) ?resta1
  case hya1 => (intro w hSw; (try dsimp only at hSw); go_simp; all_goals with_reducible rfl)
  try simp only [Act.put, List.getElem_toArray, List.getElem_cons_zero, List.getElem_cons_succ, List.setIfInBounds_toArray, List.set_cons_zero, List.set_cons_succ]
  refine wpAnyH_take (i := 1) (oi := _) (v := ?va2) rfl (by kernel_rfl) (by kernel_rfl) (by kernel_rfl) (fun _ _ _ h => h) (Or.inl ⟨by rfl, ?hya2⟩) (by assumption) ?resta2
  case hya2 => (intro w hSw; (try dsimp only at hSw); go_simp; all_goals with_reducible rfl)
  try simp only [Act.put, List.getElem_toArray, List.getElem_cons_zero, List.getElem_cons_succ, List.setIfInBounds_toArray, List.set_cons_zero, List.set_cons_succ]
  refine wpAnyH_take (i := 2) (oi := _) (v := ?va3) rfl (by kernel_rfl) (by kernel_rfl) (by kernel_rfl) (fun _ _ _ h => h) (Or.inl ⟨by rfl, ?hya3⟩) (by assumption) ?resta3
  case hya3 => (intro w hSw; (try dsimp only at hSw); go_simp; all_goals with_reducible rfl)
  try simp only [Act.put, List.getElem_toArray, List.getElem_cons_zero, List.getElem_cons_succ, List.setIfInBounds_toArray, List.set_cons_zero, List.set_cons_succ]
  refine wpAnyH_take (i := 3) (oi := _) (v := ?va4) rfl (by kernel_rfl) (by kernel_rfl) (by kernel_rfl) (fun _ _ _ h => h) (Or.inl ⟨by rfl, ?hya4⟩) (by assumption) ?resta4
  case hya4 => (intro w hSw; (try dsimp only at hSw); go_simp; all_goals with_reducible rfl)
  try simp only [Act.put, List.getElem_toArray, List.getElem_cons_zero, List.getElem_cons_succ, List.setIfInBounds_toArray, List.set_cons_zero, List.set_cons_succ]
  refine wpAnyH_take (i := 4) (oi := _) (v := ?va5) rfl (by kernel_rfl) (by kernel_rfl) (by kernel_rfl) (fun _ _ _ h => h) (Or.inl ⟨by rfl, ?hya5⟩) (by assumption) ?resta5
  case hya5 => (intro w hSw; (try dsimp only at hSw); go_simp; all_goals with_reducible rfl)
  try simp only [Act.put, List.getElem_toArray, List.getElem_cons_zero, List.getElem_cons_succ, List.setIfInBounds_toArray, List.set_cons_zero, List.set_cons_succ]
  refine wpAnyH_take (i := 5) (oi := _) (v := ?va6) rfl (by kernel_rfl) (by kernel_rfl) (by kernel_rfl) (fun _ _ _ h => h) (Or.inl ⟨by rfl, ?hya6⟩) (by assumption) ?resta6
  case hya6 => (intro w hSw; (try dsimp only at hSw); go_simp; all_goals with_reducible rfl)
  try simp only [Act.put, List.getElem_toArray, List.getElem_cons_zero, List.getElem_cons_succ, List.setIfInBounds_toArray, List.set_cons_zero, List.set_cons_succ]
  refine wpAnyH_take (i := 6) (oi := _) (v := ?va7) rfl (by kernel_rfl) (by kernel_rfl) (by kernel_rfl) (fun _ _ _ h => h) (Or.inl ⟨by rfl, ?hya7⟩) (by assumption) ?resta7
  case hya7 => (intro w hSw; (try dsimp only at hSw); go_simp; all_goals with_reducible rfl)
  try simp only [Act.put, List.getElem_toArray, List.getElem_cons_zero, List.getElem_cons_succ, List.setIfInBounds_toArray, List.set_cons_zero, List.set_cons_succ]
  refine wpAnyH_take (i := 7) (oi := _) (v := ?va8) rfl (by kernel_rfl) (by kernel_rfl) (by kernel_rfl) (fun _ _ _ h => h) (Or.inl ⟨by rfl, ?hya8⟩) (by assumption) ?resta8
  case hya8 => (intro w hSw; (try dsimp only at hSw); go_simp; all_goals with_reducible rfl)
  try simp only [Act.put, List.getElem_toArray, List.getElem_cons_zero, List.getElem_cons_succ, List.setIfInBounds_toArray, List.set_cons_zero, List.set_cons_succ]
  refine wpAnyH_take (i := 8) (oi := _) (v := ?va9) rfl (by kernel_rfl) (by kernel_rfl) (by kernel_rfl) (fun _ _ _ h => h) (Or.inl ⟨by rfl, ?hya9⟩) (by assumption) ?resta9
  case hya9 => (intro w hSw; (try dsimp only at hSw); go_simp; all_goals with_reducible rfl)
  try simp only [Act.put, List.getElem_toArray, List.getElem_cons_zero, List.getElem_cons_succ, List.setIfInBounds_toArray, List.set_cons_zero, List.set_cons_succ]
  refine wpAnyH_take (i := 9) (oi := _) (v := ?va10) rfl (by kernel_rfl) (by kernel_rfl) (by kernel_rfl) (fun _ _ _ h => h) (Or.inl ⟨by rfl, ?hya10⟩) (by assumption) ?resta10
  case hya10 => (intro w hSw; (try dsimp only at hSw); go_simp; all_goals with_reducible rfl)
  try simp only [Act.put, List.getElem_toArray, List.getElem_cons_zero, List.getElem_cons_succ, List.setIfInBounds_toArray, List.set_cons_zero, List.set_cons_succ]
  refine wpAnyH_take (i := 10) (oi := _) (v := ?va11) rfl (by kernel_rfl) (by kernel_rfl) (by kernel_rfl) (fun _ _ _ h => h) (Or.inl ⟨by rfl, ?hya11⟩) (by assumption) ?resta11
  case hya11 => (intro w hSw; (try dsimp only at hSw); go_simp; all_goals with_reducible rfl)
  try simp only [Act.put, List.getElem_toArray, List.getElem_cons_zero, List.getElem_cons_succ, List.setIfInBounds_toArray, List.set_cons_zero, List.set_cons_succ]
  refine wpAnyH_take (i := 12) (oi := _) (v := ?va12) rfl (by kernel_rfl) (by kernel_rfl) (by kernel_rfl) (fun _ _ _ h => h) (Or.inl ⟨by rfl, ?hya12⟩) (by assumption) ?resta12
  case hya12 => (intro w hSw; (try dsimp only at hSw); go_simp; all_goals with_reducible rfl)
  try simp only [Act.put, List.getElem_toArray, List.getElem_cons_zero, List.getElem_cons_succ, List.setIfInBounds_toArray, List.set_cons_zero, List.set_cons_succ]
  refine wpAnyH_take (i := 14) (oi := _) (v := ?va13) rfl (by kernel_rfl) (by kernel_rfl) (by kernel_rfl) (fun _ _ _ h => h) (Or.inl ⟨by rfl, ?hya13⟩) (by assumption) ?resta13
  case hya13 => (intro w hSw; (try dsimp only at hSw); go_simp; all_goals with_reducible rfl)
  try simp only [Act.put, List.getElem_toArray, List.getElem_cons_zero, List.getElem_cons_succ, List.setIfInBounds_toArray, List.set_cons_zero, List.set_cons_succ]
  refine wpAnyH_ready (rs := [11, 15]) (by kernel_rfl) (by simp) ?_
  refine AllReadyH.cons (o := _) rfl (fun K hK => ?_) ?_
  · have t0 := (F.out.1.at k _ HV.out).1
    go_simp
    clear t0
    refine hK.out _ _ ?_ (fun hHelda14 => ?_)
    · (try dsimp only); exact ⟨F.out.1.ten.2.2.2.2.2.2.2.2.1, by rw [cell_of_row _ _ _ _ _ _ F.out.2.2.1]; rfl⟩
    clear hK K hHelda
    try simp only [Act.put, List.getElem_toArray, List.getElem_cons_zero, List.getElem_cons_succ, List.setIfInBounds_toArray, List.set_cons_zero, List.set_cons_succ]
    refine wpAnyH_ready (rs := [13, 15]) (by kernel_rfl) (by simp) ?_
    refine AllReadyH.cons (o := _) rfl (fun K hK => ?_) ?_
    · go_simp
      (with_reducible refine (HD.out _ F.out.1 F.out.2.1 F.out.2.2.1).mono ?_)
      rintro y ud ⟨rfl, hA, hB, hC⟩
      have Fd := Lib.hid (And.intro hB (And.intro hA (And.intro (show ud.heap[b0]? = some (.cells #[ptr p] 100 (0, 0)) from (hC.block _ (blk_lt F.out.2.2.1) (fun e => HQ.out.2.2.2.2.2.2.2.2.2.2.2.2.2 (Option.some.inj e).symm)).trans F.out.2.2.1) (show Bel base w ud from F.out.2.2.2.trans (F.out.1.below (F.out.2.1.part rfl) hC)))))
      clear hA hB hC
      go_wp2_with fail
      refine hK.out _ _ ?_ (fun hHelda15 => ?_)
      · (try dsimp only); exact ⟨Fd.out.1.ten.2.2.2.2.2.2.2.2.1, by rw [cell_of_row _ _ _ _ _ _ Fd.out.2.2.1]; rfl⟩
      clear hK K hHelda14
      try simp only [Act.put, List.getElem_toArray, List.getElem_cons_zero, List.getElem_cons_succ, List.setIfInBounds_toArray, List.set_cons_zero, List.set_cons_succ]
      refine wpAnyH_ready (rs := [15]) (by kernel_rfl) (by simp) ?_
      refine AllReadyH.cons (o := _) rfl (fun K hK => ?_) AllReadyH.nil
      go_simp
      obtain ⟨udb, hu⟩ : ∃ u, (ud).alloc (.cells #[ptr p] 100) = u := ⟨_, rfl⟩
      have hbu : Below (ud).heap.size (ud) udb := by rw [← hu]; exact (Below.refl _ _).alloc (Nat.le_refl _) _
      obtain ⟨nb, hnb⟩ : ∃ nb, (ud).heap.size = nb := ⟨_, rfl⟩
      have hrd : Rd encQ 1 udb (some ⟨nb, 0, none⟩) [p] := by rw [← hu, ← hnb]; exact rd_one encQ 1 _ p 100 _ rfl _ rfl
      have hng : nb ≠ g := by have h8 := (Fd.out.2.1.blk g rfl).2.1; have h9 : g < (ud).heap.size := h8; omega
      have Fdb := Lib.hid (And.intro (Fd.out.1.rest hbu) (And.intro (Fd.out.2.1.rest hbu) (And.intro (show udb.heap[b0]? = some (.cells #[ptr p] 100 (0, 0)) from (hbu.block _ (blk_lt Fd.out.2.2.1)).trans Fd.out.2.2.1) (And.intro (Fd.out.2.2.2.trans (Bel.of hbu Fd.out.1.bp_size)) (And.intro hrd hng)))))
      rw [hu]
      try rw [hnb]
      have HNBdb := Lib.hid hnb
      clear hu hbu hrd hng hnb
      refine hK.out _ _ ?_ (fun hHelda16 => ?_)
      · (try dsimp only); exact ⟨Fdb.out.1.ten.2.2.2.2.2.2.2.2.1, by rw [cell_of_row _ _ _ _ _ _ Fdb.out.2.2.1]; rfl⟩
      clear hK K hHelda15
      try simp only [Act.put, List.getElem_toArray, List.getElem_cons_zero, List.getElem_cons_succ, List.setIfInBounds_toArray, List.set_cons_zero, List.set_cons_succ]
      refine wpAnyH_ready (rs := [16]) (by kernel_rfl) (by simp) ?_
      refine AllReadyH.cons (o := _) rfl (fun K hK => ?_) AllReadyH.nil
      refine step_append_typed lenQ oneQ rfl (.tmp 19) (.tmp 21) 99 rfl base 100 (.pointer none) 8 Try.underlying99 info100 rfl (by decide) (by decide) (.slice (some ⟨g, 0, none⟩) (l.eraseIdx i).length cp) (l.eraseIdx i) (by simp [Act.eval, Act.put]) Fdb.out.2.1 ⟨nb, 0, none⟩ 1 1 [p] (by simp [Act.eval, Act.put]) rfl (by decide) Fdb.out.2.2.2.2.1 (by have := HQ.out.2.2.2.2.2.2.2.2.2.1; omega) Fdb.out.1.bp_size ?_
      intro g2 cap2 udba hA hB hL
      have hC := Fdb.out.1.keptRow Fdb.out.2.1 (fun j u a b => (HQ.out.2.2.2.2.1 j u a b).len _) hB
      have Fdba := Lib.hid (And.intro hC (And.intro hA (And.intro (show udba.heap[b0]? = some (.cells #[ptr p] 100 (0, 0)) from (hB.block _ (blk_lt Fdb.out.2.2.1) (fun e => HQ.out.2.2.2.2.2.2.2.2.2.2.2.2.2 (Option.some.inj (show some b0 = some g from e)).symm)).trans Fdb.out.2.2.1) (And.intro (show Bel base w udba from Fdb.out.2.2.2.1.trans (Fdb.out.1.below (Fdb.out.2.1.part rfl) hB)) (show g = g2 ∨ w.heap.size ≤ g2 from hL.elim (fun e => Or.inl (Option.some.inj e)) (fun e => Or.inr (by have := Fdb.out.2.2.2.1.size; omega)))))))
      clear hA hB hC hL
      refine hK.out _ _ ?_ (fun hHelda17 => ?_)
      · (try dsimp only); exact ⟨Fdba.out.1.ten.2.2.2.2.2.2.2.2.1, by rw [cell_of_row _ _ _ _ _ _ Fdba.out.2.2.1]; rfl⟩
      clear hK K hHelda16
      try simp only [Act.put, List.getElem_toArray, List.getElem_cons_zero, List.getElem_cons_succ, List.setIfInBounds_toArray, List.set_cons_zero, List.set_cons_succ]
      refine wpAnyH_take (i := 17) (oi := _) (v := ?va18) rfl (by kernel_rfl) (by kernel_rfl) (by kernel_rfl) (fun _ _ _ h => h) (Or.inl ⟨by rfl, ?hya18⟩) (by assumption) ?resta18
      case hya18 => (intro w hSw; (try dsimp only at hSw); go_simp; all_goals with_reducible rfl)
      try simp only [Act.put, List.getElem_toArray, List.getElem_cons_zero, List.getElem_cons_succ, List.setIfInBounds_toArray, List.set_cons_zero, List.set_cons_succ]
      refine wpAnyH_ready (rs := [18]) (by kernel_rfl) (by simp) ?_
      refine AllReadyH.cons (o := _) rfl (fun K hK => ?_) AllReadyH.nil
      have t0 := (Fdba.out.1.at k _ HV.out).1
      have t1 := (Fdba.out.1.at k _ HV.out).2
      go_simp
      clear t0 t1
      have hz := Fdba.out.1.close (v := .slice (some ⟨g2, 0, none⟩) ((l.eraseIdx i).length + 1) cap2) (l := useL l i p) (es := useL es i e) (List.getElem?_eq_some_iff.1 HQ.out.1).1 Fdba.out.2.1 (fun j u a b => Fdba.out.2.1.apt_new (HQ.out.2.2.2.2.1 j u a b) (aptCase Fdba.out.2.2.2.2 (HQ.out.2.2.2.2.2.1 j u a b))) (by rw [useL_len _ _ _ (List.getElem?_eq_some_iff.1 HQ.out.2.2.2.2.2.2.2.2.2.2.1).1, useL_len _ _ _ (List.getElem?_eq_some_iff.1 HQ.out.2.2.2.2.2.2.2.2.2.2.2.1).1]; exact HQ.out.2.2.2.1) (fun j q f a b => by obtain ⟨j', x, y⟩ := HQ.out.2.2.2.2.2.2.1 j q f a b; exact Fdba.out.1.ent _ _ _ _ _ _ HQ.out.1 HQ.out.2.1 x y) (nodup_use HQ.out.2.2.1 HQ.out.2.2.2.2.2.2.2.2.2.2.1) (fun j l' q a b d => useFar Fdba.out.1 HQ.out.1 b (fun e => a e.symm) (HQ.out.2.2.2.2.2.2.2.1 q d)) (fun q d => Fdba.out.1.bp _ _ _ HQ.out.1 (HQ.out.2.2.2.2.2.2.2.1 q d))
      have HFdbas := Lib.hid (And.intro hz.1 (Fdba.out.2.2.2.1.trans (Fdba.out.1.below Fdba.out.1.pbc hz.2)))
      have HZdbas := Lib.hid (And.intro (show (udba.setCell ⟨bc, k, none⟩ (.slice (some ⟨g2, 0, none⟩) ((l.eraseIdx i).length + 1) cap2)).cell? ⟨bs, 8, none⟩ = some (.slice (some ⟨bc, 0, none⟩) sv.length sv.length) from by have := hz.1.ten.2.2.2.2.2.2.2.2.1; rw [List.length_set] at this; exact this) (show (udba.setCell ⟨bc, k, none⟩ (.slice (some ⟨g2, 0, none⟩) ((l.eraseIdx i).length + 1) cap2)).cell? ⟨b0, 0, none⟩ = some (ptr p) from by rw [cell_of_row _ _ _ _ _ _ ((hz.2.block _ (blk_lt Fdba.out.2.2.1) (fun e => noTab Fdba.out.1 Fdba.out.2.2.1 (Option.some.inj e))).trans Fdba.out.2.2.1)]; rfl))
      clear hz
      refine hK.out _ _ ?_ (fun hHelda19 => ?_)
      · (try dsimp only); exact ⟨HZdbas.out.1, HZdbas.out.2⟩
      clear hK K hHelda17
      try simp only [Act.put, List.getElem_toArray, List.getElem_cons_zero, List.getElem_cons_succ, List.setIfInBounds_toArray, List.set_cons_zero, List.set_cons_succ]
      refine wpAnyH_done (by kernel_rfl) ?_ _
      go_wp2_with fail
      (first | go_end0 | go_ret)
      exact ⟨rfl, ⟨_, HFdbas.out.1⟩, HFdbas.out.2⟩
    refine AllReadyH.cons (o := _) rfl (fun K hK => ?_) AllReadyH.nil
    go_simp
    obtain ⟨ub, hu⟩ : ∃ u, (W1.alloc (.cells #[ptr p] 100)).drew = u := ⟨_, rfl⟩
    have hbu : Below (W1.drew).heap.size (W1.drew) ub := by rw [← hu]; exact below_drew_alloc W1 _
    obtain ⟨nb, hnb⟩ : ∃ nb, (W1).heap.size = nb := ⟨_, rfl⟩
    have hrd : Rd encQ 1 ub (some ⟨nb, 0, none⟩) [p] := by rw [← hu, ← hnb]; exact (rd_one encQ 1 W1 p 100 _ rfl _ rfl).drew
    have hng : nb ≠ g := by have h8 := (F.out.2.1.blk g rfl).2.1; have h9 : g < (W1).heap.size := h8; omega
    have Fb := Lib.hid (And.intro (F.out.1.rest hbu) (And.intro (F.out.2.1.rest hbu) (And.intro (show ub.heap[b0]? = some (.cells #[ptr p] 100 (0, 0)) from (hbu.block _ (blk_lt F.out.2.2.1)).trans F.out.2.2.1) (And.intro (F.out.2.2.2.trans (Bel.of hbu F.out.1.bp_size)) (And.intro hrd hng)))))
    rw [hu]
    try rw [hnb]
    have HNBb := Lib.hid hnb
    clear hu hbu hrd hng hnb
    refine hK.out _ _ ?_ (fun hHelda20 => ?_)
    · (try dsimp only); exact ⟨Fb.out.1.ten.2.2.2.2.2.2.2.2.1, by rw [cell_of_row _ _ _ _ _ _ Fb.out.2.2.1]; rfl⟩
    clear hK K hHelda14
    try simp only [Act.put, List.getElem_toArray, List.getElem_cons_zero, List.getElem_cons_succ, List.setIfInBounds_toArray, List.set_cons_zero, List.set_cons_succ]
    refine wpAnyH_ready (rs := [13]) (by kernel_rfl) (by simp) ?_
    refine AllReadyH.cons (o := _) rfl (fun K hK => ?_) AllReadyH.nil
    go_simp
    (with_reducible refine (HD.out _ Fb.out.1 Fb.out.2.1 Fb.out.2.2.1).mono ?_)
    rintro y ubd ⟨rfl, hA, hB, hC⟩
    have Fbd := Lib.hid (And.intro hB (And.intro hA (And.intro (show ubd.heap[b0]? = some (.cells #[ptr p] 100 (0, 0)) from (hC.block _ (blk_lt Fb.out.2.2.1) (fun e => HQ.out.2.2.2.2.2.2.2.2.2.2.2.2.2 (Option.some.inj e).symm)).trans Fb.out.2.2.1) (And.intro (show Bel base w ubd from Fb.out.2.2.2.1.trans (Fb.out.1.below (Fb.out.2.1.part rfl) hC)) (And.intro (show Rd encQ 1 ubd (some ⟨nb, 0, none⟩) [p] from rd_far Fb.out.2.2.2.2.1 hC Fb.out.2.2.2.2.2) (show nb ≠ g from Fb.out.2.2.2.2.2))))))
    clear hA hB hC
    go_wp2_with fail
    refine hK.out _ _ ?_ (fun hHelda21 => ?_)
    · (try dsimp only); exact ⟨Fbd.out.1.ten.2.2.2.2.2.2.2.2.1, by rw [cell_of_row _ _ _ _ _ _ Fbd.out.2.2.1]; rfl⟩
    clear hK K hHelda20
    try simp only [Act.put, List.getElem_toArray, List.getElem_cons_zero, List.getElem_cons_succ, List.setIfInBounds_toArray, List.set_cons_zero, List.set_cons_succ]
    refine wpAnyH_ready (rs := [16]) (by kernel_rfl) (by simp) ?_
    refine AllReadyH.cons (o := _) rfl (fun K hK => ?_) AllReadyH.nil
    refine step_append_typed lenQ oneQ rfl (.tmp 19) (.tmp 21) 99 rfl base 100 (.pointer none) 8 Try.underlying99 info100 rfl (by decide) (by decide) (.slice (some ⟨g, 0, none⟩) (l.eraseIdx i).length cp) (l.eraseIdx i) (by simp [Act.eval, Act.put]) Fbd.out.2.1 ⟨nb, 0, none⟩ 1 1 [p] (by simp [Act.eval, Act.put]) rfl (by decide) Fbd.out.2.2.2.2.1 (by have := HQ.out.2.2.2.2.2.2.2.2.2.1; omega) Fbd.out.1.bp_size ?_
    intro g2 cap2 ubda hA hB hL
    have hC := Fbd.out.1.keptRow Fbd.out.2.1 (fun j u a b => (HQ.out.2.2.2.2.1 j u a b).len _) hB
    have Fbda := Lib.hid (And.intro hC (And.intro hA (And.intro (show ubda.heap[b0]? = some (.cells #[ptr p] 100 (0, 0)) from (hB.block _ (blk_lt Fbd.out.2.2.1) (fun e => HQ.out.2.2.2.2.2.2.2.2.2.2.2.2.2 (Option.some.inj (show some b0 = some g from e)).symm)).trans Fbd.out.2.2.1) (And.intro (show Bel base w ubda from Fbd.out.2.2.2.1.trans (Fbd.out.1.below (Fbd.out.2.1.part rfl) hB)) (show g = g2 ∨ w.heap.size ≤ g2 from hL.elim (fun e => Or.inl (Option.some.inj e)) (fun e => Or.inr (by have := Fbd.out.2.2.2.1.size; omega)))))))
    clear hA hB hC hL
    refine hK.out _ _ ?_ (fun hHelda22 => ?_)
    · (try dsimp only); exact ⟨Fbda.out.1.ten.2.2.2.2.2.2.2.2.1, by rw [cell_of_row _ _ _ _ _ _ Fbda.out.2.2.1]; rfl⟩
    clear hK K hHelda21
    try simp only [Act.put, List.getElem_toArray, List.getElem_cons_zero, List.getElem_cons_succ, List.setIfInBounds_toArray, List.set_cons_zero, List.set_cons_succ]
    refine wpAnyH_take (i := 17) (oi := _) (v := ?va23) rfl (by kernel_rfl) (by kernel_rfl) (by kernel_rfl) (fun _ _ _ h => h) (Or.inl ⟨by rfl, ?hya23⟩) (by assumption) ?resta23
    case hya23 => (intro w hSw; (try dsimp only at hSw); go_simp; all_goals with_reducible rfl)
    try simp only [Act.put, List.getElem_toArray, List.getElem_cons_zero, List.getElem_cons_succ, List.setIfInBounds_toArray, List.set_cons_zero, List.set_cons_succ]
    refine wpAnyH_ready (rs := [18]) (by kernel_rfl) (by simp) ?_
    refine AllReadyH.cons (o := _) rfl (fun K hK => ?_) AllReadyH.nil
    have t0 := (Fbda.out.1.at k _ HV.out).1
    have t1 := (Fbda.out.1.at k _ HV.out).2
    go_simp
    clear t0 t1
    have hz := Fbda.out.1.close (v := .slice (some ⟨g2, 0, none⟩) ((l.eraseIdx i).length + 1) cap2) (l := useL l i p) (es := useL es i e) (List.getElem?_eq_some_iff.1 HQ.out.1).1 Fbda.out.2.1 (fun j u a b => Fbda.out.2.1.apt_new (HQ.out.2.2.2.2.1 j u a b) (aptCase Fbda.out.2.2.2.2 (HQ.out.2.2.2.2.2.1 j u a b))) (by rw [useL_len _ _ _ (List.getElem?_eq_some_iff.1 HQ.out.2.2.2.2.2.2.2.2.2.2.1).1, useL_len _ _ _ (List.getElem?_eq_some_iff.1 HQ.out.2.2.2.2.2.2.2.2.2.2.2.1).1]; exact HQ.out.2.2.2.1) (fun j q f a b => by obtain ⟨j', x, y⟩ := HQ.out.2.2.2.2.2.2.1 j q f a b; exact Fbda.out.1.ent _ _ _ _ _ _ HQ.out.1 HQ.out.2.1 x y) (nodup_use HQ.out.2.2.1 HQ.out.2.2.2.2.2.2.2.2.2.2.1) (fun j l' q a b d => useFar Fbda.out.1 HQ.out.1 b (fun e => a e.symm) (HQ.out.2.2.2.2.2.2.2.1 q d)) (fun q d => Fbda.out.1.bp _ _ _ HQ.out.1 (HQ.out.2.2.2.2.2.2.2.1 q d))
    have HFbdas := Lib.hid (And.intro hz.1 (Fbda.out.2.2.2.1.trans (Fbda.out.1.below Fbda.out.1.pbc hz.2)))
    have HZbdas := Lib.hid (And.intro (show (ubda.setCell ⟨bc, k, none⟩ (.slice (some ⟨g2, 0, none⟩) ((l.eraseIdx i).length + 1) cap2)).cell? ⟨bs, 8, none⟩ = some (.slice (some ⟨bc, 0, none⟩) sv.length sv.length) from by have := hz.1.ten.2.2.2.2.2.2.2.2.1; rw [List.length_set] at this; exact this) (show (ubda.setCell ⟨bc, k, none⟩ (.slice (some ⟨g2, 0, none⟩) ((l.eraseIdx i).length + 1) cap2)).cell? ⟨b0, 0, none⟩ = some (ptr p) from by rw [cell_of_row _ _ _ _ _ _ ((hz.2.block _ (blk_lt Fbda.out.2.2.1) (fun e => noTab Fbda.out.1 Fbda.out.2.2.1 (Option.some.inj e))).trans Fbda.out.2.2.1)]; rfl))
    clear hz
    refine hK.out _ _ ?_ (fun hHelda24 => ?_)
    · (try dsimp only); exact ⟨HZbdas.out.1, HZbdas.out.2⟩
    clear hK K hHelda22
    try simp only [Act.put, List.getElem_toArray, List.getElem_cons_zero, List.getElem_cons_succ, List.setIfInBounds_toArray, List.set_cons_zero, List.set_cons_succ]
    refine wpAnyH_done (by kernel_rfl) ?_ _
    go_wp2_with fail
    (first | go_end0 | go_ret)
    exact ⟨rfl, ⟨_, HFbdas.out.1⟩, HFbdas.out.2⟩
  refine AllReadyH.cons (o := _) rfl (fun K hK => ?_) AllReadyH.nil
  go_simp
  obtain ⟨ub, hu⟩ : ∃ u, (W1.alloc (.cells #[ptr p] 100)).drew = u := ⟨_, rfl⟩
  have hbu : Below (W1.drew).heap.size (W1.drew) ub := by rw [← hu]; exact below_drew_alloc W1 _
  obtain ⟨nb, hnb⟩ : ∃ nb, (W1).heap.size = nb := ⟨_, rfl⟩
  have hrd : Rd encQ 1 ub (some ⟨nb, 0, none⟩) [p] := by rw [← hu, ← hnb]; exact (rd_one encQ 1 W1 p 100 _ rfl _ rfl).drew
  have hng : nb ≠ g := by have h8 := (F.out.2.1.blk g rfl).2.1; have h9 : g < (W1).heap.size := h8; omega
  have Fb := Lib.hid (And.intro (F.out.1.rest hbu) (And.intro (F.out.2.1.rest hbu) (And.intro (show ub.heap[b0]? = some (.cells #[ptr p] 100 (0, 0)) from (hbu.block _ (blk_lt F.out.2.2.1)).trans F.out.2.2.1) (And.intro (F.out.2.2.2.trans (Bel.of hbu F.out.1.bp_size)) (And.intro hrd hng)))))
  rw [hu]
  try rw [hnb]
  have HNBb := Lib.hid hnb
  clear hu hbu hrd hng hnb
  refine hK.out _ _ ?_ (fun hHelda25 => ?_)
  · (try dsimp only); exact ⟨Fb.out.1.ten.2.2.2.2.2.2.2.2.1, by rw [cell_of_row _ _ _ _ _ _ Fb.out.2.2.1]; rfl⟩
  clear hK K hHelda
  try simp only [Act.put, List.getElem_toArray, List.getElem_cons_zero, List.getElem_cons_succ, List.setIfInBounds_toArray, List.set_cons_zero, List.set_cons_succ]
  refine wpAnyH_ready (rs := [11]) (by kernel_rfl) (by simp) ?_
  refine AllReadyH.cons (o := _) rfl (fun K hK => ?_) AllReadyH.nil
  have t0 := (Fb.out.1.at k _ HV.out).1
  go_simp
  clear t0
  refine hK.out _ _ ?_ (fun hHelda26 => ?_)
  · (try dsimp only); exact ⟨Fb.out.1.ten.2.2.2.2.2.2.2.2.1, by rw [cell_of_row _ _ _ _ _ _ Fb.out.2.2.1]; rfl⟩
  clear hK K hHelda25
  try simp only [Act.put, List.getElem_toArray, List.getElem_cons_zero, List.getElem_cons_succ, List.setIfInBounds_toArray, List.set_cons_zero, List.set_cons_succ]
  refine wpAnyH_ready (rs := [13]) (by kernel_rfl) (by simp) ?_
  refine AllReadyH.cons (o := _) rfl (fun K hK => ?_) AllReadyH.nil
  go_simp
  (with_reducible refine (HD.out _ Fb.out.1 Fb.out.2.1 Fb.out.2.2.1).mono ?_)
  rintro y ubd ⟨rfl, hA, hB, hC⟩
  have Fbd := Lib.hid (And.intro hB (And.intro hA (And.intro (show ubd.heap[b0]? = some (.cells #[ptr p] 100 (0, 0)) from (hC.block _ (blk_lt Fb.out.2.2.1) (fun e => HQ.out.2.2.2.2.2.2.2.2.2.2.2.2.2 (Option.some.inj e).symm)).trans Fb.out.2.2.1) (And.intro (show Bel base w ubd from Fb.out.2.2.2.1.trans (Fb.out.1.below (Fb.out.2.1.part rfl) hC)) (And.intro (show Rd encQ 1 ubd (some ⟨nb, 0, none⟩) [p] from rd_far Fb.out.2.2.2.2.1 hC Fb.out.2.2.2.2.2) (show nb ≠ g from Fb.out.2.2.2.2.2))))))
  clear hA hB hC
  go_wp2_with fail
  refine hK.out _ _ ?_ (fun hHelda27 => ?_)
  · (try dsimp only); exact ⟨Fbd.out.1.ten.2.2.2.2.2.2.2.2.1, by rw [cell_of_row _ _ _ _ _ _ Fbd.out.2.2.1]; rfl⟩
  clear hK K hHelda26
  try simp only [Act.put, List.getElem_toArray, List.getElem_cons_zero, List.getElem_cons_succ, List.setIfInBounds_toArray, List.set_cons_zero, List.set_cons_succ]
  refine wpAnyH_ready (rs := [16]) (by kernel_rfl) (by simp) ?_
  refine AllReadyH.cons (o := _) rfl (fun K hK => ?_) AllReadyH.nil
  refine step_append_typed lenQ oneQ rfl (.tmp 19) (.tmp 21) 99 rfl base 100 (.pointer none) 8 Try.underlying99 info100 rfl (by decide) (by decide) (.slice (some ⟨g, 0, none⟩) (l.eraseIdx i).length cp) (l.eraseIdx i) (by simp [Act.eval, Act.put]) Fbd.out.2.1 ⟨nb, 0, none⟩ 1 1 [p] (by simp [Act.eval, Act.put]) rfl (by decide) Fbd.out.2.2.2.2.1 (by have := HQ.out.2.2.2.2.2.2.2.2.2.1; omega) Fbd.out.1.bp_size ?_
  intro g2 cap2 ubda hA hB hL
  have hC := Fbd.out.1.keptRow Fbd.out.2.1 (fun j u a b => (HQ.out.2.2.2.2.1 j u a b).len _) hB
  have Fbda := Lib.hid (And.intro hC (And.intro hA (And.intro (show ubda.heap[b0]? = some (.cells #[ptr p] 100 (0, 0)) from (hB.block _ (blk_lt Fbd.out.2.2.1) (fun e => HQ.out.2.2.2.2.2.2.2.2.2.2.2.2.2 (Option.some.inj (show some b0 = some g from e)).symm)).trans Fbd.out.2.2.1) (And.intro (show Bel base w ubda from Fbd.out.2.2.2.1.trans (Fbd.out.1.below (Fbd.out.2.1.part rfl) hB)) (show g = g2 ∨ w.heap.size ≤ g2 from hL.elim (fun e => Or.inl (Option.some.inj e)) (fun e => Or.inr (by have := Fbd.out.2.2.2.1.size; omega)))))))
  clear hA hB hC hL
  refine hK.out _ _ ?_ (fun hHelda28 => ?_)
  · (try dsimp only); exact ⟨Fbda.out.1.ten.2.2.2.2.2.2.2.2.1, by rw [cell_of_row _ _ _ _ _ _ Fbda.out.2.2.1]; rfl⟩
  clear hK K hHelda27
  try simp only [Act.put, List.getElem_toArray, List.getElem_cons_zero, List.getElem_cons_succ, List.setIfInBounds_toArray, List.set_cons_zero, List.set_cons_succ]
  refine wpAnyH_take (i := 17) (oi := _) (v := ?va29) rfl (by kernel_rfl) (by kernel_rfl) (by kernel_rfl) (fun _ _ _ h => h) (Or.inl ⟨by rfl, ?hya29⟩) (by assumption) ?resta29
  case hya29 => (intro w hSw; (try dsimp only at hSw); go_simp; all_goals with_reducible rfl)
  try simp only [Act.put, List.getElem_toArray, List.getElem_cons_zero, List.getElem_cons_succ, List.setIfInBounds_toArray, List.set_cons_zero, List.set_cons_succ]
  refine wpAnyH_ready (rs := [18]) (by kernel_rfl) (by simp) ?_
  refine AllReadyH.cons (o := _) rfl (fun K hK => ?_) AllReadyH.nil
  have t0 := (Fbda.out.1.at k _ HV.out).1
  have t1 := (Fbda.out.1.at k _ HV.out).2
  go_simp
  clear t0 t1
  have hz := Fbda.out.1.close (v := .slice (some ⟨g2, 0, none⟩) ((l.eraseIdx i).length + 1) cap2) (l := useL l i p) (es := useL es i e) (List.getElem?_eq_some_iff.1 HQ.out.1).1 Fbda.out.2.1 (fun j u a b => Fbda.out.2.1.apt_new (HQ.out.2.2.2.2.1 j u a b) (aptCase Fbda.out.2.2.2.2 (HQ.out.2.2.2.2.2.1 j u a b))) (by rw [useL_len _ _ _ (List.getElem?_eq_some_iff.1 HQ.out.2.2.2.2.2.2.2.2.2.2.1).1, useL_len _ _ _ (List.getElem?_eq_some_iff.1 HQ.out.2.2.2.2.2.2.2.2.2.2.2.1).1]; exact HQ.out.2.2.2.1) (fun j q f a b => by obtain ⟨j', x, y⟩ := HQ.out.2.2.2.2.2.2.1 j q f a b; exact Fbda.out.1.ent _ _ _ _ _ _ HQ.out.1 HQ.out.2.1 x y) (nodup_use HQ.out.2.2.1 HQ.out.2.2.2.2.2.2.2.2.2.2.1) (fun j l' q a b d => useFar Fbda.out.1 HQ.out.1 b (fun e => a e.symm) (HQ.out.2.2.2.2.2.2.2.1 q d)) (fun q d => Fbda.out.1.bp _ _ _ HQ.out.1 (HQ.out.2.2.2.2.2.2.2.1 q d))
  have HFbdas := Lib.hid (And.intro hz.1 (Fbda.out.2.2.2.1.trans (Fbda.out.1.below Fbda.out.1.pbc hz.2)))
  have HZbdas := Lib.hid (And.intro (show (ubda.setCell ⟨bc, k, none⟩ (.slice (some ⟨g2, 0, none⟩) ((l.eraseIdx i).length + 1) cap2)).cell? ⟨bs, 8, none⟩ = some (.slice (some ⟨bc, 0, none⟩) sv.length sv.length) from by have := hz.1.ten.2.2.2.2.2.2.2.2.1; rw [List.length_set] at this; exact this) (show (ubda.setCell ⟨bc, k, none⟩ (.slice (some ⟨g2, 0, none⟩) ((l.eraseIdx i).length + 1) cap2)).cell? ⟨b0, 0, none⟩ = some (ptr p) from by rw [cell_of_row _ _ _ _ _ _ ((hz.2.block _ (blk_lt Fbda.out.2.2.1) (fun e => noTab Fbda.out.1 Fbda.out.2.2.1 (Option.some.inj e))).trans Fbda.out.2.2.1)]; rfl))
  clear hz
  refine hK.out _ _ ?_ (fun hHelda30 => ?_)
  · (try dsimp only); exact ⟨HZbdas.out.1, HZbdas.out.2⟩
  clear hK K hHelda28
  try simp only [Act.put, List.getElem_toArray, List.getElem_cons_zero, List.getElem_cons_succ, List.setIfInBounds_toArray, List.set_cons_zero, List.set_cons_succ]
  refine wpAnyH_done (by kernel_rfl) ?_ _
  go_wp2_with fail
  (first | go_end0 | go_ret)
  exact ⟨rfl, ⟨_, HFbdas.out.1⟩, HFbdas.out.2⟩
end Go.Proofs.Ytggidakiflnhhaa
