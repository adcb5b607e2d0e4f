import Derived.Test.YtggidakiflnhhaaBA
namespace Go.Proofs.Ytggidakiflnhhaa
open Go.RowKit
set_option maxHeartbeats 8000000
set_option maxRecDepth 100000
set_option linter.unusedSimpArgs false
set_option linter.unusedVariables false

theorem exec_load_row {P : Program} {o : Oper} {a : Act} {w : World} (ty : TypeId) (x : Operand) (ho : o.op = .load ty x)
    (g : Nat) (hx : a.eval x = .pointer (some ⟨g, 0, none⟩)) (t : TypeId) (cs : Array Value) (fr : Nat × Nat) (d : TypeDesc) (hg : w.heap[g]? = some (.cells cs t fr))
    (hu : P.underlying ty = some d) (hd : (match d with | .struct _ | .array _ _ => true | _ => false) = true) (hi : (P.info? ty).map (·.size) = some cs.size) :
    (execOp a.eval o).run P w = .ok (.value (.agg cs)) w := by
  unfold execOp
  simp only [ho, hx, Instr.loadAt, Instr.sureAddr, Sem.run_bind, Sem.run_pure, Result.andThen_ok, run_loadVar_row w g t ty cs fr d hg hu hd hi]
/-- a row that is read, off block nb -/
structure Rx (nb : Nat) (w : World) (V : Option Addr) (xs : List Int) : Prop where
  rd : Rd encI 1 w V xs
  off : xs = [] ∨ ∀ a, V = some a → a.block ≠ nb
theorem Rx.new {nb : Nat} {w w' : World} {V : Option Addr} {xs : List Int} (h : Rd encI 1 w V xs) (hn : w.heap.size = nb) (hb : Below w.heap.size w w') : Rx nb w' V xs := by
  refine ⟨h.below hb, ?_⟩
  cases xs with
  | nil => exact Or.inl rfl
  | cons x xs =>
    right
    intro a ha
    obtain ⟨a', ha', hc⟩ := h.int 0 (by simp)
    rw [ha] at ha'
    obtain rfl := Option.some.inj ha'
    have := World.block_lt_of_cell? _ _ hc
    have e : (a.add 0).block = a.block := by unfold Addr.add; split <;> rfl
    omega
theorem Rx.call {nb : Nat} {w : World} {V : Option Addr} {xs : List Int} (h : Rd encI 1 w V xs) (hn : ∀ a, V = some a → nb < a.block) : Rx nb w V xs := ⟨h, Or.inr (fun a ha => by have := hn a ha; omega)⟩
theorem Rx.turn {nb : Nat} {w w' : World} {V : Option Addr} {xs : List Int} (h : Rx nb w V xs) (hk : ∀ k, k ≠ nb → w'.heap[k]? = w.heap[k]?) : Rd encI 1 w' V xs := by
  rcases h.off with h0 | h0
  · subst h0; exact Rd.nil _ _ _ _
  · refine ⟨h.rd.small, fun k hkk => ?_⟩
    obtain ⟨a, ha, hc⟩ := h.rd.cell k hkk
    refine ⟨a, ha, fun j v hv => ?_⟩
    have h1 := hc j v hv
    have e : (a.add (k * 1 + j)).block = a.block := by unfold Addr.add; split <;> rfl
    rw [World.cell?_of_block (hk _ (by rw [e]; exact h0 a ha))]
    exact h1
theorem opExt {a b : Op} (h1 : a.a = b.a) (h2 : a.k = b.k) (h3 : a.p = b.p) (h4 : a.v = b.v) : a = b := by cases a; cases b; simp_all
theorem eq38 (d : Nat) (a b : Op) (w : World) : (Op.equalIn (d + 2) 38 a.val b.val).run Try.prog w = .ok (a.a == b.a && (a.k == b.k && (a.p == b.p && a.v == b.v))) w := by
  have hag : ∀ w, (isAgg 3).run Try.prog w = .ok false w := by
    intro w
    unfold isAgg
    rw [Sem.run_bind, run_underlying Try.underlying3 w]
    rfl
  rw [show d + 2 = (d + 1) + 1 by rfl, run_equalIn_struct (P := Try.prog) w (d + 1) 38 _ _ Try.underlying38 (by kernel_rfl)]
  have hf : (Try.prog.fieldsOf 38).toList.map (fun f => (f.name, f.type, f.offset)) = [("Locale", 3, 0), ("Kind", 3, 1), ("Place", 3, 2), ("Value", 3, 3)] := by kernel_rfl
  generalize (Try.prog.fieldsOf 38).toList = fs at hf ⊢
  have hl : fs.length = 4 := by have := congrArg List.length hf; simpa using this
  match fs, hl with
  | [f0, f1, f2, f3], _ =>
    simp at hf
    obtain ⟨⟨n0, t0, o0⟩, ⟨n1, t1, o1⟩, ⟨n2, t2, o2⟩, ⟨n3, t3, o3⟩⟩ := hf
    simp only [Op.eqFields, n0, n1, n2, n3, t0, t1, t2, t3, o0, o1, o2, o3]
    simp [part, hag, run_equalIn_int _ _ 3 .i64 .i64 _ _ Try.underlying3]
    by_cases e0 : a.a = b.a <;> by_cases e1 : a.k = b.k <;> by_cases e2 : a.p = b.p <;> by_cases e3 : a.v = b.v <;> simp [e0, e1, e2, e3]
theorem op_beq (a b : Op) [Decidable (a = b)] : (a.a == b.a && (a.k == b.k && (a.p == b.p && a.v == b.v))) = decide (a = b) := by
  by_cases h : a = b
  · subst h; simp
  · rw [decide_eq_false h]
    by_cases e0 : a.a = b.a <;> by_cases e1 : a.k = b.k <;> by_cases e2 : a.p = b.p <;> by_cases e3 : a.v = b.v <;> simp [e0, e1, e2, e3]
    exact h (opExt e0 e1 e2 e3)
instance decOp (a b : Op) : Decidable (a = b) := if h : a.a = b.a ∧ a.k = b.k ∧ a.p = b.p ∧ a.v = b.v then isTrue (opExt h.1 h.2.1 h.2.2.1 h.2.2.2) else isFalse (fun e => h (by subst e; exact ⟨rfl, rfl, rfl, rfl⟩))
theorem run_eq38 (a b : Op) (w : World) : (binOp .eql 38 a.val b.val).run Try.prog w = .ok (.bool (decide (a = b))) w := by
  rw [run_eql_struct]
  have := eq38 9998 a b w
  simp only [Op.val] at this ⊢
  rw [this, op_beq a b]
  rfl
theorem run_neq38 (a b : Op) (w : World) : (binOp .neq 38 a.val b.val).run Try.prog w = .ok (.bool (!decide (a = b))) w := by
  rw [run_neq_struct]
  have := eq38 9998 a b w
  simp only [Op.val] at this ⊢
  rw [this, op_beq a b]
  rfl
theorem eq38' (a b : Op) (w : World) : (Op.equalIn 10000 38 a.val b.val).run Try.prog w = .ok (decide (a = b)) w := by
  rw [show 10000 = 9998 + 2 by rfl, eq38 9998 a b w, op_beq a b]
theorem getD_at' {α : Type} (xs : List α) (d : α) {i : Nat} (h : i < xs.length) : xs.getD i d = xs[i] := by rw [List.getD_eq_getElem?_getD, List.getElem?_eq_getElem h]; rfl
theorem wo_none (m : List Op) (l : List Op) : l.foldl (woS m) none = none := by
  induction l with
  | nil => rfl
  | cons x l ih => rw [List.foldl_cons]; exact ih
theorem wo_take {m l : List Op} {i : Nat} (hi : i < l.length) (k : Nat) (h : (l.take i).foldl (woS m) (some 0) = some k) : (l.take (i + 1)).foldl (woS m) (some 0) = woS m (some k) l[i] := by
  rw [List.take_succ_eq_append_getElem hi, List.foldl_append, h]; rfl
theorem wo_stuck {m l : List Op} {i : Nat} (h : (l.take i).foldl (woS m) (some 0) = none) : l.foldl (woS m) (some 0) = none := by
  have e : l.foldl (woS m) (some 0) = (l.drop i).foldl (woS m) ((l.take i).foldl (woS m) (some 0)) := by rw [← List.foldl_append, List.take_append_drop]
  rw [e, h, wo_none]
/-- 'without': true of a trace that meets the other one -/
theorem without_calls (l m : List Op) (A B : Option Addr) (ca cb : Nat) (w : World) (hA : Rd encP 4 w A l) (hB : Rd encP 4 w B m) (hw : l.foldl (woS m) (some 0) = some m.length) :
    Calls Try.prog 25 #[.slice A l.length ca, .slice B m.length cb] w fun e w' => e = .returned (.bool true) ∧ Below w.heap.size w w' := by
  have hsA := hA.small
  have hsB := hB.small
  have HR := Lib.hid (And.intro hA (And.intro hB hw))
  clear hA hB hw
  go_enter Try.func25, Try.ntmps25
  go_wp2_with fail
  go_loopg [4, 5, 6, 7, 8, 9, 10, 11, 12, 13, 14, 15, 16, 17, 18, 19, 20, 21, 22, 23, 24, 25, 26, 27, 28, 29, 30, 31, 32, 33, 34, 35, 36, 37, 38, 39, 40, 41, 42, 43] l.length (fun gk v4 v5 v6 v7 v8 v9 v10 v11 v12 v13 v14 v15 v16 v17 v18 v19 v20 v21 v22 v23 v24 v25 v26 v27 v28 v29 v30 v31 v32 v33 v34 v35 v36 v37 v38 v39 v40 v41 v42 v43 wr => ∃ i k : Nat, i + gk = l.length ∧ v6 = .int .i64 (i : Int) ∧ v5 = .int .i64 (k : Int) ∧ (l.take i).foldl (woS m) (some 0) = some k ∧ k ≤ m.length ∧ Below w.heap.size w wr)
  case atStart => exact ⟨0, 0, by omega, rfl, rfl, rfl, by omega, Below.refl _ _⟩
  case round =>
    obtain ⟨i, k, hi, rfl, rfl, hf, hkm, hb⟩ := hrel
    by_cases hlt : i < l.length
    · have hd : decide (i < l.length) = true := decide_eq_true hlt
      have hltI : (i : Int) < (l.length : Int) := by omega
      obtain ⟨a, rfl, hca⟩ := (HR.out.1.below hb).cell i hlt
      obtain ⟨x, hx⟩ : ∃ x, l[i] = x := ⟨_, rfl⟩
      have hst := wo_take hlt k hf
      rw [hx] at hca hst
      have hnn : (l.take (i + 1)).foldl (woS m) (some 0) ≠ none := fun e => by have := wo_stuck e; rw [HR.out.2.2] at this; cases this
      rw [hst] at hnn
      have y0 := hca 0 _ rfl
      have y1 := hca 1 _ rfl
      have y2 := hca 2 _ rfl
      have y3 := hca 3 _ rfl
      rw [Nat.add_zero] at y0
      rw [add_field _ _ _ (by decide)] at y1 y2 y3
      by_cases hk : k < m.length
      · have hkd : decide (k < m.length) = true := decide_eq_true hk
        have hkI : (k : Int) < (m.length : Int) := by omega
        obtain ⟨b, rfl, hcb⟩ := (HR.out.2.1.below hb).cell k hk
        obtain ⟨y, hy⟩ : ∃ y, m[k] = y := ⟨_, rfl⟩
        have hgd : m.getD k opZ = y := by rw [getD_at' _ _ hk, hy]
        rw [hy] at hcb
        have z0 := hcb 0 _ rfl
        have z1 := hcb 1 _ rfl
        have z2 := hcb 2 _ rfl
        have z3 := hcb 3 _ rfl
        rw [Nat.add_zero] at z0
        rw [add_field _ _ _ (by decide)] at z1 z2 z3
        have hq := fun w => run_eq38 x y w
        have hq2 := fun w => eq38' x y w
        simp only [Op.val] at hq hq2
        by_cases hxy : x = y
        · have he : (l.take (i + 1)).foldl (woS m) (some 0) = some (k + 1) := by rw [hst]; unfold woS; simp only; rw [if_pos ⟨hk, by rw [hgd, hxy]⟩]
          rw [decide_eq_true hxy] at hq hq2
          have HQ := Lib.hid (And.intro hb he)
          clear hca hcb hst hnn hgd hx hy hf hb he hxy hkm
          go_upto_region 5 with fail
          go_quiet (fail)
          clear y0 y1 y2 y3 z0 z1 z2 z3 hq hq2
          go_wp2_with fail
          go_roundg (l.length - (i + 1))
          case measure => omega
          case rel => exact ⟨i + 1, k + 1, by omega, by go_num, by go_num, HQ.out.2, by omega, drewN_below HQ.out.1 _⟩
        · have h34 : x.k = 3 ∨ x.k = 4 := by
            apply Classical.byContradiction
            intro hc
            apply hnn
            unfold woS
            simp only
            rw [if_neg (fun h => hxy (by rw [← h.2, hgd])), if_neg hc]
          have he : (l.take (i + 1)).foldl (woS m) (some 0) = some k := by rw [hst]; unfold woS; simp only; rw [if_neg (fun h => hxy (by rw [← h.2, hgd])), if_pos h34]
          rw [decide_eq_false hxy] at hq hq2
          have HQ := Lib.hid (And.intro hb he)
          clear hca hcb hst hnn hgd hx hy hf hb he hxy
          go_upto_region 5 with fail
          go_quiet (fail)
          clear z0 z1 z2 z3 hq hq2
          have y1' := y1
          clear y0 y1 y2 y3
          obtain ⟨xa, xk, xp, xv⟩ := x
          simp only at h34 y1'
          rcases h34 with rfl | rfl
          all_goals
            go_wp2_with fail
            go_roundg (l.length - (i + 1))
            case measure => omega
            case rel => exact ⟨i + 1, k, by omega, by go_num, by go_num, HQ.out.2, by omega, drewN_below HQ.out.1 _⟩
      · have hkd : decide (k < m.length) = false := decide_eq_false hk
        have hkI : ¬ (k : Int) < (m.length : Int) := by omega
        have h34 : x.k = 3 ∨ x.k = 4 := by
          apply Classical.byContradiction
          intro hc
          apply hnn
          unfold woS
          simp only
          rw [if_neg (fun h => hk h.1), if_neg hc]
        have he : (l.take (i + 1)).foldl (woS m) (some 0) = some k := by rw [hst]; unfold woS; simp only; rw [if_neg (fun h => hk h.1), if_pos h34]
        have HQ := Lib.hid (And.intro hb he)
        clear hca hst hnn hx hf hb he
        go_upto_region 5 with fail
        go_quiet (fail)
        have y1' := y1
        clear y0 y1 y2 y3
        obtain ⟨xa, xk, xp, xv⟩ := x
        simp only at h34 y1'
        rcases h34 with rfl | rfl
        all_goals
          go_wp2_with fail
          go_roundg (l.length - (i + 1))
          case measure => omega
          case rel => exact ⟨i + 1, k, by omega, by go_num, by go_num, HQ.out.2, by omega, drewN_below HQ.out.1 _⟩
    · have hd : decide (i < l.length) = false := decide_eq_false hlt
      obtain rfl : i = l.length := by omega
      rw [List.take_length, HR.out.2.2] at hf
      obtain rfl : m.length = k := Option.some.inj hf
      have HB := Lib.hid hb
      clear hf hb hkm hi
      go_wp2_with fail
      go_ret
      exact ⟨by simp, HB.out⟩
end Go.Proofs.Ytggidakiflnhhaa
