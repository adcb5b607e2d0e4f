import Derived.Test.YthpcipfloofbcaaD
import Derived.Deep.RegionLaw
import Derived.Lib.SliceRun
namespace Go.Proofs.Ythpcipfloofbcaa
open Go.RowKit
set_option maxHeartbeats 1000000
set_option maxRecDepth 100000
set_option linter.unusedSimpArgs false
set_option linter.unusedVariables false

/-- a shorter row at the head of a row -/
theorem ownsRow_take {w : World} {base : Nat} {e : TypeId} {size : Nat} {g n cap : Nat} {xs : List Value} (h : w.ownsRow base e size (.slice (some ⟨g, 0, none⟩) n cap) n xs) (i : Nat) (hi : i ≤ n) :
    w.ownsRow base e size (.slice (some ⟨g, 0, none⟩) i cap) i (xs.take (i * size)) := by
  have hle : i * size ≤ n * size := Nat.mul_le_mul_right _ hi
  refine ⟨by rw [List.length_take, h.1]; exact Nat.min_eq_left hle, .inr ?_⟩
  rcases h.2 with ⟨h', _⟩ | ⟨g', cap', cur, h', hb, hg, hnc, hcm, hcs, ht⟩
  · simp at h'
  · simp only [Value.slice.injEq, Option.some.injEq, Addr.mk.injEq, and_true, true_and] at h'
    obtain ⟨rfl, rfl⟩ := h'
    refine ⟨g, cap, cur, rfl, hb, hg, by omega, hcm, hcs, ?_⟩
    rw [← ht, List.take_take, Nat.min_eq_left hle]

/-- a store behind the last element -/
theorem ownsRow_beyond {w : World} {base : Nat} {e : TypeId} {size : Nat} {g n cap : Nat} {xs : List Value} (h : w.ownsRow base e size (.slice (some ⟨g, 0, none⟩) n cap) n xs) (j : Nat) (hj : n * size ≤ j) (u : Value) :
    (w.setCell ⟨g, j, none⟩ u).ownsRow base e size (.slice (some ⟨g, 0, none⟩) n cap) n xs ∧ w.grownBy (w.setCell ⟨g, j, none⟩ u) (some g) := by
  rcases h.2 with ⟨h', _⟩ | ⟨g', cap', cur, h', hb, hg, hnc, hcm, hcs, htake⟩
  · simp at h'
  · simp only [Value.slice.injEq, Option.some.injEq, Addr.mk.injEq, and_true, true_and] at h'
    obtain ⟨rfl, rfl⟩ := h'
    refine ⟨⟨h.1, .inr ⟨g, cap, cur.setIfInBounds j u, rfl, hb, heap_setCell_same w g j cur e u hg, hnc, hcm, by simpa using hcs, ?_⟩⟩,
      ⟨rfl, rfl, rfl, by simp, fun k _ hk => heap_setCell_other w ⟨g, j, none⟩ k u (fun e => hk (by simp [e]))⟩⟩
    rw [Array.toList_setIfInBounds, ← htake, List.take_set_of_le hj]

theorem ownsRow_spare {w : World} {base : Nat} {e : TypeId} {g n cap : Nat} {xs : List Value} (h : w.ownsRow base e 1 (.slice (some ⟨g, 0, none⟩) n cap) n xs) (j : Nat) (hj : j < cap) : (w.cell? ⟨g, j, none⟩).isSome = true ∧ w.frozen? ⟨g, j, none⟩ = false := by
  refine ⟨?_, h.frozenAt j⟩
  rcases h.2 with ⟨h', _⟩ | ⟨g', cap', cur, h', hb, hg, hnc, hcm, hcs, htake⟩
  · simp at h'
  · simp only [Value.slice.injEq, Option.some.injEq, Addr.mk.injEq, and_true, true_and] at h'
    obtain ⟨rfl, rfl⟩ := h'
    rw [cell_of_row w g j cur e (0, 0) hg]
    simp
    omega

theorem flatI (xs : List Int) : xs.flatMap encI = xs.map (Value.int .i64) := by
  induction xs with
  | nil => rfl
  | cons x xs ih => rw [List.flatMap_cons, ih]; rfl
theorem grownBy_of_drew {a b : World} {row : Option Nat} (h : a.drew.grownBy b row) : a.grownBy b row := ⟨h.os, h.tape, h.output, h.size, h.block⟩
theorem grownBy_trans {a b c : World} {k : Nat} (h : a.grownBy b (some k)) (h' : b.grownBy c (some k)) : a.grownBy c (some k) :=
  ⟨h'.os.trans h.os, h'.tape.trans h.tape, h'.output.trans h.output, Nat.le_trans h.size h'.size, fun i hi hne => (h'.block i (Nat.lt_of_lt_of_le hi h.size) hne).trans (h.block i hi hne)⟩

/-- append where there is room, as one step of a region that draws, told of rows -/
theorem step_append_fits {P : Program} {ops : Array Oper} {o : Oper} {a : Act} {w : World} {K : Act → World → Prop} {Q : Exit → Act → World → Prop} {E : Prop}
    (hgd : o.guard = none) (s x : Operand) (t : TypeId) (hop : o.op = Op.call { callee := Callee.builtin Builtin.append, args := #[s, x], argTypes := #[t, t] })
    (base : Nat) (e : TypeId) (i : TypeInfo) (size : Nat) (ht : P.underlying t = some (.slice e)) (hi : P.info? e = some i) (hsize : i.size = size)
    (g n cap : Nat) (xs : List Value) (hs : a.eval s = .slice (some ⟨g, 0, none⟩) n cap) (hown : w.ownsRow base e size (.slice (some ⟨g, 0, none⟩) n cap) n xs)
    (ad : Addr) (m c : Nat) (news : List Value) (hx : a.eval x = .slice (some ad) m c) (hl : news.length = m * size) (hnews : ∀ j u, news[j]? = some u → w.cell? (ad.add j) = some u) (h1 : ∀ u ∈ news, u.oneCell' = true)
    (hroom : n + m ≤ cap)
    (h : ∀ w', w'.ownsRow base e size (.slice (some ⟨g, 0, none⟩) (n + m) cap) (n + m) (xs ++ news) → w.grownBy w' (some g) → K (a.put o.dst (.slice (some ⟨g, 0, none⟩) (n + m) cap)) w') :
    if Region.wanted o (yielded ops a.tmps) = true then Oper.wp P o a w K Q else E := by
  have hw : Region.wanted o (yielded ops a.tmps) = true := by simp [Region.wanted, hgd]
  rw [if_pos hw]
  obtain ⟨w', hr, h2, h3⟩ := run_append_fits (P := P) w base t o.type e i size ht hi hsize g n cap xs hown ad m c news hl hnews h1 hroom
  unfold Oper.wp execOp
  simp only [hop, resolve, invoke, builtin, Sem.run_bind, Sem.run_pure, Result.andThen_ok, List.map_toArray, List.map_cons, List.map_nil, hs, hx, hr]
  exact h w' h2 h3

def DelPost (base g cap : Nat) (xs : List Int) (i : Nat) (w : World) (e : Ending) (w' : World) : Prop := e = .returned (.slice (some ⟨g, 0, none⟩) (xs.length - 1) cap) ∧ Own encI 1 3 w' base (.slice (some ⟨g, 0, none⟩) (xs.length - 1) cap) (xs.eraseIdx i) ∧ w.grownBy w' (some g)

theorem delete_calls (base : Nat) (g cap : Nat) (xs : List Int) (i : Nat) (w : World) (hown : Own encI 1 3 w base (.slice (some ⟨g, 0, none⟩) xs.length cap) xs) (hi : i < xs.length) (hbig : xs.length ≤ 1000000) :
    Calls Try.prog 46 #[.slice (some ⟨g, 0, none⟩) xs.length cap, .int .i64 i, .int .i64 ((i : Int) + 1)] w (DelPost base g cap xs i w) := by
  have hwr : IntKind.i64.wrap ((i : Int) + 1) = (i : Int) + 1 := by rw [IntKind.wrap_i64]; omega
  have hp0 : (0 : Int) ≤ (i : Int) + 1 := by omega
  have hp1 : (i : Int) + 1 ≤ (xs.length : Int) := by omega
  have hp2 : ((i : Int) + 1).toNat = i + 1 := by omega
  have hcap : xs.length ≤ cap := by
    rcases hown.2 with ⟨h', _⟩ | ⟨g', cap', cur, h', hb, hg, hnc, hcm, hcs, ht⟩
    · simp at h'
    · simp only [Value.slice.injEq, Option.some.injEq, Addr.mk.injEq, and_true, true_and] at h'; omega
  have hne : ((i : Int) == (i : Int) + 1) = false := by simp; omega
  obtain ⟨i0, hi0, hz0, hz1, hz2⟩ := info_parts info3
  have hl := hown.1
  -- where 's[i+1:]' begins
  obtain ⟨A, hA, hnews⟩ : ∃ A : Addr, (if cap = i + 1 then some (⟨g, 0, none⟩ : Addr) else some ⟨g, i + 1, none⟩) = some A ∧ Hid (∀ j u, ((xs.drop (i + 1)).flatMap encI)[j]? = some u → w.drew.cell? (A.add j) = some u) := by
    by_cases h : cap = i + 1
    · refine ⟨⟨g, 0, none⟩, by simp [h], Lib.hid fun j u hu => ?_⟩
      have h0 : xs.drop (i + 1) = [] := List.drop_eq_nil_of_le (by omega)
      rw [h0] at hu
      simp at hu
    · refine ⟨⟨g, i + 1, none⟩, by simp [h], Lib.hid fun j u hu => ?_⟩
      have hj : j < xs.length - (i + 1) := by
        have := (List.getElem?_eq_some_iff.1 hu).1
        rw [flat_length lenI, List.length_drop] at this
        omega
      have hf := flat_get lenI xs (i + 1 + j) (by omega) 0 _ rfl
      have he : u = .int .i64 (xs[i + 1 + j]'(by omega)) := by
        have h2 := flat_get lenI (xs.drop (i + 1)) j (by simp; omega) 0 _ rfl
        simp only [Nat.mul_one, Nat.add_zero] at h2
        rw [hu] at h2
        simpa using h2
      rw [show (⟨g, i + 1, none⟩ : Addr).add j = ⟨g, i + 1 + j, none⟩ by unfold Addr.add; split <;> simp_all]
      show w.cell? _ = _
      rw [World.ownsRow.cellAt hown _ (by omega)]
      simp only [Nat.mul_one, Nat.add_zero] at hf
      rw [hf, he]
  have s1 : Hid (((xs.drop (i + 1)).flatMap encI).length = (xs.length - (i + 1)) * 1) := Lib.hid (by rw [flat_length lenI, List.length_drop])
  have s2 : Hid (∀ u ∈ (xs.drop (i + 1)).flatMap encI, u.oneCell' = true) := Lib.hid fun u hu => by
    obtain ⟨x, _, hx⟩ := List.mem_flatMap.1 hu
    exact oneI x u hx
  have s3 : Hid (w.drew.ownsRow base 3 1 (.slice (some ⟨g, 0, none⟩) i cap) i ((xs.flatMap encI).take (i * 1))) := Lib.hid (ownsRow_take hown i (by omega))
  have HO := Lib.hid hown
  clear hown hl
  have hic : i ≤ cap := by omega
  go_enter Try.func46, Try.ntmps46
  go_wp2_with fail
  go_region_law (refine step_append_fits rfl (.tmp 22) (.tmp 25) 23 rfl base 3 i0 1 Try.underlying23 hi0 hz1 g i cap _ (by simp [Act.eval, Act.put]) s3.out A (xs.length - (i + 1)) (cap - (i + 1)) _ (by simp [Act.eval, Act.put]) s1.out hnews.out s2.out (by omega) ?_; intro w1 hw1 hg1)
  have hlen : i + (xs.length - (i + 1)) = xs.length - 1 := by omega
  rw [hlen] at hw1 ⊢
  have hsp := ownsRow_spare hw1 (xs.length - 1) (by omega)
  have hcl := Lib.run_clear_slice (P := Try.prog) w1 23 3 0 (.int .i64 0) Try.underlying23 (fun w => by kernel_rfl) rfl rfl g (xs.length - 1) 1 (cap - (xs.length - 1)) (by omega) (fun j hj => by
    have : j = 0 := by omega
    subst this; exact hsp.1) (fun j hj => by
    have : j = 0 := by omega
    subst this; exact hsp.2)
  have hlt : xs.length - 1 ≤ xs.length := by omega
  have hlt2 : xs.length ≤ cap := by omega
  have HW := Lib.hid (And.intro hw1 hg1)
  clear hw1 hg1 hsp hlen
  have e1 : xs.length - (xs.length - 1) = 1 := by omega
  have hcl2 : Sem.run Try.prog (Builtin.clear_ #[23] 0 #[.slice (some ⟨g, xs.length - 1, none⟩) 1 (cap - (xs.length - 1))]) w1 = .ok (.tuple #[]) (w1.setCell ⟨g, xs.length - 1, none⟩ (.int .i64 0)) := hcl
  clear hcl
  go_wp2_with fail
  go_ret
  have hE : (xs.flatMap encI).take (i * 1) ++ (xs.drop (i + 1)).flatMap encI = (xs.eraseIdx i).flatMap encI := by
    rw [List.eraseIdx_eq_take_drop_succ, List.flatMap_append, Nat.mul_one]
    congr 1
    rw [flatI, flatI, ← List.map_take]
  refine ⟨rfl, ?_, grownBy_trans (grownBy_of_drew HW.out.2) ((ownsRow_beyond HW.out.1 (xs.length - 1) (by omega) _).2)⟩
  have := (ownsRow_beyond HW.out.1 (xs.length - 1) (by omega) (.int .i64 0)).1
  rw [hE] at this
  unfold Own
  rw [List.length_eraseIdx_of_lt hi]
  exact this
end Go.Proofs.Ythpcipfloofbcaa
