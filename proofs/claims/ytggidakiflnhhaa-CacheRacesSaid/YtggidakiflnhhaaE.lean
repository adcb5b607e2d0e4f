import Derived.Test.YtggidakiflnhhaaD
namespace Go.Proofs.Ytggidakiflnhhaa
open Go.RowKit
set_option maxHeartbeats 4000000
set_option maxRecDepth 100000
set_option linter.unusedSimpArgs false
set_option linter.unusedVariables false

/-- append where there is room, as one step of a region that draws, told of rows -/
theorem step_append_fits {P : Program} {ops : Array Oper} {o : Oper} {a : Act} {w : World} {K : Act → World → Prop} {Q : Exit → Act → World → Prop} {E : Prop}
    (hgd : o.guard = none) (s x : Operand) (t : TypeId) (hop : o.op = Op.call { callee := Callee.builtin Builtin.append, args := #[s, x], argTypes := #[t, t] })
    (base : Nat) (e : TypeId) (i : TypeInfo) (size : Nat) (ht : P.underlying t = some (.slice e)) (hi : P.info? e = some i) (hsize : i.size = size)
    (g n cap : Nat) (xs : List Value) (hs : a.eval s = .slice (some ⟨g, 0, none⟩) n cap) (hown : w.ownsRow base e size (.slice (some ⟨g, 0, none⟩) n cap) n xs)
    (ad : Addr) (m c : Nat) (news : List Value) (hx : a.eval x = .slice (some ad) m c) (hl : news.length = m * size) (hnews : ∀ j u, news[j]? = some u → w.cell? (ad.add j) = some u) (h1 : ∀ u ∈ news, u.oneCell' = true)
    (hroom : n + m ≤ cap)
    (h : ∀ w', w'.ownsRow base e size (.slice (some ⟨g, 0, none⟩) (n + m) cap) (n + m) (xs ++ news) → w.grownBy w' (some g) → K (a.put o.dst (.slice (some ⟨g, 0, none⟩) (n + m) cap)) w') :
    if Region.wanted o (yielded ops a.tmps) = true then Oper.wp P o a w K Q else E := by
  have hw : Region.wanted o (yielded ops a.tmps) = true := by simp [Region.wanted, hgd]
  rw [if_pos hw]
  obtain ⟨w', hr, h2, h3⟩ := run_append_fits (P := P) w base t o.type e i size ht hi hsize g n cap xs hown ad m c news hl hnews h1 hroom
  unfold Oper.wp execOp
  simp only [hop, resolve, invoke, builtin, Sem.run_bind, Sem.run_pure, Result.andThen_ok, List.map_toArray, List.map_cons, List.map_nil, hs, hx, hr]
  exact h w' h2 h3

def DelPost (base g cap : Nat) (xs : List Nat) (i : Nat) (w : World) (e : Ending) (w' : World) : Prop := e = .returned (.slice (some ⟨g, 0, none⟩) (xs.length - 1) cap) ∧ Own encQ 1 100 w' base (.slice (some ⟨g, 0, none⟩) (xs.length - 1) cap) (xs.eraseIdx i) ∧ w.grownBy w' (some g)

theorem delete_calls (base : Nat) (g cap : Nat) (xs : List Nat) (i : Nat) (w : World) (hown : Own encQ 1 100 w base (.slice (some ⟨g, 0, none⟩) xs.length cap) xs) (hi : i < xs.length) (hbig : xs.length ≤ 1000000) :
    Calls Try.prog 65 #[.slice (some ⟨g, 0, none⟩) xs.length cap, .int .i64 i, .int .i64 ((i : Int) + 1)] w (DelPost base g cap xs i w) := by
  have hwr : IntKind.i64.wrap ((i : Int) + 1) = (i : Int) + 1 := by rw [IntKind.wrap_i64]; omega
  have hp0 : (0 : Int) ≤ (i : Int) + 1 := by omega
  have hp1 : (i : Int) + 1 ≤ (xs.length : Int) := by omega
  have hp2 : ((i : Int) + 1).toNat = i + 1 := by omega
  have hcap : xs.length ≤ cap := by
    rcases hown.2 with ⟨h', _⟩ | ⟨g', cap', cur, h', hb, hg, hnc, hcm, hcs, ht⟩
    · simp at h'
    · simp only [Value.slice.injEq, Option.some.injEq, Addr.mk.injEq, and_true, true_and] at h'; omega
  have hne : ((i : Int) == (i : Int) + 1) = false := by simp; omega
  obtain ⟨i0, hi0, hz0, hz1, hz2⟩ := info_parts info100
  have hl := hown.1
  -- where 's[i+1:]' begins
  obtain ⟨A, hA, hnews⟩ : ∃ A : Addr, (if cap = i + 1 then some (⟨g, 0, none⟩ : Addr) else some ⟨g, i + 1, none⟩) = some A ∧ Hid (∀ j u, ((xs.drop (i + 1)).flatMap encQ)[j]? = some u → w.drew.cell? (A.add j) = some u) := by
    by_cases h : cap = i + 1
    · refine ⟨⟨g, 0, none⟩, by simp [h], Lib.hid fun j u hu => ?_⟩
      have h0 : xs.drop (i + 1) = [] := List.drop_eq_nil_of_le (by omega)
      rw [h0] at hu
      simp at hu
    · refine ⟨⟨g, i + 1, none⟩, by simp [h], Lib.hid fun j u hu => ?_⟩
      have hj : j < xs.length - (i + 1) := by
        have := (List.getElem?_eq_some_iff.1 hu).1
        rw [flat_length lenQ, List.length_drop] at this
        omega
      have hf := flat_get lenQ xs (i + 1 + j) (by omega) 0 _ rfl
      have he : u = ptr (xs[i + 1 + j]'(by omega)) := by
        have h2 := flat_get lenQ (xs.drop (i + 1)) j (by simp; omega) 0 _ rfl
        simp only [Nat.mul_one, Nat.add_zero] at h2
        rw [hu] at h2
        simpa using h2
      rw [show (⟨g, i + 1, none⟩ : Addr).add j = ⟨g, i + 1 + j, none⟩ by unfold Addr.add; split <;> simp_all]
      show w.cell? _ = _
      rw [World.ownsRow.cellAt hown _ (by omega)]
      simp only [Nat.mul_one, Nat.add_zero] at hf
      rw [hf, he]
  have s1 : Hid (((xs.drop (i + 1)).flatMap encQ).length = (xs.length - (i + 1)) * 1) := Lib.hid (by rw [flat_length lenQ, List.length_drop])
  have s2 : Hid (∀ u ∈ (xs.drop (i + 1)).flatMap encQ, u.oneCell' = true) := Lib.hid fun u hu => by
    obtain ⟨x, _, hx⟩ := List.mem_flatMap.1 hu
    exact oneQ x u hx
  have s3 : Hid (w.drew.ownsRow base 100 1 (.slice (some ⟨g, 0, none⟩) i cap) i ((xs.flatMap encQ).take (i * 1))) := Lib.hid (ownsRow_take hown i (by omega))
  have HO := Lib.hid hown
  clear hown hl
  have hic : i ≤ cap := by omega
  go_enter Try.func65, Try.ntmps65
  go_wp2_with fail
  go_region_law (refine step_append_fits rfl (.tmp 22) (.tmp 25) 99 rfl base 100 i0 1 Try.underlying99 hi0 hz1 g i cap _ (by simp [Act.eval, Act.put]) s3.out A (xs.length - (i + 1)) (cap - (i + 1)) _ (by simp [Act.eval, Act.put]) s1.out hnews.out s2.out (by omega) ?_; intro w1 hw1 hg1)
  have hlen : i + (xs.length - (i + 1)) = xs.length - 1 := by omega
  rw [hlen] at hw1 ⊢
  have hsp := ownsRow_spare hw1 (xs.length - 1) (by omega)
  have hcl := Lib.run_clear_slice (P := Try.prog) w1 99 100 0 (.pointer none) Try.underlying99 (fun w => by kernel_rfl) rfl rfl g (xs.length - 1) 1 (cap - (xs.length - 1)) (by omega) (fun j hj => by
    have : j = 0 := by omega
    subst this; exact hsp.1) (fun j hj => by
    have : j = 0 := by omega
    subst this; exact hsp.2)
  have hlt : xs.length - 1 ≤ xs.length := by omega
  have hlt2 : xs.length ≤ cap := by omega
  have HW := Lib.hid (And.intro hw1 hg1)
  clear hw1 hg1 hsp hlen
  have e1 : xs.length - (xs.length - 1) = 1 := by omega
  have hcl2 : Sem.run Try.prog (Builtin.clear_ #[99] 0 #[.slice (some ⟨g, xs.length - 1, none⟩) 1 (cap - (xs.length - 1))]) w1 = .ok (.tuple #[]) (w1.setCell ⟨g, xs.length - 1, none⟩ (.pointer none)) := hcl
  clear hcl
  go_wp2_with fail
  go_ret
  have hE : (xs.flatMap encQ).take (i * 1) ++ (xs.drop (i + 1)).flatMap encQ = (xs.eraseIdx i).flatMap encQ := by
    rw [List.eraseIdx_eq_take_drop_succ, List.flatMap_append, Nat.mul_one]
    congr 1
    rw [flatQ, flatQ, ← List.map_take]
  refine ⟨rfl, ?_, grownBy_trans (grownBy_of_drew HW.out.2) ((ownsRow_beyond HW.out.1 (xs.length - 1) (by omega) _).2)⟩
  have := (ownsRow_beyond HW.out.1 (xs.length - 1) (by omega) (.pointer none)).1
  rw [hE] at this
  unfold Own
  rw [List.length_eraseIdx_of_lt hi]
  exact this
end Go.Proofs.Ytggidakiflnhhaa
