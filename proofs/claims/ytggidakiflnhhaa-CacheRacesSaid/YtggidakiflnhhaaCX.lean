import Derived.Test.YtggidakiflnhhaaAE
import Derived.Test.YtggidakiflnhhaaY
namespace Go.Proofs.Ytggidakiflnhhaa
open Go.RowKit
set_option maxHeartbeats 8000000
set_option maxRecDepth 100000
set_option linter.unusedSimpArgs false
set_option linter.unusedVariables false

/-! small laws that the follower's texts share with those of the reference's Run (the same names: never import both) -/
theorem box2 (w : World) (o0 o1 : Obj) : ∃ W, (w.alloc o0).alloc o1 = W ∧ Below w.heap.size w W ∧ W.heap.size = w.heap.size + 2 ∧ W.heap[w.heap.size]? = some o0 ∧ W.heap[w.heap.size + 1]? = some o1 := by
  refine ⟨_, rfl, ((Below.refl _ _).alloc (Nat.le_refl _) _).alloc (by simp) _, by simp, ?_, ?_⟩
  · rw [Below.heap_alloc _ _ _ (by simp)]
    exact Go.heap_alloc_new _ _
  · have := Go.heap_alloc_new (w.alloc o0) o1
    simpa using this
theorem wb_with (A : AS) (cs : List (List En)) (e : En) : wb { A with cs := cs } e = { wb A e with cs := cs } := by unfold wb; split <;> rfl
theorem rel_take {A : AS} {k : Nat} {es : List En} (hk : A.cs[k]? = some es) : ∀ j, j ≤ es.length → (List.range j).foldl (rlS k) A = { (es.take j).foldl wb A with cs := A.cs.set k ((es.take j).map clE ++ es.drop j) }
  | 0, _ => by simp [set_same hk]
  | j + 1, hj => by
    have ih := rel_take hk j (by omega)
    have hkl := (List.getElem?_eq_some_iff.1 hk).1
    rw [range_succ_foldl, ih, rlS_eq (es := (es.take j).map clE ++ es.drop j) (e := es[j]'(by omega)) (by unfold rowA; simp [hkl]) (by rw [List.getElem?_append_right (by simp; omega)]; simp; rw [Nat.min_eq_left (by omega)]; simp)]
    simp only [wb_with, List.set_set]
    have h1 : ((es.take j).map clE ++ es.drop j).set j (clE (es[j]'(by omega))) = (es.take (j + 1)).map clE ++ es.drop (j + 1) := by
      rw [List.set_append_right _ _ (by simp; omega)]
      simp only [List.length_map, List.length_take, Nat.min_eq_left (show j ≤ es.length by omega), Nat.sub_self]
      rw [List.drop_eq_getElem_cons (show j < es.length by omega), List.set_cons_zero, List.take_succ_eq_append_getElem (show j < es.length by omega), List.map_append, List.append_assoc]
      rfl
    have h2 : (es.take (j + 1)).foldl wb A = wb ((es.take j).foldl wb A) (es[j]'(by omega)) := by
      rw [List.take_succ_eq_append_getElem (show j < es.length by omega), List.foldl_append]
      rfl
    rw [h1, h2]
theorem rel_all {A : AS} {k : Nat} {es : List En} (hk : A.cs[k]? = some es) : relA A k = { es.foldl wb A with cs := A.cs.set k (es.map clE) } := by
  unfold relA
  rw [rowA_some hk, rel_take hk es.length (Nat.le_refl _)]
  simp
theorem own_at {α : Type} {enc : α → List Value} {sz : Nat} {t : TypeId} {w w' : World} {base : Nat} {v : Value} {xs : List α} (h : Own enc sz t w base v xs) (hk : ∀ g, v.ownBlock = some g → w'.heap[g]? = w.heap[g]?) : Own enc sz t w' base v xs := by
  obtain ⟨h1, h2⟩ := h
  refine ⟨h1, ?_⟩
  rcases h2 with ⟨e1, e2⟩ | ⟨g, cap, cur, e1, hb, hg, rest⟩
  · exact Or.inl ⟨e1, e2⟩
  · exact Or.inr ⟨g, cap, cur, e1, hb, (hk g (by rw [e1]; rfl)).trans hg, rest⟩
theorem info23s : (Try.prog.info? 23).map (·.size) = some 4 := by kernel_rfl
theorem info25s : (Try.prog.info? 25).map (·.size) = some 4 := by kernel_rfl
def rnV (c : Cf) (l : List Op) : List Int := if chkF c l = 0 then (runA c l).vs else []
def rnM (c : Cf) (l : List Op) : List Int := if chkF c l = 0 then (runA c l).m else []
def rnC (c : Cf) (l : List Op) : Nat × Nat × Nat := if chkF c l = 0 then ((runA c l).f, (runA c l).wr, (runA c l).h) else (0, 0, 0)
theorem run_one {c : Cf} {l : List Op} {w : World} {e : Ending} {w' : World} (h : RunPost c l w e w') : ∃ V cV M cM, e = .returned (.tuple #[.slice V (rnV c l).length cV, .slice M (rnM c l).length cM, .agg #[.int .i64 ((rnC c l).1 : Int), .int .i64 ((rnC c l).2.1 : Int), .int .i64 ((rnC c l).2.2 : Int)], .int .i64 (chkF c l)]) ∧ Rd encI 1 w' V (rnV c l) ∧ Rd encI 1 w' M (rnM c l) ∧ Below w.heap.size w w' := by
  unfold RunPost at h
  unfold rnV rnM rnC
  split at h
  · rename_i hk
    obtain ⟨V, cV, M, rfl, h1, h2, h3⟩ := h
    refine ⟨V, cV, some M, (runA c l).m.length, ?_, ?_, ?_, h3⟩
    · simp only [if_pos hk, hk, if_true]
    · rw [if_pos hk]; exact h1
    · rw [if_pos hk]; exact h2
  · rename_i hk
    obtain ⟨rfl, h3⟩ := h
    refine ⟨none, 0, none, 0, ?_, ?_, ?_, h3⟩
    · simp only [if_neg hk]; rfl
    · rw [if_neg hk]; exact Rd.nil _ _ _ _
    · rw [if_neg hk]; exact Rd.nil _ _ _ _
end Go.Proofs.Ytggidakiflnhhaa
