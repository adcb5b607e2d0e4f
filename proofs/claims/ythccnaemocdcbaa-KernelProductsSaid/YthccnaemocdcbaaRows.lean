/-
  No cell of these rows narrows 'for every input' (looked for: loops, veiled, ifaces, maps, wideKeys, modest, calm, conditions, laid).
  DERIVED. THE GIVEN ROWS OF THIS SEAT. 6 by the template 'for every input the law returns true; each argument reads behind the call as it read before'; 0 by the template 'total and deterministic' (their statements: YthccnaemocdcbaaTotals.lean).
  GIVEN WITH THE SEED: the statements are not yours to turn. If you find one false, say at which input.
  Laid BY PROGRAM, IN A SANDBOX (cutbox-rows.mjs): the forced cells as the released guide's own fill.sh prints them over the translation a76113f75a0f46c8… (all of the seat's roots in one cut). By AI agents, Wed Nov 11 2026. No macro, syntax, notation, axiom, sorry.
-/
import Derived.Test.YthccnaemocdcbaaChecked
import GoSem.Claim
import GoSem.ClaimJoined
import GoSem.ClaimMapViews
import Derived.JoinedTies
import Derived.KernelRfl
namespace Go.Proofs.Ythccnaemocdcbaa
/- THE CELL 'sum', in the pinned program and in every row, IS THE sha256 OF THE DUMP (.gsa) THAT YthccnaemocdcbaaProg.lean LOADS. Nothing in Lean hashes anything: it is a label: what it is worth is what the hold of that sum in a sandbox is worth. -/
noncomputable def Try.pinned : Pinned := { name := "ythccnaemocdcbaa", sum := "a76113f75a0f46c808715e22e61351422121c835b16ac9146dcfe9be6dc274db", checked := Try.checked }
namespace Rows
def none {H : Type} : Left H := { results := [], args := [] }

/-- 'raddlelaw39.KernelInverse': WHATEVER THE INPUT: true; the input reads as it did. -/
def kernelInverseSpec : ChangeSpec := { name := "kernelInverse", fn := fun _ => fun
  | [d1, d2] => { results := [.lit (.bool true)], args := [d1, d2] }
  | _ => none }
def kernelInverseRow : OpenClaim := { program := "ythccnaemocdcbaa", sum := "a76113f75a0f46c808715e22e61351422121c835b16ac9146dcfe9be6dc274db", func := "raddle/raddlelaw39.KernelInverse", spec := "kernelInverse", inPlace := ["math.archTrunc", "math.Float64bits", "math.Float64frombits"], unfollowed := true, recurses := true, plainKeys := false, leaving := true, apart := false }
def KernelInverseSaid : Prop := kernelInverseRow.holds Try.pinned (OpenSpec.ofChange kernelInverseSpec)

/-- ITS FALSE NEIGHBOUR: 'it returns false'. Refute it at one input. -/
def kernelInverseWrong : ChangeSpec := { name := "kernelInverse", fn := fun _ => fun
  | [d1, d2] => { results := [.lit (.bool false)], args := [d1, d2] }
  | _ => none }
def KernelInverseWrongFalsely : Prop := kernelInverseRow.holds Try.pinned (OpenSpec.ofChange kernelInverseWrong)

/-- 'raddlelaw39.KernelConvolves': WHATEVER THE INPUT: true; the input reads as it did. -/
def kernelConvolvesSpec : ChangeSpec := { name := "kernelConvolves", fn := fun _ => fun
  | [d1, d2, d3] => { results := [.lit (.bool true)], args := [d1, d2, d3] }
  | _ => none }
def kernelConvolvesRow : OpenClaim := { program := "ythccnaemocdcbaa", sum := "a76113f75a0f46c808715e22e61351422121c835b16ac9146dcfe9be6dc274db", func := "raddle/raddlelaw39.KernelConvolves", spec := "kernelConvolves", inPlace := ["math.archTrunc", "math.Float64bits", "math.Float64frombits"], unfollowed := true, recurses := true, plainKeys := false, leaving := true, apart := false }
def KernelConvolvesSaid : Prop := kernelConvolvesRow.holds Try.pinned (OpenSpec.ofChange kernelConvolvesSpec)

/-- ITS FALSE NEIGHBOUR: 'it returns false'. Refute it at one input. -/
def kernelConvolvesWrong : ChangeSpec := { name := "kernelConvolves", fn := fun _ => fun
  | [d1, d2, d3] => { results := [.lit (.bool false)], args := [d1, d2, d3] }
  | _ => none }
def KernelConvolvesWrongFalsely : Prop := kernelConvolvesRow.holds Try.pinned (OpenSpec.ofChange kernelConvolvesWrong)

/-- 'raddlelaw39.KernelProducts': WHATEVER THE INPUT: true; the input reads as it did. -/
def kernelProductsSpec : ChangeSpec := { name := "kernelProducts", fn := fun _ => fun
  | [d1, d2, d3, d4] => { results := [.lit (.bool true)], args := [d1, d2, d3, d4] }
  | _ => none }
def kernelProductsRow : OpenClaim := { program := "ythccnaemocdcbaa", sum := "a76113f75a0f46c808715e22e61351422121c835b16ac9146dcfe9be6dc274db", func := "raddle/raddlelaw39.KernelProducts", spec := "kernelProducts", inPlace := ["math.archTrunc", "math.Float64bits", "math.Float64frombits"], unfollowed := true, recurses := true, plainKeys := false, leaving := true, apart := false }
def KernelProductsSaid : Prop := kernelProductsRow.holds Try.pinned (OpenSpec.ofChange kernelProductsSpec)

/-- ITS FALSE NEIGHBOUR: 'it returns false'. Refute it at one input. -/
def kernelProductsWrong : ChangeSpec := { name := "kernelProducts", fn := fun _ => fun
  | [d1, d2, d3, d4] => { results := [.lit (.bool false)], args := [d1, d2, d3, d4] }
  | _ => none }
def KernelProductsWrongFalsely : Prop := kernelProductsRow.holds Try.pinned (OpenSpec.ofChange kernelProductsWrong)

/-- 'raddlelaw39.KernelLinear': WHATEVER THE INPUT: true; the input reads as it did. -/
def kernelLinearSpec : ChangeSpec := { name := "kernelLinear", fn := fun _ => fun
  | [d1, d2, d3, d4] => { results := [.lit (.bool true)], args := [d1, d2, d3, d4] }
  | _ => none }
def kernelLinearRow : OpenClaim := { program := "ythccnaemocdcbaa", sum := "a76113f75a0f46c808715e22e61351422121c835b16ac9146dcfe9be6dc274db", func := "raddle/raddlelaw39.KernelLinear", spec := "kernelLinear", inPlace := ["math.archTrunc", "math.Float64bits", "math.Float64frombits"], unfollowed := true, recurses := true, plainKeys := false, leaving := true, apart := false }
def KernelLinearSaid : Prop := kernelLinearRow.holds Try.pinned (OpenSpec.ofChange kernelLinearSpec)

/-- ITS FALSE NEIGHBOUR: 'it returns false'. Refute it at one input. -/
def kernelLinearWrong : ChangeSpec := { name := "kernelLinear", fn := fun _ => fun
  | [d1, d2, d3, d4] => { results := [.lit (.bool false)], args := [d1, d2, d3, d4] }
  | _ => none }
def KernelLinearWrongFalsely : Prop := kernelLinearRow.holds Try.pinned (OpenSpec.ofChange kernelLinearWrong)

/-- 'raddlelaw39.KernelStencils': WHATEVER THE INPUT: true; the input reads as it did. -/
def kernelStencilsSpec : ChangeSpec := { name := "kernelStencils", fn := fun _ => fun
  | [d1, d2, d3, d4, d5] => { results := [.lit (.bool true)], args := [d1, d2, d3, d4, d5] }
  | _ => none }
def kernelStencilsRow : OpenClaim := { program := "ythccnaemocdcbaa", sum := "a76113f75a0f46c808715e22e61351422121c835b16ac9146dcfe9be6dc274db", func := "raddle/raddlelaw39.KernelStencils", spec := "kernelStencils", inPlace := ["math.archTrunc", "math.Float64bits", "math.Float64frombits"], unfollowed := true, recurses := true, plainKeys := false, leaving := true, apart := false }
def KernelStencilsSaid : Prop := kernelStencilsRow.holds Try.pinned (OpenSpec.ofChange kernelStencilsSpec)

/-- ITS FALSE NEIGHBOUR: 'it returns false'. Refute it at one input. -/
def kernelStencilsWrong : ChangeSpec := { name := "kernelStencils", fn := fun _ => fun
  | [d1, d2, d3, d4, d5] => { results := [.lit (.bool false)], args := [d1, d2, d3, d4, d5] }
  | _ => none }
def KernelStencilsWrongFalsely : Prop := kernelStencilsRow.holds Try.pinned (OpenSpec.ofChange kernelStencilsWrong)

/-- 'raddlelaw39.KernelParts': WHATEVER THE INPUT: true; the input reads as it did. -/
def kernelPartsSpec : ChangeSpec := { name := "kernelParts", fn := fun _ => fun
  | [d1, d2, d3, d4, d5] => { results := [.lit (.bool true)], args := [d1, d2, d3, d4, d5] }
  | _ => none }
def kernelPartsRow : OpenClaim := { program := "ythccnaemocdcbaa", sum := "a76113f75a0f46c808715e22e61351422121c835b16ac9146dcfe9be6dc274db", func := "raddle/raddlelaw39.KernelParts", spec := "kernelParts", inPlace := ["math.archTrunc", "math.Float64bits", "math.Float64frombits"], unfollowed := true, recurses := true, plainKeys := false, leaving := true, apart := false }
def KernelPartsSaid : Prop := kernelPartsRow.holds Try.pinned (OpenSpec.ofChange kernelPartsSpec)

/-- ITS FALSE NEIGHBOUR: 'it returns false'. Refute it at one input. -/
def kernelPartsWrong : ChangeSpec := { name := "kernelParts", fn := fun _ => fun
  | [d1, d2, d3, d4, d5] => { results := [.lit (.bool false)], args := [d1, d2, d3, d4, d5] }
  | _ => none }
def KernelPartsWrongFalsely : Prop := kernelPartsRow.holds Try.pinned (OpenSpec.ofChange kernelPartsWrong)

/- THE SECOND FORM. 'bulk': how many values and letters a reading holds, each counted each time it is reached (what is shared counts as often as it is met; a slice's spare places count too). A statement '..UptoSaid' is the law's where the arguments, and the package variables that the reading takes, are together of bulk at most 1048576: NARROWER than '..Said'. Prove '..Said' where nothing that the law and all that it calls make is longer than what came in: it says more and counts as full. Else prove '..UptoSaid'. A law counts once. -/
mutual
def uptoBulk {H : Type} : DataW H → Nat
  | .lit (.string bytes) => bytes.length + 1
  | .lit _ => 1
  | .nil => 1
  | .ptr d => uptoBulk d + 1
  | .slice elems spare => uptoBulkAll elems + uptoBulkAll spare + 1
  | .agg parts => uptoBulkAll parts + 1
  | .iface _ d => uptoBulk d + 1
  | .map entries => uptoBulkEntries entries + 1
  | .held _ => 1
def uptoBulkAll {H : Type} : List (DataW H) → Nat
  | [] => 0
  | d :: r => uptoBulk d + uptoBulkAll r
def uptoBulkEntries {H : Type} : List (Lit × DataW H) → Nat
  | [] => 0
  | x :: r => uptoBulkEntry x + uptoBulkEntries r
def uptoBulkEntry {H : Type} : Lit × DataW H → Nat
  | (.string bytes, d) => bytes.length + uptoBulk d + 1
  | (_, d) => uptoBulk d + 1
 end
def uptoSmall : (H : Type) → List (DataW H) → Bool := fun _ ds => decide (uptoBulkAll ds ≤ 1048576)
def OpenSpec.upto (s : _root_.Go.ChangeSpec) : _root_.Go.OpenSpec := { _root_.Go.OpenSpec.ofChange s with cond := some uptoSmall }

/-- 'raddlelaw39.KernelInverse', WHERE WHAT IT READS IS OF BULK AT MOST 1048576: true; the input reads as it did. -/
def kernelInverseUptoRow : OpenClaim := { program := "ythccnaemocdcbaa", sum := "a76113f75a0f46c808715e22e61351422121c835b16ac9146dcfe9be6dc274db", func := "raddle/raddlelaw39.KernelInverse", spec := "kernelInverse", inPlace := ["math.archTrunc", "math.Float64bits", "math.Float64frombits"], unfollowed := true, recurses := true, plainKeys := false, leaving := true, apart := false, narrowed := true }
def KernelInverseUptoSaid : Prop := kernelInverseUptoRow.holds Try.pinned (OpenSpec.upto kernelInverseSpec)

/-- 'raddlelaw39.KernelConvolves', WHERE WHAT IT READS IS OF BULK AT MOST 1048576: true; the input reads as it did. -/
def kernelConvolvesUptoRow : OpenClaim := { program := "ythccnaemocdcbaa", sum := "a76113f75a0f46c808715e22e61351422121c835b16ac9146dcfe9be6dc274db", func := "raddle/raddlelaw39.KernelConvolves", spec := "kernelConvolves", inPlace := ["math.archTrunc", "math.Float64bits", "math.Float64frombits"], unfollowed := true, recurses := true, plainKeys := false, leaving := true, apart := false, narrowed := true }
def KernelConvolvesUptoSaid : Prop := kernelConvolvesUptoRow.holds Try.pinned (OpenSpec.upto kernelConvolvesSpec)

/-- 'raddlelaw39.KernelProducts', WHERE WHAT IT READS IS OF BULK AT MOST 1048576: true; the input reads as it did. -/
def kernelProductsUptoRow : OpenClaim := { program := "ythccnaemocdcbaa", sum := "a76113f75a0f46c808715e22e61351422121c835b16ac9146dcfe9be6dc274db", func := "raddle/raddlelaw39.KernelProducts", spec := "kernelProducts", inPlace := ["math.archTrunc", "math.Float64bits", "math.Float64frombits"], unfollowed := true, recurses := true, plainKeys := false, leaving := true, apart := false, narrowed := true }
def KernelProductsUptoSaid : Prop := kernelProductsUptoRow.holds Try.pinned (OpenSpec.upto kernelProductsSpec)

/-- 'raddlelaw39.KernelLinear', WHERE WHAT IT READS IS OF BULK AT MOST 1048576: true; the input reads as it did. -/
def kernelLinearUptoRow : OpenClaim := { program := "ythccnaemocdcbaa", sum := "a76113f75a0f46c808715e22e61351422121c835b16ac9146dcfe9be6dc274db", func := "raddle/raddlelaw39.KernelLinear", spec := "kernelLinear", inPlace := ["math.archTrunc", "math.Float64bits", "math.Float64frombits"], unfollowed := true, recurses := true, plainKeys := false, leaving := true, apart := false, narrowed := true }
def KernelLinearUptoSaid : Prop := kernelLinearUptoRow.holds Try.pinned (OpenSpec.upto kernelLinearSpec)

/-- 'raddlelaw39.KernelStencils', WHERE WHAT IT READS IS OF BULK AT MOST 1048576: true; the input reads as it did. -/
def kernelStencilsUptoRow : OpenClaim := { program := "ythccnaemocdcbaa", sum := "a76113f75a0f46c808715e22e61351422121c835b16ac9146dcfe9be6dc274db", func := "raddle/raddlelaw39.KernelStencils", spec := "kernelStencils", inPlace := ["math.archTrunc", "math.Float64bits", "math.Float64frombits"], unfollowed := true, recurses := true, plainKeys := false, leaving := true, apart := false, narrowed := true }
def KernelStencilsUptoSaid : Prop := kernelStencilsUptoRow.holds Try.pinned (OpenSpec.upto kernelStencilsSpec)

/-- 'raddlelaw39.KernelParts', WHERE WHAT IT READS IS OF BULK AT MOST 1048576: true; the input reads as it did. -/
def kernelPartsUptoRow : OpenClaim := { program := "ythccnaemocdcbaa", sum := "a76113f75a0f46c808715e22e61351422121c835b16ac9146dcfe9be6dc274db", func := "raddle/raddlelaw39.KernelParts", spec := "kernelParts", inPlace := ["math.archTrunc", "math.Float64bits", "math.Float64frombits"], unfollowed := true, recurses := true, plainKeys := false, leaving := true, apart := false, narrowed := true }
def KernelPartsUptoSaid : Prop := kernelPartsUptoRow.holds Try.pinned (OpenSpec.upto kernelPartsSpec)

end Rows
end Go.Proofs.Ythccnaemocdcbaa
