/-
  No cell of these rows narrows 'for every input' (looked for: loops, veiled, ifaces, maps, wideKeys, modest, calm, conditions, laid).
  DERIVED. THE GIVEN ROWS OF THIS SEAT. 5 by the template 'for every input the law returns true; each argument reads behind the call as it read before'; 0 by the template 'total and deterministic' (their statements: YthpcipfloofbcaaTotals.lean).
  GIVEN WITH THE SEED: the statements are not yours to turn. If you find one false, say at which input.
  Laid BY PROGRAM, IN A SANDBOX (cutbox-rows.mjs): the forced cells as the released guide's own fill.sh prints them over the translation 253c3aae2179cce4… (all of the seat's roots in one cut). By AI agents, Wed Nov 11 2026. No macro, syntax, notation, axiom, sorry.
-/
import Derived.Test.YthpcipfloofbcaaChecked
import GoSem.Claim
import GoSem.ClaimJoined
import GoSem.ClaimMapViews
import Derived.JoinedTies
import Derived.KernelRfl
namespace Go.Proofs.Ythpcipfloofbcaa
/- THE CELL 'sum', in the pinned program and in every row, IS THE sha256 OF THE DUMP (.gsa) THAT YthpcipfloofbcaaProg.lean LOADS. Nothing in Lean hashes anything: it is a label: what it is worth is what the hold of that sum in a sandbox is worth. -/
noncomputable def Try.pinned : Pinned := { name := "ythpcipfloofbcaa", sum := "253c3aae2179cce474999f07fb34734691f47939978f5faa40f21efcd3b6e0f7", checked := Try.checked }
namespace Rows
def none {H : Type} : Left H := { results := [], args := [] }

/-- 'raddlelaw34.QuietOnce': WHATEVER THE INPUT: true; the input reads as it did. -/
def quietOnceSpec : ChangeSpec := { name := "quietOnce", fn := fun _ => fun
  | [d1, d2] => { results := [.lit (.bool true)], args := [d1, d2] }
  | _ => none }
def quietOnceRow : OpenClaim := { program := "ythpcipfloofbcaa", sum := "253c3aae2179cce474999f07fb34734691f47939978f5faa40f21efcd3b6e0f7", func := "raddle/raddlelaw34.QuietOnce", spec := "quietOnce", unfollowed := true, recurses := true, apart := false }
def QuietOnceSaid : Prop := quietOnceRow.holds Try.pinned (OpenSpec.ofChange quietOnceSpec)

/-- ITS FALSE NEIGHBOUR: 'it returns false'. Refute it at one input. -/
def quietOnceWrong : ChangeSpec := { name := "quietOnce", fn := fun _ => fun
  | [d1, d2] => { results := [.lit (.bool false)], args := [d1, d2] }
  | _ => none }
def QuietOnceWrongFalsely : Prop := quietOnceRow.holds Try.pinned (OpenSpec.ofChange quietOnceWrong)

/-- 'raddlelaw34.QuietPlays': WHATEVER THE INPUT: true; the input reads as it did. -/
def quietPlaysSpec : ChangeSpec := { name := "quietPlays", fn := fun _ => fun
  | [d1, d2, d3] => { results := [.lit (.bool true)], args := [d1, d2, d3] }
  | _ => none }
def quietPlaysRow : OpenClaim := { program := "ythpcipfloofbcaa", sum := "253c3aae2179cce474999f07fb34734691f47939978f5faa40f21efcd3b6e0f7", func := "raddle/raddlelaw34.QuietPlays", spec := "quietPlays", unfollowed := true, recurses := true, apart := false }
def QuietPlaysSaid : Prop := quietPlaysRow.holds Try.pinned (OpenSpec.ofChange quietPlaysSpec)

/-- ITS FALSE NEIGHBOUR: 'it returns false'. Refute it at one input. -/
def quietPlaysWrong : ChangeSpec := { name := "quietPlays", fn := fun _ => fun
  | [d1, d2, d3] => { results := [.lit (.bool false)], args := [d1, d2, d3] }
  | _ => none }
def QuietPlaysWrongFalsely : Prop := quietPlaysRow.holds Try.pinned (OpenSpec.ofChange quietPlaysWrong)

/-- 'raddlelaw34.QuietSteps': WHATEVER THE INPUT: true; the input reads as it did. -/
def quietStepsSpec : ChangeSpec := { name := "quietSteps", fn := fun _ => fun
  | [d1, d2, d3] => { results := [.lit (.bool true)], args := [d1, d2, d3] }
  | _ => none }
def quietStepsRow : OpenClaim := { program := "ythpcipfloofbcaa", sum := "253c3aae2179cce474999f07fb34734691f47939978f5faa40f21efcd3b6e0f7", func := "raddle/raddlelaw34.QuietSteps", spec := "quietSteps", unfollowed := true, recurses := true, apart := false }
def QuietStepsSaid : Prop := quietStepsRow.holds Try.pinned (OpenSpec.ofChange quietStepsSpec)

/-- ITS FALSE NEIGHBOUR: 'it returns false'. Refute it at one input. -/
def quietStepsWrong : ChangeSpec := { name := "quietSteps", fn := fun _ => fun
  | [d1, d2, d3] => { results := [.lit (.bool false)], args := [d1, d2, d3] }
  | _ => none }
def QuietStepsWrongFalsely : Prop := quietStepsRow.holds Try.pinned (OpenSpec.ofChange quietStepsWrong)

/-- 'raddlelaw34.QuietTells': WHATEVER THE INPUT: true; the input reads as it did. -/
def quietTellsSpec : ChangeSpec := { name := "quietTells", fn := fun _ => fun
  | [d1, d2] => { results := [.lit (.bool true)], args := [d1, d2] }
  | _ => none }
def quietTellsRow : OpenClaim := { program := "ythpcipfloofbcaa", sum := "253c3aae2179cce474999f07fb34734691f47939978f5faa40f21efcd3b6e0f7", func := "raddle/raddlelaw34.QuietTells", spec := "quietTells", unfollowed := true, recurses := true, apart := false }
def QuietTellsSaid : Prop := quietTellsRow.holds Try.pinned (OpenSpec.ofChange quietTellsSpec)

/-- ITS FALSE NEIGHBOUR: 'it returns false'. Refute it at one input. -/
def quietTellsWrong : ChangeSpec := { name := "quietTells", fn := fun _ => fun
  | [d1, d2] => { results := [.lit (.bool false)], args := [d1, d2] }
  | _ => none }
def QuietTellsWrongFalsely : Prop := quietTellsRow.holds Try.pinned (OpenSpec.ofChange quietTellsWrong)

/-- 'raddlelaw34.QuietEnds': WHATEVER THE INPUT: true; the input reads as it did. -/
def quietEndsSpec : ChangeSpec := { name := "quietEnds", fn := fun _ => fun
  | [d1, d2] => { results := [.lit (.bool true)], args := [d1, d2] }
  | _ => none }
def quietEndsRow : OpenClaim := { program := "ythpcipfloofbcaa", sum := "253c3aae2179cce474999f07fb34734691f47939978f5faa40f21efcd3b6e0f7", func := "raddle/raddlelaw34.QuietEnds", spec := "quietEnds", unfollowed := true, recurses := true, apart := false }
def QuietEndsSaid : Prop := quietEndsRow.holds Try.pinned (OpenSpec.ofChange quietEndsSpec)

/-- ITS FALSE NEIGHBOUR: 'it returns false'. Refute it at one input. -/
def quietEndsWrong : ChangeSpec := { name := "quietEnds", fn := fun _ => fun
  | [d1, d2] => { results := [.lit (.bool false)], args := [d1, d2] }
  | _ => none }
def QuietEndsWrongFalsely : Prop := quietEndsRow.holds Try.pinned (OpenSpec.ofChange quietEndsWrong)

/- THE SECOND FORM. 'bulk': how many values and letters a reading holds, each counted each time it is reached (what is shared counts as often as it is met; a slice's spare places count too). A statement '..UptoSaid' is the law's where the arguments, and the package variables that the reading takes, are together of bulk at most 1048576: NARROWER than '..Said'. Prove '..Said' where nothing that the law and all that it calls make is longer than what came in: it says more and counts as full. Else prove '..UptoSaid'. A law counts once. -/
mutual
def uptoBulk {H : Type} : DataW H → Nat
  | .lit (.string bytes) => bytes.length + 1
  | .lit _ => 1
  | .nil => 1
  | .ptr d => uptoBulk d + 1
  | .slice elems spare => uptoBulkAll elems + uptoBulkAll spare + 1
  | .agg parts => uptoBulkAll parts + 1
  | .iface _ d => uptoBulk d + 1
  | .map entries => uptoBulkEntries entries + 1
  | .held _ => 1
def uptoBulkAll {H : Type} : List (DataW H) → Nat
  | [] => 0
  | d :: r => uptoBulk d + uptoBulkAll r
def uptoBulkEntries {H : Type} : List (Lit × DataW H) → Nat
  | [] => 0
  | x :: r => uptoBulkEntry x + uptoBulkEntries r
def uptoBulkEntry {H : Type} : Lit × DataW H → Nat
  | (.string bytes, d) => bytes.length + uptoBulk d + 1
  | (_, d) => uptoBulk d + 1
 end
def uptoSmall : (H : Type) → List (DataW H) → Bool := fun _ ds => decide (uptoBulkAll ds ≤ 1048576)
def OpenSpec.upto (s : _root_.Go.ChangeSpec) : _root_.Go.OpenSpec := { _root_.Go.OpenSpec.ofChange s with cond := some uptoSmall }

/-- 'raddlelaw34.QuietOnce', WHERE WHAT IT READS IS OF BULK AT MOST 1048576: true; the input reads as it did. -/
def quietOnceUptoRow : OpenClaim := { program := "ythpcipfloofbcaa", sum := "253c3aae2179cce474999f07fb34734691f47939978f5faa40f21efcd3b6e0f7", func := "raddle/raddlelaw34.QuietOnce", spec := "quietOnce", unfollowed := true, recurses := true, apart := false, narrowed := true }
def QuietOnceUptoSaid : Prop := quietOnceUptoRow.holds Try.pinned (OpenSpec.upto quietOnceSpec)

/-- 'raddlelaw34.QuietPlays', WHERE WHAT IT READS IS OF BULK AT MOST 1048576: true; the input reads as it did. -/
def quietPlaysUptoRow : OpenClaim := { program := "ythpcipfloofbcaa", sum := "253c3aae2179cce474999f07fb34734691f47939978f5faa40f21efcd3b6e0f7", func := "raddle/raddlelaw34.QuietPlays", spec := "quietPlays", unfollowed := true, recurses := true, apart := false, narrowed := true }
def QuietPlaysUptoSaid : Prop := quietPlaysUptoRow.holds Try.pinned (OpenSpec.upto quietPlaysSpec)

/-- 'raddlelaw34.QuietSteps', WHERE WHAT IT READS IS OF BULK AT MOST 1048576: true; the input reads as it did. -/
def quietStepsUptoRow : OpenClaim := { program := "ythpcipfloofbcaa", sum := "253c3aae2179cce474999f07fb34734691f47939978f5faa40f21efcd3b6e0f7", func := "raddle/raddlelaw34.QuietSteps", spec := "quietSteps", unfollowed := true, recurses := true, apart := false, narrowed := true }
def QuietStepsUptoSaid : Prop := quietStepsUptoRow.holds Try.pinned (OpenSpec.upto quietStepsSpec)

/-- 'raddlelaw34.QuietTells', WHERE WHAT IT READS IS OF BULK AT MOST 1048576: true; the input reads as it did. -/
def quietTellsUptoRow : OpenClaim := { program := "ythpcipfloofbcaa", sum := "253c3aae2179cce474999f07fb34734691f47939978f5faa40f21efcd3b6e0f7", func := "raddle/raddlelaw34.QuietTells", spec := "quietTells", unfollowed := true, recurses := true, apart := false, narrowed := true }
def QuietTellsUptoSaid : Prop := quietTellsUptoRow.holds Try.pinned (OpenSpec.upto quietTellsSpec)

/-- 'raddlelaw34.QuietEnds', WHERE WHAT IT READS IS OF BULK AT MOST 1048576: true; the input reads as it did. -/
def quietEndsUptoRow : OpenClaim := { program := "ythpcipfloofbcaa", sum := "253c3aae2179cce474999f07fb34734691f47939978f5faa40f21efcd3b6e0f7", func := "raddle/raddlelaw34.QuietEnds", spec := "quietEnds", unfollowed := true, recurses := true, apart := false, narrowed := true }
def QuietEndsUptoSaid : Prop := quietEndsUptoRow.holds Try.pinned (OpenSpec.upto quietEndsSpec)

end Rows
end Go.Proofs.Ythpcipfloofbcaa
