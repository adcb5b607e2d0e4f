/-
  No cell of these rows narrows 'for every input' (looked for: loops, veiled, ifaces, maps, wideKeys, modest, calm, conditions, laid).
  DERIVED. THE GIVEN ROWS OF THIS SEAT. 7 by the template 'for every input the law returns true; each argument reads behind the call as it read before'; 0 by the template 'total and deterministic' (their statements: YthebembnlmddoaaTotals.lean).
  GIVEN WITH THE SEED: the statements are not yours to turn. If you find one false, say at which input.
  Laid BY PROGRAM, IN A SANDBOX (cutbox-rows.mjs): the forced cells as the released guide's own fill.sh prints them over the translation 8e5ed0473896707c… (all of the seat's roots in one cut). By AI agents, Wed Nov 11 2026. No macro, syntax, notation, axiom, sorry.
-/
import Derived.Test.YthebembnlmddoaaChecked
import GoSem.Claim
import GoSem.ClaimJoined
import GoSem.ClaimMapViews
import Derived.JoinedTies
import Derived.KernelRfl
namespace Go.Proofs.Ythebembnlmddoaa
/- THE CELL 'sum', in the pinned program and in every row, IS THE sha256 OF THE DUMP (.gsa) THAT YthebembnlmddoaaProg.lean LOADS. Nothing in Lean hashes anything: it is a label: what it is worth is what the hold of that sum in a sandbox is worth. -/
noncomputable def Try.pinned : Pinned := { name := "ythebembnlmddoaa", sum := "8e5ed0473896707c14674b8da4c59f4280735982a1a99242bdc8943bbce6595c", checked := Try.checked }
namespace Rows
def none {H : Type} : Left H := { results := [], args := [] }

/-- 'raddlelaw21.HappenFree': WHATEVER THE INPUT: true; the input reads as it did. -/
def happenFreeSpec : ChangeSpec := { name := "happenFree", fn := fun _ => fun
  | [d1, d2] => { results := [.lit (.bool true)], args := [d1, d2] }
  | _ => none }
def happenFreeRow : OpenClaim := { program := "ythebembnlmddoaa", sum := "8e5ed0473896707c14674b8da4c59f4280735982a1a99242bdc8943bbce6595c", func := "raddle/raddlelaw21.HappenFree", spec := "happenFree", unfollowed := true, recurses := true, plainKeys := false, apart := false }
def HappenFreeSaid : Prop := happenFreeRow.holds Try.pinned (OpenSpec.ofChange happenFreeSpec)

/-- ITS FALSE NEIGHBOUR: 'it returns false'. Refute it at one input. -/
def happenFreeWrong : ChangeSpec := { name := "happenFree", fn := fun _ => fun
  | [d1, d2] => { results := [.lit (.bool false)], args := [d1, d2] }
  | _ => none }
def HappenFreeWrongFalsely : Prop := happenFreeRow.holds Try.pinned (OpenSpec.ofChange happenFreeWrong)

/-- 'raddlelaw21.HappenClocks': WHATEVER THE INPUT: true; the input reads as it did. -/
def happenClocksSpec : ChangeSpec := { name := "happenClocks", fn := fun _ => fun
  | [d1, d2, d3, d4, d5] => { results := [.lit (.bool true)], args := [d1, d2, d3, d4, d5] }
  | _ => none }
def happenClocksRow : OpenClaim := { program := "ythebembnlmddoaa", sum := "8e5ed0473896707c14674b8da4c59f4280735982a1a99242bdc8943bbce6595c", func := "raddle/raddlelaw21.HappenClocks", spec := "happenClocks", unfollowed := true, recurses := true, plainKeys := false, apart := false }
def HappenClocksSaid : Prop := happenClocksRow.holds Try.pinned (OpenSpec.ofChange happenClocksSpec)

/-- ITS FALSE NEIGHBOUR: 'it returns false'. Refute it at one input. -/
def happenClocksWrong : ChangeSpec := { name := "happenClocks", fn := fun _ => fun
  | [d1, d2, d3, d4, d5] => { results := [.lit (.bool false)], args := [d1, d2, d3, d4, d5] }
  | _ => none }
def HappenClocksWrongFalsely : Prop := happenClocksRow.holds Try.pinned (OpenSpec.ofChange happenClocksWrong)

/-- 'raddlelaw21.HappenReorders': WHATEVER THE INPUT: true; the input reads as it did. -/
def happenReordersSpec : ChangeSpec := { name := "happenReorders", fn := fun _ => fun
  | [d1, d2] => { results := [.lit (.bool true)], args := [d1, d2] }
  | _ => none }
def happenReordersRow : OpenClaim := { program := "ythebembnlmddoaa", sum := "8e5ed0473896707c14674b8da4c59f4280735982a1a99242bdc8943bbce6595c", func := "raddle/raddlelaw21.HappenReorders", spec := "happenReorders", unfollowed := true, recurses := true, plainKeys := false, apart := false }
def HappenReordersSaid : Prop := happenReordersRow.holds Try.pinned (OpenSpec.ofChange happenReordersSpec)

/-- ITS FALSE NEIGHBOUR: 'it returns false'. Refute it at one input. -/
def happenReordersWrong : ChangeSpec := { name := "happenReorders", fn := fun _ => fun
  | [d1, d2] => { results := [.lit (.bool false)], args := [d1, d2] }
  | _ => none }
def HappenReordersWrongFalsely : Prop := happenReordersRow.holds Try.pinned (OpenSpec.ofChange happenReordersWrong)

/-- 'raddlelaw21.HappenReordered': WHATEVER THE INPUT: true; the input reads as it did. -/
def happenReorderedSpec : ChangeSpec := { name := "happenReordered", fn := fun _ => fun
  | [d1, d2] => { results := [.lit (.bool true)], args := [d1, d2] }
  | _ => none }
def happenReorderedRow : OpenClaim := { program := "ythebembnlmddoaa", sum := "8e5ed0473896707c14674b8da4c59f4280735982a1a99242bdc8943bbce6595c", func := "raddle/raddlelaw21.HappenReordered", spec := "happenReordered", unfollowed := true, recurses := true, plainKeys := false, apart := false }
def HappenReorderedSaid : Prop := happenReorderedRow.holds Try.pinned (OpenSpec.ofChange happenReorderedSpec)

/-- ITS FALSE NEIGHBOUR: 'it returns false'. Refute it at one input. -/
def happenReorderedWrong : ChangeSpec := { name := "happenReordered", fn := fun _ => fun
  | [d1, d2] => { results := [.lit (.bool false)], args := [d1, d2] }
  | _ => none }
def HappenReorderedWrongFalsely : Prop := happenReorderedRow.holds Try.pinned (OpenSpec.ofChange happenReorderedWrong)

/-- 'raddlelaw21.HappenOrder': WHATEVER THE INPUT: true; the input reads as it did. -/
def happenOrderSpec : ChangeSpec := { name := "happenOrder", fn := fun _ => fun
  | [d] => { results := [.lit (.bool true)], args := [d] }
  | _ => none }
def happenOrderRow : OpenClaim := { program := "ythebembnlmddoaa", sum := "8e5ed0473896707c14674b8da4c59f4280735982a1a99242bdc8943bbce6595c", func := "raddle/raddlelaw21.HappenOrder", spec := "happenOrder", unfollowed := true, recurses := true, plainKeys := false, apart := false }
def HappenOrderSaid : Prop := happenOrderRow.holds Try.pinned (OpenSpec.ofChange happenOrderSpec)

/-- ITS FALSE NEIGHBOUR: 'it returns false'. Refute it at one input. -/
def happenOrderWrong : ChangeSpec := { name := "happenOrder", fn := fun _ => fun
  | [d] => { results := [.lit (.bool false)], args := [d] }
  | _ => none }
def HappenOrderWrongFalsely : Prop := happenOrderRow.holds Try.pinned (OpenSpec.ofChange happenOrderWrong)

/-- 'raddlelaw21.HappenRaces': WHATEVER THE INPUT: true; the input reads as it did. -/
def happenRacesSpec : ChangeSpec := { name := "happenRaces", fn := fun _ => fun
  | [d1, d2] => { results := [.lit (.bool true)], args := [d1, d2] }
  | _ => none }
def happenRacesRow : OpenClaim := { program := "ythebembnlmddoaa", sum := "8e5ed0473896707c14674b8da4c59f4280735982a1a99242bdc8943bbce6595c", func := "raddle/raddlelaw21.HappenRaces", spec := "happenRaces", unfollowed := true, recurses := true, plainKeys := false, apart := false }
def HappenRacesSaid : Prop := happenRacesRow.holds Try.pinned (OpenSpec.ofChange happenRacesSpec)

/-- ITS FALSE NEIGHBOUR: 'it returns false'. Refute it at one input. -/
def happenRacesWrong : ChangeSpec := { name := "happenRaces", fn := fun _ => fun
  | [d1, d2] => { results := [.lit (.bool false)], args := [d1, d2] }
  | _ => none }
def HappenRacesWrongFalsely : Prop := happenRacesRow.holds Try.pinned (OpenSpec.ofChange happenRacesWrong)

/-- 'raddlelaw21.HappenShown': WHATEVER THE INPUT: true; the input reads as it did. -/
def happenShownSpec : ChangeSpec := { name := "happenShown", fn := fun _ => fun
  | [d1, d2] => { results := [.lit (.bool true)], args := [d1, d2] }
  | _ => none }
def happenShownRow : OpenClaim := { program := "ythebembnlmddoaa", sum := "8e5ed0473896707c14674b8da4c59f4280735982a1a99242bdc8943bbce6595c", func := "raddle/raddlelaw21.HappenShown", spec := "happenShown", unfollowed := true, recurses := true, plainKeys := false, apart := false }
def HappenShownSaid : Prop := happenShownRow.holds Try.pinned (OpenSpec.ofChange happenShownSpec)

/-- ITS FALSE NEIGHBOUR: 'it returns false'. Refute it at one input. -/
def happenShownWrong : ChangeSpec := { name := "happenShown", fn := fun _ => fun
  | [d1, d2] => { results := [.lit (.bool false)], args := [d1, d2] }
  | _ => none }
def HappenShownWrongFalsely : Prop := happenShownRow.holds Try.pinned (OpenSpec.ofChange happenShownWrong)

/- THE SECOND FORM. 'bulk': how many values and letters a reading holds, each counted each time it is reached (what is shared counts as often as it is met; a slice's spare places count too). A statement '..UptoSaid' is the law's where the arguments, and the package variables that the reading takes, are together of bulk at most 1048576: NARROWER than '..Said'. Prove '..Said' where nothing that the law and all that it calls make is longer than what came in: it says more and counts as full. Else prove '..UptoSaid'. A law counts once. -/
mutual
def uptoBulk {H : Type} : DataW H → Nat
  | .lit (.string bytes) => bytes.length + 1
  | .lit _ => 1
  | .nil => 1
  | .ptr d => uptoBulk d + 1
  | .slice elems spare => uptoBulkAll elems + uptoBulkAll spare + 1
  | .agg parts => uptoBulkAll parts + 1
  | .iface _ d => uptoBulk d + 1
  | .map entries => uptoBulkEntries entries + 1
  | .held _ => 1
def uptoBulkAll {H : Type} : List (DataW H) → Nat
  | [] => 0
  | d :: r => uptoBulk d + uptoBulkAll r
def uptoBulkEntries {H : Type} : List (Lit × DataW H) → Nat
  | [] => 0
  | x :: r => uptoBulkEntry x + uptoBulkEntries r
def uptoBulkEntry {H : Type} : Lit × DataW H → Nat
  | (.string bytes, d) => bytes.length + uptoBulk d + 1
  | (_, d) => uptoBulk d + 1
 end
def uptoSmall : (H : Type) → List (DataW H) → Bool := fun _ ds => decide (uptoBulkAll ds ≤ 1048576)
def OpenSpec.upto (s : _root_.Go.ChangeSpec) : _root_.Go.OpenSpec := { _root_.Go.OpenSpec.ofChange s with cond := some uptoSmall }

/-- 'raddlelaw21.HappenFree', WHERE WHAT IT READS IS OF BULK AT MOST 1048576: true; the input reads as it did. -/
def happenFreeUptoRow : OpenClaim := { program := "ythebembnlmddoaa", sum := "8e5ed0473896707c14674b8da4c59f4280735982a1a99242bdc8943bbce6595c", func := "raddle/raddlelaw21.HappenFree", spec := "happenFree", unfollowed := true, recurses := true, plainKeys := false, apart := false, narrowed := true }
def HappenFreeUptoSaid : Prop := happenFreeUptoRow.holds Try.pinned (OpenSpec.upto happenFreeSpec)

/-- 'raddlelaw21.HappenClocks', WHERE WHAT IT READS IS OF BULK AT MOST 1048576: true; the input reads as it did. -/
def happenClocksUptoRow : OpenClaim := { program := "ythebembnlmddoaa", sum := "8e5ed0473896707c14674b8da4c59f4280735982a1a99242bdc8943bbce6595c", func := "raddle/raddlelaw21.HappenClocks", spec := "happenClocks", unfollowed := true, recurses := true, plainKeys := false, apart := false, narrowed := true }
def HappenClocksUptoSaid : Prop := happenClocksUptoRow.holds Try.pinned (OpenSpec.upto happenClocksSpec)

/-- 'raddlelaw21.HappenReorders', WHERE WHAT IT READS IS OF BULK AT MOST 1048576: true; the input reads as it did. -/
def happenReordersUptoRow : OpenClaim := { program := "ythebembnlmddoaa", sum := "8e5ed0473896707c14674b8da4c59f4280735982a1a99242bdc8943bbce6595c", func := "raddle/raddlelaw21.HappenReorders", spec := "happenReorders", unfollowed := true, recurses := true, plainKeys := false, apart := false, narrowed := true }
def HappenReordersUptoSaid : Prop := happenReordersUptoRow.holds Try.pinned (OpenSpec.upto happenReordersSpec)

/-- 'raddlelaw21.HappenReordered', WHERE WHAT IT READS IS OF BULK AT MOST 1048576: true; the input reads as it did. -/
def happenReorderedUptoRow : OpenClaim := { program := "ythebembnlmddoaa", sum := "8e5ed0473896707c14674b8da4c59f4280735982a1a99242bdc8943bbce6595c", func := "raddle/raddlelaw21.HappenReordered", spec := "happenReordered", unfollowed := true, recurses := true, plainKeys := false, apart := false, narrowed := true }
def HappenReorderedUptoSaid : Prop := happenReorderedUptoRow.holds Try.pinned (OpenSpec.upto happenReorderedSpec)

/-- 'raddlelaw21.HappenOrder', WHERE WHAT IT READS IS OF BULK AT MOST 1048576: true; the input reads as it did. -/
def happenOrderUptoRow : OpenClaim := { program := "ythebembnlmddoaa", sum := "8e5ed0473896707c14674b8da4c59f4280735982a1a99242bdc8943bbce6595c", func := "raddle/raddlelaw21.HappenOrder", spec := "happenOrder", unfollowed := true, recurses := true, plainKeys := false, apart := false, narrowed := true }
def HappenOrderUptoSaid : Prop := happenOrderUptoRow.holds Try.pinned (OpenSpec.upto happenOrderSpec)

/-- 'raddlelaw21.HappenRaces', WHERE WHAT IT READS IS OF BULK AT MOST 1048576: true; the input reads as it did. -/
def happenRacesUptoRow : OpenClaim := { program := "ythebembnlmddoaa", sum := "8e5ed0473896707c14674b8da4c59f4280735982a1a99242bdc8943bbce6595c", func := "raddle/raddlelaw21.HappenRaces", spec := "happenRaces", unfollowed := true, recurses := true, plainKeys := false, apart := false, narrowed := true }
def HappenRacesUptoSaid : Prop := happenRacesUptoRow.holds Try.pinned (OpenSpec.upto happenRacesSpec)

/-- 'raddlelaw21.HappenShown', WHERE WHAT IT READS IS OF BULK AT MOST 1048576: true; the input reads as it did. -/
def happenShownUptoRow : OpenClaim := { program := "ythebembnlmddoaa", sum := "8e5ed0473896707c14674b8da4c59f4280735982a1a99242bdc8943bbce6595c", func := "raddle/raddlelaw21.HappenShown", spec := "happenShown", unfollowed := true, recurses := true, plainKeys := false, apart := false, narrowed := true }
def HappenShownUptoSaid : Prop := happenShownUptoRow.holds Try.pinned (OpenSpec.upto happenShownSpec)

end Rows
end Go.Proofs.Ythebembnlmddoaa
