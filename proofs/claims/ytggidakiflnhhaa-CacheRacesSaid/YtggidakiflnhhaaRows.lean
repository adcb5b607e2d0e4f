/-
  No cell of these rows narrows 'for every input' (looked for: loops, veiled, ifaces, maps, wideKeys, modest, calm, conditions, laid).
  DERIVED. THE GIVEN ROWS OF THIS SEAT. 5 by the template 'for every input the law returns true; each argument reads behind the call as it read before'; 0 by the template 'total and deterministic' (their statements: YtggidakiflnhhaaTotals.lean).
  GIVEN WITH THE SEED: the statements are not yours to turn. If you find one false, say at which input.
  Laid BY PROGRAM, IN A SANDBOX (cutbox-rows.mjs): the forced cells as the released guide's own fill.sh prints them over the translation 42b4717dcfdcd354… (all of the seat's roots in one cut). By AI agents, Wed Nov 11 2026. No macro, syntax, notation, axiom, sorry.
-/
import Derived.Test.YtggidakiflnhhaaChecked
import GoSem.Claim
import GoSem.ClaimJoined
import GoSem.ClaimMapViews
import Derived.JoinedTies
import Derived.KernelRfl
namespace Go.Proofs.Ytggidakiflnhhaa
/- THE CELL 'sum', in the pinned program and in every row, IS THE sha256 OF THE DUMP (.gsa) THAT YtggidakiflnhhaaProg.lean LOADS. Nothing in Lean hashes anything: it is a label: what it is worth is what the hold of that sum in a sandbox is worth. -/
noncomputable def Try.pinned : Pinned := { name := "ytggidakiflnhhaa", sum := "42b4717dcfdcd354a1abce459930ee12baf1b9fdd7e1ead303406ee7e382892c", checked := Try.checked }
namespace Rows
def none {H : Type} : Left H := { results := [], args := [] }

/-- 'raddlelaw26.CacheValues': WHATEVER THE INPUT: true; the input reads as it did. -/
def cacheValuesSpec : ChangeSpec := { name := "cacheValues", fn := fun _ => fun
  | [d1, d2] => { results := [.lit (.bool true)], args := [d1, d2] }
  | _ => none }
def cacheValuesRow : OpenClaim := { program := "ytggidakiflnhhaa", sum := "42b4717dcfdcd354a1abce459930ee12baf1b9fdd7e1ead303406ee7e382892c", func := "raddle/raddlelaw26.CacheValues", spec := "cacheValues", unfollowed := true, recurses := true, apart := false }
def CacheValuesSaid : Prop := cacheValuesRow.holds Try.pinned (OpenSpec.ofChange cacheValuesSpec)

/-- ITS FALSE NEIGHBOUR: 'it returns false'. Refute it at one input. -/
def cacheValuesWrong : ChangeSpec := { name := "cacheValues", fn := fun _ => fun
  | [d1, d2] => { results := [.lit (.bool false)], args := [d1, d2] }
  | _ => none }
def CacheValuesWrongFalsely : Prop := cacheValuesRow.holds Try.pinned (OpenSpec.ofChange cacheValuesWrong)

/-- 'raddlelaw26.CacheRuns': WHATEVER THE INPUT: true; the input reads as it did. -/
def cacheRunsSpec : ChangeSpec := { name := "cacheRuns", fn := fun _ => fun
  | [d1, d2, d3] => { results := [.lit (.bool true)], args := [d1, d2, d3] }
  | _ => none }
def cacheRunsRow : OpenClaim := { program := "ytggidakiflnhhaa", sum := "42b4717dcfdcd354a1abce459930ee12baf1b9fdd7e1ead303406ee7e382892c", func := "raddle/raddlelaw26.CacheRuns", spec := "cacheRuns", unfollowed := true, recurses := true, apart := false }
def CacheRunsSaid : Prop := cacheRunsRow.holds Try.pinned (OpenSpec.ofChange cacheRunsSpec)

/-- ITS FALSE NEIGHBOUR: 'it returns false'. Refute it at one input. -/
def cacheRunsWrong : ChangeSpec := { name := "cacheRuns", fn := fun _ => fun
  | [d1, d2, d3] => { results := [.lit (.bool false)], args := [d1, d2, d3] }
  | _ => none }
def CacheRunsWrongFalsely : Prop := cacheRunsRow.holds Try.pinned (OpenSpec.ofChange cacheRunsWrong)

/-- 'raddlelaw26.CacheSizes': WHATEVER THE INPUT: true; the input reads as it did. -/
def cacheSizesSpec : ChangeSpec := { name := "cacheSizes", fn := fun _ => fun
  | [d1, d2, d3, d4] => { results := [.lit (.bool true)], args := [d1, d2, d3, d4] }
  | _ => none }
def cacheSizesRow : OpenClaim := { program := "ytggidakiflnhhaa", sum := "42b4717dcfdcd354a1abce459930ee12baf1b9fdd7e1ead303406ee7e382892c", func := "raddle/raddlelaw26.CacheSizes", spec := "cacheSizes", unfollowed := true, recurses := true, apart := false }
def CacheSizesSaid : Prop := cacheSizesRow.holds Try.pinned (OpenSpec.ofChange cacheSizesSpec)

/-- ITS FALSE NEIGHBOUR: 'it returns false'. Refute it at one input. -/
def cacheSizesWrong : ChangeSpec := { name := "cacheSizes", fn := fun _ => fun
  | [d1, d2, d3, d4] => { results := [.lit (.bool false)], args := [d1, d2, d3, d4] }
  | _ => none }
def CacheSizesWrongFalsely : Prop := cacheSizesRow.holds Try.pinned (OpenSpec.ofChange cacheSizesWrong)

/-- 'raddlelaw26.CacheRaces': WHATEVER THE INPUT: true; the input reads as it did. -/
def cacheRacesSpec : ChangeSpec := { name := "cacheRaces", fn := fun _ => fun
  | [d1, d2] => { results := [.lit (.bool true)], args := [d1, d2] }
  | _ => none }
def cacheRacesRow : OpenClaim := { program := "ytggidakiflnhhaa", sum := "42b4717dcfdcd354a1abce459930ee12baf1b9fdd7e1ead303406ee7e382892c", func := "raddle/raddlelaw26.CacheRaces", spec := "cacheRaces", unfollowed := true, recurses := true, apart := false }
def CacheRacesSaid : Prop := cacheRacesRow.holds Try.pinned (OpenSpec.ofChange cacheRacesSpec)

/-- ITS FALSE NEIGHBOUR: 'it returns false'. Refute it at one input. -/
def cacheRacesWrong : ChangeSpec := { name := "cacheRaces", fn := fun _ => fun
  | [d1, d2] => { results := [.lit (.bool false)], args := [d1, d2] }
  | _ => none }
def CacheRacesWrongFalsely : Prop := cacheRacesRow.holds Try.pinned (OpenSpec.ofChange cacheRacesWrong)

/-- 'raddlelaw26.CacheEqual': WHATEVER THE INPUT: true; the input reads as it did. -/
def cacheEqualSpec : ChangeSpec := { name := "cacheEqual", fn := fun _ => fun
  | [d1, d2] => { results := [.lit (.bool true)], args := [d1, d2] }
  | _ => none }
def cacheEqualRow : OpenClaim := { program := "ytggidakiflnhhaa", sum := "42b4717dcfdcd354a1abce459930ee12baf1b9fdd7e1ead303406ee7e382892c", func := "raddle/raddlelaw26.CacheEqual", spec := "cacheEqual", unfollowed := true, recurses := true, apart := false }
def CacheEqualSaid : Prop := cacheEqualRow.holds Try.pinned (OpenSpec.ofChange cacheEqualSpec)

/-- ITS FALSE NEIGHBOUR: 'it returns false'. Refute it at one input. -/
def cacheEqualWrong : ChangeSpec := { name := "cacheEqual", fn := fun _ => fun
  | [d1, d2] => { results := [.lit (.bool false)], args := [d1, d2] }
  | _ => none }
def CacheEqualWrongFalsely : Prop := cacheEqualRow.holds Try.pinned (OpenSpec.ofChange cacheEqualWrong)

/- THE SECOND FORM. 'bulk': how many values and letters a reading holds, each counted each time it is reached (what is shared counts as often as it is met; a slice's spare places count too). A statement '..UptoSaid' is the law's where the arguments, and the package variables that the reading takes, are together of bulk at most 1048576: NARROWER than '..Said'. Prove '..Said' where nothing that the law and all that it calls make is longer than what came in: it says more and counts as full. Else prove '..UptoSaid'. A law counts once. -/
mutual
def uptoBulk {H : Type} : DataW H → Nat
  | .lit (.string bytes) => bytes.length + 1
  | .lit _ => 1
  | .nil => 1
  | .ptr d => uptoBulk d + 1
  | .slice elems spare => uptoBulkAll elems + uptoBulkAll spare + 1
  | .agg parts => uptoBulkAll parts + 1
  | .iface _ d => uptoBulk d + 1
  | .map entries => uptoBulkEntries entries + 1
  | .held _ => 1
def uptoBulkAll {H : Type} : List (DataW H) → Nat
  | [] => 0
  | d :: r => uptoBulk d + uptoBulkAll r
def uptoBulkEntries {H : Type} : List (Lit × DataW H) → Nat
  | [] => 0
  | x :: r => uptoBulkEntry x + uptoBulkEntries r
def uptoBulkEntry {H : Type} : Lit × DataW H → Nat
  | (.string bytes, d) => bytes.length + uptoBulk d + 1
  | (_, d) => uptoBulk d + 1
 end
def uptoSmall : (H : Type) → List (DataW H) → Bool := fun _ ds => decide (uptoBulkAll ds ≤ 1048576)
def OpenSpec.upto (s : _root_.Go.ChangeSpec) : _root_.Go.OpenSpec := { _root_.Go.OpenSpec.ofChange s with cond := some uptoSmall }

/-- 'raddlelaw26.CacheValues', WHERE WHAT IT READS IS OF BULK AT MOST 1048576: true; the input reads as it did. -/
def cacheValuesUptoRow : OpenClaim := { program := "ytggidakiflnhhaa", sum := "42b4717dcfdcd354a1abce459930ee12baf1b9fdd7e1ead303406ee7e382892c", func := "raddle/raddlelaw26.CacheValues", spec := "cacheValues", unfollowed := true, recurses := true, apart := false, narrowed := true }
def CacheValuesUptoSaid : Prop := cacheValuesUptoRow.holds Try.pinned (OpenSpec.upto cacheValuesSpec)

/-- 'raddlelaw26.CacheRuns', WHERE WHAT IT READS IS OF BULK AT MOST 1048576: true; the input reads as it did. -/
def cacheRunsUptoRow : OpenClaim := { program := "ytggidakiflnhhaa", sum := "42b4717dcfdcd354a1abce459930ee12baf1b9fdd7e1ead303406ee7e382892c", func := "raddle/raddlelaw26.CacheRuns", spec := "cacheRuns", unfollowed := true, recurses := true, apart := false, narrowed := true }
def CacheRunsUptoSaid : Prop := cacheRunsUptoRow.holds Try.pinned (OpenSpec.upto cacheRunsSpec)

/-- 'raddlelaw26.CacheSizes', WHERE WHAT IT READS IS OF BULK AT MOST 1048576: true; the input reads as it did. -/
def cacheSizesUptoRow : OpenClaim := { program := "ytggidakiflnhhaa", sum := "42b4717dcfdcd354a1abce459930ee12baf1b9fdd7e1ead303406ee7e382892c", func := "raddle/raddlelaw26.CacheSizes", spec := "cacheSizes", unfollowed := true, recurses := true, apart := false, narrowed := true }
def CacheSizesUptoSaid : Prop := cacheSizesUptoRow.holds Try.pinned (OpenSpec.upto cacheSizesSpec)

/-- 'raddlelaw26.CacheRaces', WHERE WHAT IT READS IS OF BULK AT MOST 1048576: true; the input reads as it did. -/
def cacheRacesUptoRow : OpenClaim := { program := "ytggidakiflnhhaa", sum := "42b4717dcfdcd354a1abce459930ee12baf1b9fdd7e1ead303406ee7e382892c", func := "raddle/raddlelaw26.CacheRaces", spec := "cacheRaces", unfollowed := true, recurses := true, apart := false, narrowed := true }
def CacheRacesUptoSaid : Prop := cacheRacesUptoRow.holds Try.pinned (OpenSpec.upto cacheRacesSpec)

/-- 'raddlelaw26.CacheEqual', WHERE WHAT IT READS IS OF BULK AT MOST 1048576: true; the input reads as it did. -/
def cacheEqualUptoRow : OpenClaim := { program := "ytggidakiflnhhaa", sum := "42b4717dcfdcd354a1abce459930ee12baf1b9fdd7e1ead303406ee7e382892c", func := "raddle/raddlelaw26.CacheEqual", spec := "cacheEqual", unfollowed := true, recurses := true, apart := false, narrowed := true }
def CacheEqualUptoSaid : Prop := cacheEqualUptoRow.holds Try.pinned (OpenSpec.upto cacheEqualSpec)

end Rows
end Go.Proofs.Ytggidakiflnhhaa
