/-
  No cell of these rows narrows 'for every input' (looked for: loops, veiled, ifaces, maps, wideKeys, modest, calm, conditions, laid).
  DERIVED. THE GIVEN ROWS OF THIS SEAT. 5 by the template 'for every input the law returns true; each argument reads behind the call as it read before'; 0 by the template 'total and deterministic' (their statements: YthmclonjgbmhhaaTotals.lean).
  GIVEN WITH THE SEED: the statements are not yours to turn. If you find one false, say at which input.
  Laid BY PROGRAM, IN A SANDBOX (cutbox-rows.mjs): the forced cells as the released guide's own fill.sh prints them over the translation 79f40f9c3711c591… (all of the seat's roots in one cut). By AI agents, Wed Nov 11 2026. No macro, syntax, notation, axiom, sorry.
-/
import Derived.Test.YthmclonjgbmhhaaChecked
import GoSem.Claim
import GoSem.ClaimJoined
import GoSem.ClaimMapViews
import Derived.JoinedTies
import Derived.KernelRfl
namespace Go.Proofs.Ythmclonjgbmhhaa
/- THE CELL 'sum', in the pinned program and in every row, IS THE sha256 OF THE DUMP (.gsa) THAT YthmclonjgbmhhaaProg.lean LOADS. Nothing in Lean hashes anything: it is a label: what it is worth is what the hold of that sum in a sandbox is worth. -/
noncomputable def Try.pinned : Pinned := { name := "ythmclonjgbmhhaa", sum := "79f40f9c3711c59114c708627ea9953e9c6cbe4665523807b965ce4b17d3914b", checked := Try.checked }
namespace Rows
def none {H : Type} : Left H := { results := [], args := [] }

/-- 'caravanlaw15.HoldApart': WHATEVER THE INPUT: true; the input reads as it did. -/
def holdApartSpec : ChangeSpec := { name := "holdApart", fn := fun _ => fun
  | [d1, d2, d3] => { results := [.lit (.bool true)], args := [d1, d2, d3] }
  | _ => none }
def holdApartRow : OpenClaim := { program := "ythmclonjgbmhhaa", sum := "79f40f9c3711c59114c708627ea9953e9c6cbe4665523807b965ce4b17d3914b", func := "caravan/caravanlaw15.HoldApart", spec := "holdApart", inPlace := ["slices.overlaps[caravan/api.Hold]"], unfollowed := true, recurses := true, apart := false }
def HoldApartSaid : Prop := holdApartRow.holds Try.pinned (OpenSpec.ofChange holdApartSpec)

/-- ITS FALSE NEIGHBOUR: 'it returns false'. Refute it at one input. -/
def holdApartWrong : ChangeSpec := { name := "holdApart", fn := fun _ => fun
  | [d1, d2, d3] => { results := [.lit (.bool false)], args := [d1, d2, d3] }
  | _ => none }
def HoldApartWrongFalsely : Prop := holdApartRow.holds Try.pinned (OpenSpec.ofChange holdApartWrong)

/-- 'caravanlaw15.HoldChanges': WHATEVER THE INPUT: true; the input reads as it did. -/
def holdChangesSpec : ChangeSpec := { name := "holdChanges", fn := fun _ => fun
  | [d1, d2, d3] => { results := [.lit (.bool true)], args := [d1, d2, d3] }
  | _ => none }
def holdChangesRow : OpenClaim := { program := "ythmclonjgbmhhaa", sum := "79f40f9c3711c59114c708627ea9953e9c6cbe4665523807b965ce4b17d3914b", func := "caravan/caravanlaw15.HoldChanges", spec := "holdChanges", inPlace := ["slices.overlaps[caravan/api.Hold]"], unfollowed := true, recurses := true, apart := false }
def HoldChangesSaid : Prop := holdChangesRow.holds Try.pinned (OpenSpec.ofChange holdChangesSpec)

/-- ITS FALSE NEIGHBOUR: 'it returns false'. Refute it at one input. -/
def holdChangesWrong : ChangeSpec := { name := "holdChanges", fn := fun _ => fun
  | [d1, d2, d3] => { results := [.lit (.bool false)], args := [d1, d2, d3] }
  | _ => none }
def HoldChangesWrongFalsely : Prop := holdChangesRow.holds Try.pinned (OpenSpec.ofChange holdChangesWrong)

/-- 'caravanlaw15.HoldFull': WHATEVER THE INPUT: true; the input reads as it did. -/
def holdFullSpec : ChangeSpec := { name := "holdFull", fn := fun _ => fun
  | [d] => { results := [.lit (.bool true)], args := [d] }
  | _ => none }
def holdFullRow : OpenClaim := { program := "ythmclonjgbmhhaa", sum := "79f40f9c3711c59114c708627ea9953e9c6cbe4665523807b965ce4b17d3914b", func := "caravan/caravanlaw15.HoldFull", spec := "holdFull", inPlace := ["slices.overlaps[caravan/api.Hold]"], unfollowed := true, recurses := true, apart := false }
def HoldFullSaid : Prop := holdFullRow.holds Try.pinned (OpenSpec.ofChange holdFullSpec)

/-- ITS FALSE NEIGHBOUR: 'it returns false'. Refute it at one input. -/
def holdFullWrong : ChangeSpec := { name := "holdFull", fn := fun _ => fun
  | [d] => { results := [.lit (.bool false)], args := [d] }
  | _ => none }
def HoldFullWrongFalsely : Prop := holdFullRow.holds Try.pinned (OpenSpec.ofChange holdFullWrong)

/-- 'caravanlaw15.HoldSweeps': WHATEVER THE INPUT: true; the input reads as it did. -/
def holdSweepsSpec : ChangeSpec := { name := "holdSweeps", fn := fun _ => fun
  | [d1, d2] => { results := [.lit (.bool true)], args := [d1, d2] }
  | _ => none }
def holdSweepsRow : OpenClaim := { program := "ythmclonjgbmhhaa", sum := "79f40f9c3711c59114c708627ea9953e9c6cbe4665523807b965ce4b17d3914b", func := "caravan/caravanlaw15.HoldSweeps", spec := "holdSweeps", inPlace := ["slices.overlaps[caravan/api.Hold]"], unfollowed := true, recurses := true, apart := false }
def HoldSweepsSaid : Prop := holdSweepsRow.holds Try.pinned (OpenSpec.ofChange holdSweepsSpec)

/-- ITS FALSE NEIGHBOUR: 'it returns false'. Refute it at one input. -/
def holdSweepsWrong : ChangeSpec := { name := "holdSweeps", fn := fun _ => fun
  | [d1, d2] => { results := [.lit (.bool false)], args := [d1, d2] }
  | _ => none }
def HoldSweepsWrongFalsely : Prop := holdSweepsRow.holds Try.pinned (OpenSpec.ofChange holdSweepsWrong)

/-- 'caravanlaw15.HoldOne': WHATEVER THE INPUT: true; the input reads as it did. -/
def holdOneSpec : ChangeSpec := { name := "holdOne", fn := fun _ => fun
  | [d] => { results := [.lit (.bool true)], args := [d] }
  | _ => none }
def holdOneRow : OpenClaim := { program := "ythmclonjgbmhhaa", sum := "79f40f9c3711c59114c708627ea9953e9c6cbe4665523807b965ce4b17d3914b", func := "caravan/caravanlaw15.HoldOne", spec := "holdOne", inPlace := ["slices.overlaps[caravan/api.Hold]"], unfollowed := true, recurses := true, apart := false }
def HoldOneSaid : Prop := holdOneRow.holds Try.pinned (OpenSpec.ofChange holdOneSpec)

/-- ITS FALSE NEIGHBOUR: 'it returns false'. Refute it at one input. -/
def holdOneWrong : ChangeSpec := { name := "holdOne", fn := fun _ => fun
  | [d] => { results := [.lit (.bool false)], args := [d] }
  | _ => none }
def HoldOneWrongFalsely : Prop := holdOneRow.holds Try.pinned (OpenSpec.ofChange holdOneWrong)

/- THE SECOND FORM. 'bulk': how many values and letters a reading holds, each counted each time it is reached (what is shared counts as often as it is met; a slice's spare places count too). A statement '..UptoSaid' is the law's where the arguments, and the package variables that the reading takes, are together of bulk at most 1048576: NARROWER than '..Said'. Prove '..Said' where nothing that the law and all that it calls make is longer than what came in: it says more and counts as full. Else prove '..UptoSaid'. A law counts once. -/
mutual
def uptoBulk {H : Type} : DataW H → Nat
  | .lit (.string bytes) => bytes.length + 1
  | .lit _ => 1
  | .nil => 1
  | .ptr d => uptoBulk d + 1
  | .slice elems spare => uptoBulkAll elems + uptoBulkAll spare + 1
  | .agg parts => uptoBulkAll parts + 1
  | .iface _ d => uptoBulk d + 1
  | .map entries => uptoBulkEntries entries + 1
  | .held _ => 1
def uptoBulkAll {H : Type} : List (DataW H) → Nat
  | [] => 0
  | d :: r => uptoBulk d + uptoBulkAll r
def uptoBulkEntries {H : Type} : List (Lit × DataW H) → Nat
  | [] => 0
  | x :: r => uptoBulkEntry x + uptoBulkEntries r
def uptoBulkEntry {H : Type} : Lit × DataW H → Nat
  | (.string bytes, d) => bytes.length + uptoBulk d + 1
  | (_, d) => uptoBulk d + 1
 end
def uptoSmall : (H : Type) → List (DataW H) → Bool := fun _ ds => decide (uptoBulkAll ds ≤ 1048576)
def OpenSpec.upto (s : _root_.Go.ChangeSpec) : _root_.Go.OpenSpec := { _root_.Go.OpenSpec.ofChange s with cond := some uptoSmall }

/-- 'caravanlaw15.HoldApart', WHERE WHAT IT READS IS OF BULK AT MOST 1048576: true; the input reads as it did. -/
def holdApartUptoRow : OpenClaim := { program := "ythmclonjgbmhhaa", sum := "79f40f9c3711c59114c708627ea9953e9c6cbe4665523807b965ce4b17d3914b", func := "caravan/caravanlaw15.HoldApart", spec := "holdApart", inPlace := ["slices.overlaps[caravan/api.Hold]"], unfollowed := true, recurses := true, apart := false, narrowed := true }
def HoldApartUptoSaid : Prop := holdApartUptoRow.holds Try.pinned (OpenSpec.upto holdApartSpec)

/-- 'caravanlaw15.HoldChanges', WHERE WHAT IT READS IS OF BULK AT MOST 1048576: true; the input reads as it did. -/
def holdChangesUptoRow : OpenClaim := { program := "ythmclonjgbmhhaa", sum := "79f40f9c3711c59114c708627ea9953e9c6cbe4665523807b965ce4b17d3914b", func := "caravan/caravanlaw15.HoldChanges", spec := "holdChanges", inPlace := ["slices.overlaps[caravan/api.Hold]"], unfollowed := true, recurses := true, apart := false, narrowed := true }
def HoldChangesUptoSaid : Prop := holdChangesUptoRow.holds Try.pinned (OpenSpec.upto holdChangesSpec)

/-- 'caravanlaw15.HoldFull', WHERE WHAT IT READS IS OF BULK AT MOST 1048576: true; the input reads as it did. -/
def holdFullUptoRow : OpenClaim := { program := "ythmclonjgbmhhaa", sum := "79f40f9c3711c59114c708627ea9953e9c6cbe4665523807b965ce4b17d3914b", func := "caravan/caravanlaw15.HoldFull", spec := "holdFull", inPlace := ["slices.overlaps[caravan/api.Hold]"], unfollowed := true, recurses := true, apart := false, narrowed := true }
def HoldFullUptoSaid : Prop := holdFullUptoRow.holds Try.pinned (OpenSpec.upto holdFullSpec)

/-- 'caravanlaw15.HoldSweeps', WHERE WHAT IT READS IS OF BULK AT MOST 1048576: true; the input reads as it did. -/
def holdSweepsUptoRow : OpenClaim := { program := "ythmclonjgbmhhaa", sum := "79f40f9c3711c59114c708627ea9953e9c6cbe4665523807b965ce4b17d3914b", func := "caravan/caravanlaw15.HoldSweeps", spec := "holdSweeps", inPlace := ["slices.overlaps[caravan/api.Hold]"], unfollowed := true, recurses := true, apart := false, narrowed := true }
def HoldSweepsUptoSaid : Prop := holdSweepsUptoRow.holds Try.pinned (OpenSpec.upto holdSweepsSpec)

/-- 'caravanlaw15.HoldOne', WHERE WHAT IT READS IS OF BULK AT MOST 1048576: true; the input reads as it did. -/
def holdOneUptoRow : OpenClaim := { program := "ythmclonjgbmhhaa", sum := "79f40f9c3711c59114c708627ea9953e9c6cbe4665523807b965ce4b17d3914b", func := "caravan/caravanlaw15.HoldOne", spec := "holdOne", inPlace := ["slices.overlaps[caravan/api.Hold]"], unfollowed := true, recurses := true, apart := false, narrowed := true }
def HoldOneUptoSaid : Prop := holdOneUptoRow.holds Try.pinned (OpenSpec.upto holdOneSpec)

end Rows
end Go.Proofs.Ythmclonjgbmhhaa
