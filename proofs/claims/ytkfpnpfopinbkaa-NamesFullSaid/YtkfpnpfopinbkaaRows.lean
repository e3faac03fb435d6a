/-
  No cell of these rows narrows 'for every input' (looked for: loops, veiled, ifaces, maps, wideKeys, modest, calm, conditions, laid).
  DERIVED. THE GIVEN ROWS OF THIS SEAT. 5 by the template 'for every input the law returns true; each argument reads behind the call as it read before'; 0 by the template 'total and deterministic' (their statements: YtkfpnpfopinbkaaTotals.lean).
  GIVEN WITH THE SEED: the statements are not yours to turn. If you find one false, say at which input.
  Laid BY PROGRAM, IN A SANDBOX (cutbox-rows.mjs): the forced cells as the released guide's own fill.sh prints them over the translation 8fff8e8c9b71cb67… (all of the seat's roots in one cut). By AI agents, Wed Nov 11 2026. No macro, syntax, notation, axiom, sorry.
-/
import Derived.Test.YtkfpnpfopinbkaaChecked
import GoSem.Claim
import GoSem.ClaimJoined
import GoSem.ClaimMapViews
import Derived.JoinedTies
import Derived.KernelRfl
namespace Go.Proofs.Ytkfpnpfopinbkaa
/- THE CELL 'sum', in the pinned program and in every row, IS THE sha256 OF THE DUMP (.gsa) THAT YtkfpnpfopinbkaaProg.lean LOADS. Nothing in Lean hashes anything: it is a label: what it is worth is what the hold of that sum in a sandbox is worth. -/
noncomputable def Try.pinned : Pinned := { name := "ytkfpnpfopinbkaa", sum := "8fff8e8c9b71cb6755984b216953af70644ed2e758bd71be14137295e23dbc70", checked := Try.checked }
namespace Rows
def none {H : Type} : Left H := { results := [], args := [] }

/-- 'caravanlaw07.NamesChanges': WHATEVER THE INPUT: true; the input reads as it did. -/
def namesChangesSpec : ChangeSpec := { name := "namesChanges", fn := fun _ => fun
  | [d1, d2, d3] => { results := [.lit (.bool true)], args := [d1, d2, d3] }
  | _ => none }
def namesChangesRow : OpenClaim := { program := "ytkfpnpfopinbkaa", sum := "8fff8e8c9b71cb6755984b216953af70644ed2e758bd71be14137295e23dbc70", func := "caravan/caravanlaw07.NamesChanges", spec := "namesChanges", inPlace := ["slices.overlaps[caravan/api.Tag]"], unfollowed := true, recurses := true, apart := false }
def NamesChangesSaid : Prop := namesChangesRow.holds Try.pinned (OpenSpec.ofChange namesChangesSpec)

/-- ITS FALSE NEIGHBOUR: 'it returns false'. Refute it at one input. -/
def namesChangesWrong : ChangeSpec := { name := "namesChanges", fn := fun _ => fun
  | [d1, d2, d3] => { results := [.lit (.bool false)], args := [d1, d2, d3] }
  | _ => none }
def NamesChangesWrongFalsely : Prop := namesChangesRow.holds Try.pinned (OpenSpec.ofChange namesChangesWrong)

/-- 'caravanlaw07.NamesTurns': WHATEVER THE INPUT: true; the input reads as it did. -/
def namesTurnsSpec : ChangeSpec := { name := "namesTurns", fn := fun _ => fun
  | [d1, d2, d3] => { results := [.lit (.bool true)], args := [d1, d2, d3] }
  | _ => none }
def namesTurnsRow : OpenClaim := { program := "ytkfpnpfopinbkaa", sum := "8fff8e8c9b71cb6755984b216953af70644ed2e758bd71be14137295e23dbc70", func := "caravan/caravanlaw07.NamesTurns", spec := "namesTurns", inPlace := ["slices.overlaps[caravan/api.Tag]"], unfollowed := true, recurses := true, apart := false }
def NamesTurnsSaid : Prop := namesTurnsRow.holds Try.pinned (OpenSpec.ofChange namesTurnsSpec)

/-- ITS FALSE NEIGHBOUR: 'it returns false'. Refute it at one input. -/
def namesTurnsWrong : ChangeSpec := { name := "namesTurns", fn := fun _ => fun
  | [d1, d2, d3] => { results := [.lit (.bool false)], args := [d1, d2, d3] }
  | _ => none }
def NamesTurnsWrongFalsely : Prop := namesTurnsRow.holds Try.pinned (OpenSpec.ofChange namesTurnsWrong)

/-- 'caravanlaw07.NamesWins': WHATEVER THE INPUT: true; the input reads as it did. -/
def namesWinsSpec : ChangeSpec := { name := "namesWins", fn := fun _ => fun
  | [d1, d2, d3] => { results := [.lit (.bool true)], args := [d1, d2, d3] }
  | _ => none }
def namesWinsRow : OpenClaim := { program := "ytkfpnpfopinbkaa", sum := "8fff8e8c9b71cb6755984b216953af70644ed2e758bd71be14137295e23dbc70", func := "caravan/caravanlaw07.NamesWins", spec := "namesWins", inPlace := ["slices.overlaps[caravan/api.Tag]", "internal/bytealg.abigen_runtime_cmpstring"], unfollowed := true, recurses := true, apart := false }
def NamesWinsSaid : Prop := namesWinsRow.holds Try.pinned (OpenSpec.ofChange namesWinsSpec)

/-- ITS FALSE NEIGHBOUR: 'it returns false'. Refute it at one input. -/
def namesWinsWrong : ChangeSpec := { name := "namesWins", fn := fun _ => fun
  | [d1, d2, d3] => { results := [.lit (.bool false)], args := [d1, d2, d3] }
  | _ => none }
def NamesWinsWrongFalsely : Prop := namesWinsRow.holds Try.pinned (OpenSpec.ofChange namesWinsWrong)

/-- 'caravanlaw07.NamesJoins': WHATEVER THE INPUT: true; the input reads as it did. -/
def namesJoinsSpec : ChangeSpec := { name := "namesJoins", fn := fun _ => fun
  | [d1, d2, d3] => { results := [.lit (.bool true)], args := [d1, d2, d3] }
  | _ => none }
def namesJoinsRow : OpenClaim := { program := "ytkfpnpfopinbkaa", sum := "8fff8e8c9b71cb6755984b216953af70644ed2e758bd71be14137295e23dbc70", func := "caravan/caravanlaw07.NamesJoins", spec := "namesJoins", inPlace := ["slices.overlaps[caravan/api.Tag]", "internal/bytealg.abigen_runtime_cmpstring"], unfollowed := true, recurses := true, apart := false }
def NamesJoinsSaid : Prop := namesJoinsRow.holds Try.pinned (OpenSpec.ofChange namesJoinsSpec)

/-- ITS FALSE NEIGHBOUR: 'it returns false'. Refute it at one input. -/
def namesJoinsWrong : ChangeSpec := { name := "namesJoins", fn := fun _ => fun
  | [d1, d2, d3] => { results := [.lit (.bool false)], args := [d1, d2, d3] }
  | _ => none }
def NamesJoinsWrongFalsely : Prop := namesJoinsRow.holds Try.pinned (OpenSpec.ofChange namesJoinsWrong)

/-- 'caravanlaw07.NamesFull': WHATEVER THE INPUT: true; the input reads as it did. -/
def namesFullSpec : ChangeSpec := { name := "namesFull", fn := fun _ => fun
  | [d] => { results := [.lit (.bool true)], args := [d] }
  | _ => none }
def namesFullRow : OpenClaim := { program := "ytkfpnpfopinbkaa", sum := "8fff8e8c9b71cb6755984b216953af70644ed2e758bd71be14137295e23dbc70", func := "caravan/caravanlaw07.NamesFull", spec := "namesFull", inPlace := ["slices.overlaps[caravan/api.Tag]", "internal/bytealg.abigen_runtime_cmpstring"], unfollowed := true, recurses := true, apart := false }
def NamesFullSaid : Prop := namesFullRow.holds Try.pinned (OpenSpec.ofChange namesFullSpec)

/-- ITS FALSE NEIGHBOUR: 'it returns false'. Refute it at one input. -/
def namesFullWrong : ChangeSpec := { name := "namesFull", fn := fun _ => fun
  | [d] => { results := [.lit (.bool false)], args := [d] }
  | _ => none }
def NamesFullWrongFalsely : Prop := namesFullRow.holds Try.pinned (OpenSpec.ofChange namesFullWrong)

/- THE SECOND FORM. 'bulk': how many values and letters a reading holds, each counted each time it is reached (what is shared counts as often as it is met; a slice's spare places count too). A statement '..UptoSaid' is the law's where the arguments, and the package variables that the reading takes, are together of bulk at most 1048576: NARROWER than '..Said'. Prove '..Said' where nothing that the law and all that it calls make is longer than what came in: it says more and counts as full. Else prove '..UptoSaid'. A law counts once. -/
mutual
def uptoBulk {H : Type} : DataW H → Nat
  | .lit (.string bytes) => bytes.length + 1
  | .lit _ => 1
  | .nil => 1
  | .ptr d => uptoBulk d + 1
  | .slice elems spare => uptoBulkAll elems + uptoBulkAll spare + 1
  | .agg parts => uptoBulkAll parts + 1
  | .iface _ d => uptoBulk d + 1
  | .map entries => uptoBulkEntries entries + 1
  | .held _ => 1
def uptoBulkAll {H : Type} : List (DataW H) → Nat
  | [] => 0
  | d :: r => uptoBulk d + uptoBulkAll r
def uptoBulkEntries {H : Type} : List (Lit × DataW H) → Nat
  | [] => 0
  | x :: r => uptoBulkEntry x + uptoBulkEntries r
def uptoBulkEntry {H : Type} : Lit × DataW H → Nat
  | (.string bytes, d) => bytes.length + uptoBulk d + 1
  | (_, d) => uptoBulk d + 1
 end
def uptoSmall : (H : Type) → List (DataW H) → Bool := fun _ ds => decide (uptoBulkAll ds ≤ 1048576)
def OpenSpec.upto (s : _root_.Go.ChangeSpec) : _root_.Go.OpenSpec := { _root_.Go.OpenSpec.ofChange s with cond := some uptoSmall }

/-- 'caravanlaw07.NamesChanges', WHERE WHAT IT READS IS OF BULK AT MOST 1048576: true; the input reads as it did. -/
def namesChangesUptoRow : OpenClaim := { program := "ytkfpnpfopinbkaa", sum := "8fff8e8c9b71cb6755984b216953af70644ed2e758bd71be14137295e23dbc70", func := "caravan/caravanlaw07.NamesChanges", spec := "namesChanges", inPlace := ["slices.overlaps[caravan/api.Tag]"], unfollowed := true, recurses := true, apart := false, narrowed := true }
def NamesChangesUptoSaid : Prop := namesChangesUptoRow.holds Try.pinned (OpenSpec.upto namesChangesSpec)

/-- 'caravanlaw07.NamesTurns', WHERE WHAT IT READS IS OF BULK AT MOST 1048576: true; the input reads as it did. -/
def namesTurnsUptoRow : OpenClaim := { program := "ytkfpnpfopinbkaa", sum := "8fff8e8c9b71cb6755984b216953af70644ed2e758bd71be14137295e23dbc70", func := "caravan/caravanlaw07.NamesTurns", spec := "namesTurns", inPlace := ["slices.overlaps[caravan/api.Tag]"], unfollowed := true, recurses := true, apart := false, narrowed := true }
def NamesTurnsUptoSaid : Prop := namesTurnsUptoRow.holds Try.pinned (OpenSpec.upto namesTurnsSpec)

/-- 'caravanlaw07.NamesWins', WHERE WHAT IT READS IS OF BULK AT MOST 1048576: true; the input reads as it did. -/
def namesWinsUptoRow : OpenClaim := { program := "ytkfpnpfopinbkaa", sum := "8fff8e8c9b71cb6755984b216953af70644ed2e758bd71be14137295e23dbc70", func := "caravan/caravanlaw07.NamesWins", spec := "namesWins", inPlace := ["slices.overlaps[caravan/api.Tag]", "internal/bytealg.abigen_runtime_cmpstring"], unfollowed := true, recurses := true, apart := false, narrowed := true }
def NamesWinsUptoSaid : Prop := namesWinsUptoRow.holds Try.pinned (OpenSpec.upto namesWinsSpec)

/-- 'caravanlaw07.NamesJoins', WHERE WHAT IT READS IS OF BULK AT MOST 1048576: true; the input reads as it did. -/
def namesJoinsUptoRow : OpenClaim := { program := "ytkfpnpfopinbkaa", sum := "8fff8e8c9b71cb6755984b216953af70644ed2e758bd71be14137295e23dbc70", func := "caravan/caravanlaw07.NamesJoins", spec := "namesJoins", inPlace := ["slices.overlaps[caravan/api.Tag]", "internal/bytealg.abigen_runtime_cmpstring"], unfollowed := true, recurses := true, apart := false, narrowed := true }
def NamesJoinsUptoSaid : Prop := namesJoinsUptoRow.holds Try.pinned (OpenSpec.upto namesJoinsSpec)

/-- 'caravanlaw07.NamesFull', WHERE WHAT IT READS IS OF BULK AT MOST 1048576: true; the input reads as it did. -/
def namesFullUptoRow : OpenClaim := { program := "ytkfpnpfopinbkaa", sum := "8fff8e8c9b71cb6755984b216953af70644ed2e758bd71be14137295e23dbc70", func := "caravan/caravanlaw07.NamesFull", spec := "namesFull", inPlace := ["slices.overlaps[caravan/api.Tag]", "internal/bytealg.abigen_runtime_cmpstring"], unfollowed := true, recurses := true, apart := false, narrowed := true }
def NamesFullUptoSaid : Prop := namesFullUptoRow.holds Try.pinned (OpenSpec.upto namesFullSpec)

end Rows
end Go.Proofs.Ytkfpnpfopinbkaa
