/-
  No cell of these rows narrows 'for every input' (looked for: loops, veiled, ifaces, maps, wideKeys, modest, calm, conditions, laid).
  DERIVED. THE GIVEN ROWS OF THIS SEAT. 3 by the template 'for every input the law returns true; each argument reads behind the call as it read before'; 0 by the template 'total and deterministic' (their statements: YtmdiokmkokjpiaaGreatTotals.lean).
  GIVEN WITH THE SEED: the statements are not yours to turn. If you find one false, say at which input.
  Laid BY PROGRAM, IN A SANDBOX (cutbox-rows.mjs): the forced cells as the released guide's own fill.sh prints them over the translation ce065a6e6d8d7c0a… (all of the seat's roots in one cut). By AI agents, Wed Nov 11 2026. No macro, syntax, notation, axiom, sorry.
-/
import Derived.Test.YtmdiokmkokjpiaaGreatChecked
import GoSem.Claim
import GoSem.ClaimJoined
import GoSem.ClaimMapViews
import Derived.JoinedTies
import Derived.KernelRfl
namespace Go.Proofs.YtmdiokmkokjpiaaGreat
/- THE CELL 'sum', in the pinned program and in every row, IS THE sha256 OF THE DUMP (.gsa) THAT YtmdiokmkokjpiaaGreatProg.lean LOADS. Nothing in Lean hashes anything: it is a label: what it is worth is what the hold of that sum in a sandbox is worth. -/
noncomputable def Tryz.pinned : Pinned := { name := "ytmdiokmkokjpiaagreat", sum := "ce065a6e6d8d7c0a601016ce3271504326da66e1febb68def9dd0b57eb3047b1", checked := Tryz.checked }
namespace Rows
def none {H : Type} : Left H := { results := [], args := [] }

/-- 'woodgraintop.TopField': WHATEVER THE INPUT: true; the input reads as it did. -/
def topFieldSpec : ChangeSpec := { name := "topField", fn := fun _ => fun
  | [d1, d2, d3] => { results := [.lit (.bool true)], args := [d1, d2, d3] }
  | _ => none }
def topFieldRow : OpenClaim := { program := "ytmdiokmkokjpiaagreat", sum := "ce065a6e6d8d7c0a601016ce3271504326da66e1febb68def9dd0b57eb3047b1", func := "woodgrain/woodgraintop.TopField", spec := "topField", unfollowed := true, recurses := true, apart := false }
def TopFieldSaid : Prop := topFieldRow.holds Tryz.pinned (OpenSpec.ofChange topFieldSpec)

/-- ITS FALSE NEIGHBOUR: 'it returns false'. Refute it at one input. -/
def topFieldWrong : ChangeSpec := { name := "topField", fn := fun _ => fun
  | [d1, d2, d3] => { results := [.lit (.bool false)], args := [d1, d2, d3] }
  | _ => none }
def TopFieldWrongFalsely : Prop := topFieldRow.holds Tryz.pinned (OpenSpec.ofChange topFieldWrong)

/-- 'woodgraintop.TopCopies': WHATEVER THE INPUT: true; the input reads as it did. -/
def topCopiesSpec : ChangeSpec := { name := "topCopies", fn := fun _ => fun
  | [d1, d2, d3] => { results := [.lit (.bool true)], args := [d1, d2, d3] }
  | _ => none }
def topCopiesRow : OpenClaim := { program := "ytmdiokmkokjpiaagreat", sum := "ce065a6e6d8d7c0a601016ce3271504326da66e1febb68def9dd0b57eb3047b1", func := "woodgrain/woodgraintop.TopCopies", spec := "topCopies", unfollowed := true, recurses := true, apart := false }
def TopCopiesSaid : Prop := topCopiesRow.holds Tryz.pinned (OpenSpec.ofChange topCopiesSpec)

/-- ITS FALSE NEIGHBOUR: 'it returns false'. Refute it at one input. -/
def topCopiesWrong : ChangeSpec := { name := "topCopies", fn := fun _ => fun
  | [d1, d2, d3] => { results := [.lit (.bool false)], args := [d1, d2, d3] }
  | _ => none }
def TopCopiesWrongFalsely : Prop := topCopiesRow.holds Tryz.pinned (OpenSpec.ofChange topCopiesWrong)

/-- 'woodgraintop.TopMeet': WHATEVER THE INPUT: true; the input reads as it did. -/
def topMeetSpec : ChangeSpec := { name := "topMeet", fn := fun _ => fun
  | [d1, d2] => { results := [.lit (.bool true)], args := [d1, d2] }
  | _ => none }
def topMeetRow : OpenClaim := { program := "ytmdiokmkokjpiaagreat", sum := "ce065a6e6d8d7c0a601016ce3271504326da66e1febb68def9dd0b57eb3047b1", func := "woodgrain/woodgraintop.TopMeet", spec := "topMeet", unfollowed := true, recurses := true, apart := false }
def TopMeetSaid : Prop := topMeetRow.holds Tryz.pinned (OpenSpec.ofChange topMeetSpec)

/-- ITS FALSE NEIGHBOUR: 'it returns false'. Refute it at one input. -/
def topMeetWrong : ChangeSpec := { name := "topMeet", fn := fun _ => fun
  | [d1, d2] => { results := [.lit (.bool false)], args := [d1, d2] }
  | _ => none }
def TopMeetWrongFalsely : Prop := topMeetRow.holds Tryz.pinned (OpenSpec.ofChange topMeetWrong)

/- THE SECOND FORM. 'bulk': how many values and letters a reading holds, each counted each time it is reached (what is shared counts as often as it is met; a slice's spare places count too). A statement '..UptoSaid' is the law's where the arguments, and the package variables that the reading takes, are together of bulk at most 1048576: NARROWER than '..Said'. Prove '..Said' where nothing that the law and all that it calls make is longer than what came in: it says more and counts as full. Else prove '..UptoSaid'. A law counts once. -/
mutual
def uptoBulk {H : Type} : DataW H → Nat
  | .lit (.string bytes) => bytes.length + 1
  | .lit _ => 1
  | .nil => 1
  | .ptr d => uptoBulk d + 1
  | .slice elems spare => uptoBulkAll elems + uptoBulkAll spare + 1
  | .agg parts => uptoBulkAll parts + 1
  | .iface _ d => uptoBulk d + 1
  | .map entries => uptoBulkEntries entries + 1
  | .held _ => 1
def uptoBulkAll {H : Type} : List (DataW H) → Nat
  | [] => 0
  | d :: r => uptoBulk d + uptoBulkAll r
def uptoBulkEntries {H : Type} : List (Lit × DataW H) → Nat
  | [] => 0
  | x :: r => uptoBulkEntry x + uptoBulkEntries r
def uptoBulkEntry {H : Type} : Lit × DataW H → Nat
  | (.string bytes, d) => bytes.length + uptoBulk d + 1
  | (_, d) => uptoBulk d + 1
 end
def uptoSmall : (H : Type) → List (DataW H) → Bool := fun _ ds => decide (uptoBulkAll ds ≤ 1048576)
def OpenSpec.upto (s : _root_.Go.ChangeSpec) : _root_.Go.OpenSpec := { _root_.Go.OpenSpec.ofChange s with cond := some uptoSmall }

/-- 'woodgraintop.TopField', WHERE WHAT IT READS IS OF BULK AT MOST 1048576: true; the input reads as it did. -/
def topFieldUptoRow : OpenClaim := { program := "ytmdiokmkokjpiaagreat", sum := "ce065a6e6d8d7c0a601016ce3271504326da66e1febb68def9dd0b57eb3047b1", func := "woodgrain/woodgraintop.TopField", spec := "topField", unfollowed := true, recurses := true, apart := false, narrowed := true }
def TopFieldUptoSaid : Prop := topFieldUptoRow.holds Tryz.pinned (OpenSpec.upto topFieldSpec)

/-- 'woodgraintop.TopCopies', WHERE WHAT IT READS IS OF BULK AT MOST 1048576: true; the input reads as it did. -/
def topCopiesUptoRow : OpenClaim := { program := "ytmdiokmkokjpiaagreat", sum := "ce065a6e6d8d7c0a601016ce3271504326da66e1febb68def9dd0b57eb3047b1", func := "woodgrain/woodgraintop.TopCopies", spec := "topCopies", unfollowed := true, recurses := true, apart := false, narrowed := true }
def TopCopiesUptoSaid : Prop := topCopiesUptoRow.holds Tryz.pinned (OpenSpec.upto topCopiesSpec)

/-- 'woodgraintop.TopMeet', WHERE WHAT IT READS IS OF BULK AT MOST 1048576: true; the input reads as it did. -/
def topMeetUptoRow : OpenClaim := { program := "ytmdiokmkokjpiaagreat", sum := "ce065a6e6d8d7c0a601016ce3271504326da66e1febb68def9dd0b57eb3047b1", func := "woodgrain/woodgraintop.TopMeet", spec := "topMeet", unfollowed := true, recurses := true, apart := false, narrowed := true }
def TopMeetUptoSaid : Prop := topMeetUptoRow.holds Tryz.pinned (OpenSpec.upto topMeetSpec)

end Rows
end Go.Proofs.YtmdiokmkokjpiaaGreat
