/-
  No cell of these rows narrows 'for every input' (looked for: loops, veiled, ifaces, maps, wideKeys, modest, calm, conditions, laid).
  DERIVED. THE GIVEN ROWS OF THIS SEAT. 7 by the template 'for every input the law returns true; each argument reads behind the call as it read before'; 0 by the template 'total and deterministic' (their statements: YteenoopdhflgkaaTotals.lean).
  GIVEN WITH THE SEED: the statements are not yours to turn. If you find one false, say at which input.
  Laid BY PROGRAM, IN A SANDBOX (cutbox-rows.mjs): the forced cells as the released guide's own fill.sh prints them over the translation bf277ccf3ed77099… (all of the seat's roots in one cut). By AI agents, Wed Nov 11 2026. No macro, syntax, notation, axiom, sorry.
-/
import Derived.Test.YteenoopdhflgkaaChecked
import GoSem.Claim
import GoSem.ClaimJoined
import GoSem.ClaimMapViews
import Derived.JoinedTies
import Derived.KernelRfl
namespace Go.Proofs.Yteenoopdhflgkaa
/- THE CELL 'sum', in the pinned program and in every row, IS THE sha256 OF THE DUMP (.gsa) THAT YteenoopdhflgkaaProg.lean LOADS. Nothing in Lean hashes anything: it is a label: what it is worth is what the hold of that sum in a sandbox is worth. -/
noncomputable def Try.pinned : Pinned := { name := "yteenoopdhflgkaa", sum := "bf277ccf3ed77099bc180f137825e219e0ae2cf3b42757271d5ed11eb46946a3", checked := Try.checked }
namespace Rows
def none {H : Type} : Left H := { results := [], args := [] }

/-- 'woodgrainlaw18.FieldLits': WHATEVER THE INPUT: true; the input reads as it did. -/
def fieldLitsSpec : ChangeSpec := { name := "fieldLits", fn := fun _ => fun
  | [d1, d2, d3] => { results := [.lit (.bool true)], args := [d1, d2, d3] }
  | _ => none }
def fieldLitsRow : OpenClaim := { program := "yteenoopdhflgkaa", sum := "bf277ccf3ed77099bc180f137825e219e0ae2cf3b42757271d5ed11eb46946a3", func := "woodgrain/woodgrainlaw18.FieldLits", spec := "fieldLits", unfollowed := true, recurses := true, apart := false }
def FieldLitsSaid : Prop := fieldLitsRow.holds Try.pinned (OpenSpec.ofChange fieldLitsSpec)

/-- ITS FALSE NEIGHBOUR: 'it returns false'. Refute it at one input. -/
def fieldLitsWrong : ChangeSpec := { name := "fieldLits", fn := fun _ => fun
  | [d1, d2, d3] => { results := [.lit (.bool false)], args := [d1, d2, d3] }
  | _ => none }
def FieldLitsWrongFalsely : Prop := fieldLitsRow.holds Try.pinned (OpenSpec.ofChange fieldLitsWrong)

/-- 'woodgrainlaw18.FieldHalves': WHATEVER THE INPUT: true; the input reads as it did. -/
def fieldHalvesSpec : ChangeSpec := { name := "fieldHalves", fn := fun _ => fun
  | [d1, d2, d3] => { results := [.lit (.bool true)], args := [d1, d2, d3] }
  | _ => none }
def fieldHalvesRow : OpenClaim := { program := "yteenoopdhflgkaa", sum := "bf277ccf3ed77099bc180f137825e219e0ae2cf3b42757271d5ed11eb46946a3", func := "woodgrain/woodgrainlaw18.FieldHalves", spec := "fieldHalves", unfollowed := true, recurses := true, apart := false }
def FieldHalvesSaid : Prop := fieldHalvesRow.holds Try.pinned (OpenSpec.ofChange fieldHalvesSpec)

/-- ITS FALSE NEIGHBOUR: 'it returns false'. Refute it at one input. -/
def fieldHalvesWrong : ChangeSpec := { name := "fieldHalves", fn := fun _ => fun
  | [d1, d2, d3] => { results := [.lit (.bool false)], args := [d1, d2, d3] }
  | _ => none }
def FieldHalvesWrongFalsely : Prop := fieldHalvesRow.holds Try.pinned (OpenSpec.ofChange fieldHalvesWrong)

/-- 'woodgrainlaw18.FieldMeets': WHATEVER THE INPUT: true; the input reads as it did. -/
def fieldMeetsSpec : ChangeSpec := { name := "fieldMeets", fn := fun _ => fun
  | [d1, d2] => { results := [.lit (.bool true)], args := [d1, d2] }
  | _ => none }
def fieldMeetsRow : OpenClaim := { program := "yteenoopdhflgkaa", sum := "bf277ccf3ed77099bc180f137825e219e0ae2cf3b42757271d5ed11eb46946a3", func := "woodgrain/woodgrainlaw18.FieldMeets", spec := "fieldMeets", unfollowed := true, recurses := true, apart := false }
def FieldMeetsSaid : Prop := fieldMeetsRow.holds Try.pinned (OpenSpec.ofChange fieldMeetsSpec)

/-- ITS FALSE NEIGHBOUR: 'it returns false'. Refute it at one input. -/
def fieldMeetsWrong : ChangeSpec := { name := "fieldMeets", fn := fun _ => fun
  | [d1, d2] => { results := [.lit (.bool false)], args := [d1, d2] }
  | _ => none }
def FieldMeetsWrongFalsely : Prop := fieldMeetsRow.holds Try.pinned (OpenSpec.ofChange fieldMeetsWrong)

/-- 'woodgrainlaw18.FieldGraphs': WHATEVER THE INPUT: true; the input reads as it did. -/
def fieldGraphsSpec : ChangeSpec := { name := "fieldGraphs", fn := fun _ => fun
  | [d] => { results := [.lit (.bool true)], args := [d] }
  | _ => none }
def fieldGraphsRow : OpenClaim := { program := "yteenoopdhflgkaa", sum := "bf277ccf3ed77099bc180f137825e219e0ae2cf3b42757271d5ed11eb46946a3", func := "woodgrain/woodgrainlaw18.FieldGraphs", spec := "fieldGraphs", unfollowed := true, recurses := true, apart := false }
def FieldGraphsSaid : Prop := fieldGraphsRow.holds Try.pinned (OpenSpec.ofChange fieldGraphsSpec)

/-- ITS FALSE NEIGHBOUR: 'it returns false'. Refute it at one input. -/
def fieldGraphsWrong : ChangeSpec := { name := "fieldGraphs", fn := fun _ => fun
  | [d] => { results := [.lit (.bool false)], args := [d] }
  | _ => none }
def FieldGraphsWrongFalsely : Prop := fieldGraphsRow.holds Try.pinned (OpenSpec.ofChange fieldGraphsWrong)

/-- 'woodgrainlaw18.FieldFlips': WHATEVER THE INPUT: true; the input reads as it did. -/
def fieldFlipsSpec : ChangeSpec := { name := "fieldFlips", fn := fun _ => fun
  | [d1, d2, d3] => { results := [.lit (.bool true)], args := [d1, d2, d3] }
  | _ => none }
def fieldFlipsRow : OpenClaim := { program := "yteenoopdhflgkaa", sum := "bf277ccf3ed77099bc180f137825e219e0ae2cf3b42757271d5ed11eb46946a3", func := "woodgrain/woodgrainlaw18.FieldFlips", spec := "fieldFlips", unfollowed := true, recurses := true, apart := false }
def FieldFlipsSaid : Prop := fieldFlipsRow.holds Try.pinned (OpenSpec.ofChange fieldFlipsSpec)

/-- ITS FALSE NEIGHBOUR: 'it returns false'. Refute it at one input. -/
def fieldFlipsWrong : ChangeSpec := { name := "fieldFlips", fn := fun _ => fun
  | [d1, d2, d3] => { results := [.lit (.bool false)], args := [d1, d2, d3] }
  | _ => none }
def FieldFlipsWrongFalsely : Prop := fieldFlipsRow.holds Try.pinned (OpenSpec.ofChange fieldFlipsWrong)

/-- 'woodgrainlaw18.FieldSees': WHATEVER THE INPUT: true; the input reads as it did. -/
def fieldSeesSpec : ChangeSpec := { name := "fieldSees", fn := fun _ => fun
  | [d1, d2, d3] => { results := [.lit (.bool true)], args := [d1, d2, d3] }
  | _ => none }
def fieldSeesRow : OpenClaim := { program := "yteenoopdhflgkaa", sum := "bf277ccf3ed77099bc180f137825e219e0ae2cf3b42757271d5ed11eb46946a3", func := "woodgrain/woodgrainlaw18.FieldSees", spec := "fieldSees", unfollowed := true, recurses := true, apart := false }
def FieldSeesSaid : Prop := fieldSeesRow.holds Try.pinned (OpenSpec.ofChange fieldSeesSpec)

/-- ITS FALSE NEIGHBOUR: 'it returns false'. Refute it at one input. -/
def fieldSeesWrong : ChangeSpec := { name := "fieldSees", fn := fun _ => fun
  | [d1, d2, d3] => { results := [.lit (.bool false)], args := [d1, d2, d3] }
  | _ => none }
def FieldSeesWrongFalsely : Prop := fieldSeesRow.holds Try.pinned (OpenSpec.ofChange fieldSeesWrong)

/-- 'woodgrainlaw18.FieldTells': WHATEVER THE INPUT: true; the input reads as it did. -/
def fieldTellsSpec : ChangeSpec := { name := "fieldTells", fn := fun _ => fun
  | [d1, d2] => { results := [.lit (.bool true)], args := [d1, d2] }
  | _ => none }
def fieldTellsRow : OpenClaim := { program := "yteenoopdhflgkaa", sum := "bf277ccf3ed77099bc180f137825e219e0ae2cf3b42757271d5ed11eb46946a3", func := "woodgrain/woodgrainlaw18.FieldTells", spec := "fieldTells", unfollowed := true, recurses := true, apart := false }
def FieldTellsSaid : Prop := fieldTellsRow.holds Try.pinned (OpenSpec.ofChange fieldTellsSpec)

/-- ITS FALSE NEIGHBOUR: 'it returns false'. Refute it at one input. -/
def fieldTellsWrong : ChangeSpec := { name := "fieldTells", fn := fun _ => fun
  | [d1, d2] => { results := [.lit (.bool false)], args := [d1, d2] }
  | _ => none }
def FieldTellsWrongFalsely : Prop := fieldTellsRow.holds Try.pinned (OpenSpec.ofChange fieldTellsWrong)

/- THE SECOND FORM. 'bulk': how many values and letters a reading holds, each counted each time it is reached (what is shared counts as often as it is met; a slice's spare places count too). A statement '..UptoSaid' is the law's where the arguments, and the package variables that the reading takes, are together of bulk at most 1048576: NARROWER than '..Said'. Prove '..Said' where nothing that the law and all that it calls make is longer than what came in: it says more and counts as full. Else prove '..UptoSaid'. A law counts once. -/
mutual
def uptoBulk {H : Type} : DataW H → Nat
  | .lit (.string bytes) => bytes.length + 1
  | .lit _ => 1
  | .nil => 1
  | .ptr d => uptoBulk d + 1
  | .slice elems spare => uptoBulkAll elems + uptoBulkAll spare + 1
  | .agg parts => uptoBulkAll parts + 1
  | .iface _ d => uptoBulk d + 1
  | .map entries => uptoBulkEntries entries + 1
  | .held _ => 1
def uptoBulkAll {H : Type} : List (DataW H) → Nat
  | [] => 0
  | d :: r => uptoBulk d + uptoBulkAll r
def uptoBulkEntries {H : Type} : List (Lit × DataW H) → Nat
  | [] => 0
  | x :: r => uptoBulkEntry x + uptoBulkEntries r
def uptoBulkEntry {H : Type} : Lit × DataW H → Nat
  | (.string bytes, d) => bytes.length + uptoBulk d + 1
  | (_, d) => uptoBulk d + 1
 end
def uptoSmall : (H : Type) → List (DataW H) → Bool := fun _ ds => decide (uptoBulkAll ds ≤ 1048576)
def OpenSpec.upto (s : _root_.Go.ChangeSpec) : _root_.Go.OpenSpec := { _root_.Go.OpenSpec.ofChange s with cond := some uptoSmall }

/-- 'woodgrainlaw18.FieldLits', WHERE WHAT IT READS IS OF BULK AT MOST 1048576: true; the input reads as it did. -/
def fieldLitsUptoRow : OpenClaim := { program := "yteenoopdhflgkaa", sum := "bf277ccf3ed77099bc180f137825e219e0ae2cf3b42757271d5ed11eb46946a3", func := "woodgrain/woodgrainlaw18.FieldLits", spec := "fieldLits", unfollowed := true, recurses := true, apart := false, narrowed := true }
def FieldLitsUptoSaid : Prop := fieldLitsUptoRow.holds Try.pinned (OpenSpec.upto fieldLitsSpec)

/-- 'woodgrainlaw18.FieldHalves', WHERE WHAT IT READS IS OF BULK AT MOST 1048576: true; the input reads as it did. -/
def fieldHalvesUptoRow : OpenClaim := { program := "yteenoopdhflgkaa", sum := "bf277ccf3ed77099bc180f137825e219e0ae2cf3b42757271d5ed11eb46946a3", func := "woodgrain/woodgrainlaw18.FieldHalves", spec := "fieldHalves", unfollowed := true, recurses := true, apart := false, narrowed := true }
def FieldHalvesUptoSaid : Prop := fieldHalvesUptoRow.holds Try.pinned (OpenSpec.upto fieldHalvesSpec)

/-- 'woodgrainlaw18.FieldMeets', WHERE WHAT IT READS IS OF BULK AT MOST 1048576: true; the input reads as it did. -/
def fieldMeetsUptoRow : OpenClaim := { program := "yteenoopdhflgkaa", sum := "bf277ccf3ed77099bc180f137825e219e0ae2cf3b42757271d5ed11eb46946a3", func := "woodgrain/woodgrainlaw18.FieldMeets", spec := "fieldMeets", unfollowed := true, recurses := true, apart := false, narrowed := true }
def FieldMeetsUptoSaid : Prop := fieldMeetsUptoRow.holds Try.pinned (OpenSpec.upto fieldMeetsSpec)

/-- 'woodgrainlaw18.FieldGraphs', WHERE WHAT IT READS IS OF BULK AT MOST 1048576: true; the input reads as it did. -/
def fieldGraphsUptoRow : OpenClaim := { program := "yteenoopdhflgkaa", sum := "bf277ccf3ed77099bc180f137825e219e0ae2cf3b42757271d5ed11eb46946a3", func := "woodgrain/woodgrainlaw18.FieldGraphs", spec := "fieldGraphs", unfollowed := true, recurses := true, apart := false, narrowed := true }
def FieldGraphsUptoSaid : Prop := fieldGraphsUptoRow.holds Try.pinned (OpenSpec.upto fieldGraphsSpec)

/-- 'woodgrainlaw18.FieldFlips', WHERE WHAT IT READS IS OF BULK AT MOST 1048576: true; the input reads as it did. -/
def fieldFlipsUptoRow : OpenClaim := { program := "yteenoopdhflgkaa", sum := "bf277ccf3ed77099bc180f137825e219e0ae2cf3b42757271d5ed11eb46946a3", func := "woodgrain/woodgrainlaw18.FieldFlips", spec := "fieldFlips", unfollowed := true, recurses := true, apart := false, narrowed := true }
def FieldFlipsUptoSaid : Prop := fieldFlipsUptoRow.holds Try.pinned (OpenSpec.upto fieldFlipsSpec)

/-- 'woodgrainlaw18.FieldSees', WHERE WHAT IT READS IS OF BULK AT MOST 1048576: true; the input reads as it did. -/
def fieldSeesUptoRow : OpenClaim := { program := "yteenoopdhflgkaa", sum := "bf277ccf3ed77099bc180f137825e219e0ae2cf3b42757271d5ed11eb46946a3", func := "woodgrain/woodgrainlaw18.FieldSees", spec := "fieldSees", unfollowed := true, recurses := true, apart := false, narrowed := true }
def FieldSeesUptoSaid : Prop := fieldSeesUptoRow.holds Try.pinned (OpenSpec.upto fieldSeesSpec)

/-- 'woodgrainlaw18.FieldTells', WHERE WHAT IT READS IS OF BULK AT MOST 1048576: true; the input reads as it did. -/
def fieldTellsUptoRow : OpenClaim := { program := "yteenoopdhflgkaa", sum := "bf277ccf3ed77099bc180f137825e219e0ae2cf3b42757271d5ed11eb46946a3", func := "woodgrain/woodgrainlaw18.FieldTells", spec := "fieldTells", unfollowed := true, recurses := true, apart := false, narrowed := true }
def FieldTellsUptoSaid : Prop := fieldTellsUptoRow.holds Try.pinned (OpenSpec.upto fieldTellsSpec)

end Rows
end Go.Proofs.Yteenoopdhflgkaa
