/-
  No cell of these rows narrows 'for every input' (looked for: loops, veiled, ifaces, maps, wideKeys, modest, calm, conditions, laid).
  DERIVED. THE GIVEN ROWS OF THIS SEAT. 11 by the template 'for every input the law returns true; each argument reads behind the call as it read before'; 0 by the template 'total and deterministic' (their statements: YtlodkcpaoljdlaaTotals.lean).
  GIVEN WITH THE SEED: the statements are not yours to turn. If you find one false, say at which input.
  Laid BY PROGRAM, IN A SANDBOX (cutbox-rows.mjs): the forced cells as the released guide's own fill.sh prints them over the translation 83c37378cbd20d0e… (all of the seat's roots in one cut). By AI agents, Wed Nov 11 2026. No macro, syntax, notation, axiom, sorry.
-/
import Derived.Test.YtlodkcpaoljdlaaChecked
import GoSem.Claim
import GoSem.ClaimJoined
import GoSem.ClaimMapViews
import Derived.JoinedTies
import Derived.KernelRfl
namespace Go.Proofs.Ytlodkcpaoljdlaa
/- THE CELL 'sum', in the pinned program and in every row, IS THE sha256 OF THE DUMP (.gsa) THAT YtlodkcpaoljdlaaProg.lean LOADS. Nothing in Lean hashes anything: it is a label: what it is worth is what the hold of that sum in a sandbox is worth. -/
noncomputable def Try.pinned : Pinned := { name := "ytlodkcpaoljdlaa", sum := "83c37378cbd20d0e56ce250fbc167175887d793c357151593038713de4968e67", checked := Try.checked }
namespace Rows
def none {H : Type} : Left H := { results := [], args := [] }

/-- 'woodgrainlaw01.PolySteps': WHATEVER THE INPUT: true; the input reads as it did. -/
def polyStepsSpec : ChangeSpec := { name := "polySteps", fn := fun _ => fun
  | [d] => { results := [.lit (.bool true)], args := [d] }
  | _ => none }
def polyStepsRow : OpenClaim := { program := "ytlodkcpaoljdlaa", sum := "83c37378cbd20d0e56ce250fbc167175887d793c357151593038713de4968e67", func := "woodgrain/woodgrainlaw01.PolySteps", spec := "polySteps", unfollowed := true, recurses := true, apart := false }
def PolyStepsSaid : Prop := polyStepsRow.holds Try.pinned (OpenSpec.ofChange polyStepsSpec)

/-- ITS FALSE NEIGHBOUR: 'it returns false'. Refute it at one input. -/
def polyStepsWrong : ChangeSpec := { name := "polySteps", fn := fun _ => fun
  | [d] => { results := [.lit (.bool false)], args := [d] }
  | _ => none }
def PolyStepsWrongFalsely : Prop := polyStepsRow.holds Try.pinned (OpenSpec.ofChange polyStepsWrong)

/-- 'woodgrainlaw01.PolyBits': WHATEVER THE INPUT: true; the input reads as it did. -/
def polyBitsSpec : ChangeSpec := { name := "polyBits", fn := fun _ => fun
  | [d] => { results := [.lit (.bool true)], args := [d] }
  | _ => none }
def polyBitsRow : OpenClaim := { program := "ytlodkcpaoljdlaa", sum := "83c37378cbd20d0e56ce250fbc167175887d793c357151593038713de4968e67", func := "woodgrain/woodgrainlaw01.PolyBits", spec := "polyBits", unfollowed := true, recurses := true, apart := false }
def PolyBitsSaid : Prop := polyBitsRow.holds Try.pinned (OpenSpec.ofChange polyBitsSpec)

/-- ITS FALSE NEIGHBOUR: 'it returns false'. Refute it at one input. -/
def polyBitsWrong : ChangeSpec := { name := "polyBits", fn := fun _ => fun
  | [d] => { results := [.lit (.bool false)], args := [d] }
  | _ => none }
def PolyBitsWrongFalsely : Prop := polyBitsRow.holds Try.pinned (OpenSpec.ofChange polyBitsWrong)

/-- 'woodgrainlaw01.PolyPlaces': WHATEVER THE INPUT: true; the input reads as it did. -/
def polyPlacesSpec : ChangeSpec := { name := "polyPlaces", fn := fun _ => fun
  | [d] => { results := [.lit (.bool true)], args := [d] }
  | _ => none }
def polyPlacesRow : OpenClaim := { program := "ytlodkcpaoljdlaa", sum := "83c37378cbd20d0e56ce250fbc167175887d793c357151593038713de4968e67", func := "woodgrain/woodgrainlaw01.PolyPlaces", spec := "polyPlaces", unfollowed := true, recurses := true, apart := false }
def PolyPlacesSaid : Prop := polyPlacesRow.holds Try.pinned (OpenSpec.ofChange polyPlacesSpec)

/-- ITS FALSE NEIGHBOUR: 'it returns false'. Refute it at one input. -/
def polyPlacesWrong : ChangeSpec := { name := "polyPlaces", fn := fun _ => fun
  | [d] => { results := [.lit (.bool false)], args := [d] }
  | _ => none }
def PolyPlacesWrongFalsely : Prop := polyPlacesRow.holds Try.pinned (OpenSpec.ofChange polyPlacesWrong)

/-- 'woodgrainlaw01.PolyChips': WHATEVER THE INPUT: true; the input reads as it did. -/
def polyChipsSpec : ChangeSpec := { name := "polyChips", fn := fun _ => fun
  | [d] => { results := [.lit (.bool true)], args := [d] }
  | _ => none }
def polyChipsRow : OpenClaim := { program := "ytlodkcpaoljdlaa", sum := "83c37378cbd20d0e56ce250fbc167175887d793c357151593038713de4968e67", func := "woodgrain/woodgrainlaw01.PolyChips", spec := "polyChips", unfollowed := true, recurses := true, apart := false }
def PolyChipsSaid : Prop := polyChipsRow.holds Try.pinned (OpenSpec.ofChange polyChipsSpec)

/-- ITS FALSE NEIGHBOUR: 'it returns false'. Refute it at one input. -/
def polyChipsWrong : ChangeSpec := { name := "polyChips", fn := fun _ => fun
  | [d] => { results := [.lit (.bool false)], args := [d] }
  | _ => none }
def PolyChipsWrongFalsely : Prop := polyChipsRow.holds Try.pinned (OpenSpec.ofChange polyChipsWrong)

/-- 'woodgrainlaw01.PolyApart': WHATEVER THE INPUT: true; the input reads as it did. -/
def polyApartSpec : ChangeSpec := { name := "polyApart", fn := fun _ => fun
  | [d1, d2, d3] => { results := [.lit (.bool true)], args := [d1, d2, d3] }
  | _ => none }
def polyApartRow : OpenClaim := { program := "ytlodkcpaoljdlaa", sum := "83c37378cbd20d0e56ce250fbc167175887d793c357151593038713de4968e67", func := "woodgrain/woodgrainlaw01.PolyApart", spec := "polyApart", unfollowed := true, recurses := true, apart := false }
def PolyApartSaid : Prop := polyApartRow.holds Try.pinned (OpenSpec.ofChange polyApartSpec)

/-- ITS FALSE NEIGHBOUR: 'it returns false'. Refute it at one input. -/
def polyApartWrong : ChangeSpec := { name := "polyApart", fn := fun _ => fun
  | [d1, d2, d3] => { results := [.lit (.bool false)], args := [d1, d2, d3] }
  | _ => none }
def PolyApartWrongFalsely : Prop := polyApartRow.holds Try.pinned (OpenSpec.ofChange polyApartWrong)

/-- 'woodgrainlaw01.PolyRound': WHATEVER THE INPUT: true; the input reads as it did. -/
def polyRoundSpec : ChangeSpec := { name := "polyRound", fn := fun _ => fun
  | [d] => { results := [.lit (.bool true)], args := [d] }
  | _ => none }
def polyRoundRow : OpenClaim := { program := "ytlodkcpaoljdlaa", sum := "83c37378cbd20d0e56ce250fbc167175887d793c357151593038713de4968e67", func := "woodgrain/woodgrainlaw01.PolyRound", spec := "polyRound", unfollowed := true, recurses := true, apart := false }
def PolyRoundSaid : Prop := polyRoundRow.holds Try.pinned (OpenSpec.ofChange polyRoundSpec)

/-- ITS FALSE NEIGHBOUR: 'it returns false'. Refute it at one input. -/
def polyRoundWrong : ChangeSpec := { name := "polyRound", fn := fun _ => fun
  | [d] => { results := [.lit (.bool false)], args := [d] }
  | _ => none }
def PolyRoundWrongFalsely : Prop := polyRoundRow.holds Try.pinned (OpenSpec.ofChange polyRoundWrong)

/-- 'woodgrainlaw19.ToneRounds': WHATEVER THE INPUT: true; the input reads as it did. -/
def toneRoundsSpec : ChangeSpec := { name := "toneRounds", fn := fun _ => fun
  | [d1, d2] => { results := [.lit (.bool true)], args := [d1, d2] }
  | _ => none }
def toneRoundsRow : OpenClaim := { program := "ytlodkcpaoljdlaa", sum := "83c37378cbd20d0e56ce250fbc167175887d793c357151593038713de4968e67", func := "woodgrain/woodgrainlaw19.ToneRounds", spec := "toneRounds", unfollowed := true, recurses := true, apart := false }
def ToneRoundsSaid : Prop := toneRoundsRow.holds Try.pinned (OpenSpec.ofChange toneRoundsSpec)

/-- ITS FALSE NEIGHBOUR: 'it returns false'. Refute it at one input. -/
def toneRoundsWrong : ChangeSpec := { name := "toneRounds", fn := fun _ => fun
  | [d1, d2] => { results := [.lit (.bool false)], args := [d1, d2] }
  | _ => none }
def ToneRoundsWrongFalsely : Prop := toneRoundsRow.holds Try.pinned (OpenSpec.ofChange toneRoundsWrong)

/-- 'woodgrainlaw19.ToneBounds': WHATEVER THE INPUT: true; the input reads as it did. -/
def toneBoundsSpec : ChangeSpec := { name := "toneBounds", fn := fun _ => fun
  | [d] => { results := [.lit (.bool true)], args := [d] }
  | _ => none }
def toneBoundsRow : OpenClaim := { program := "ytlodkcpaoljdlaa", sum := "83c37378cbd20d0e56ce250fbc167175887d793c357151593038713de4968e67", func := "woodgrain/woodgrainlaw19.ToneBounds", spec := "toneBounds", unfollowed := true, recurses := true, apart := false }
def ToneBoundsSaid : Prop := toneBoundsRow.holds Try.pinned (OpenSpec.ofChange toneBoundsSpec)

/-- ITS FALSE NEIGHBOUR: 'it returns false'. Refute it at one input. -/
def toneBoundsWrong : ChangeSpec := { name := "toneBounds", fn := fun _ => fun
  | [d] => { results := [.lit (.bool false)], args := [d] }
  | _ => none }
def ToneBoundsWrongFalsely : Prop := toneBoundsRow.holds Try.pinned (OpenSpec.ofChange toneBoundsWrong)

/-- 'woodgrainlaw19.TonePlays': WHATEVER THE INPUT: true; the input reads as it did. -/
def tonePlaysSpec : ChangeSpec := { name := "tonePlays", fn := fun _ => fun
  | [d] => { results := [.lit (.bool true)], args := [d] }
  | _ => none }
def tonePlaysRow : OpenClaim := { program := "ytlodkcpaoljdlaa", sum := "83c37378cbd20d0e56ce250fbc167175887d793c357151593038713de4968e67", func := "woodgrain/woodgrainlaw19.TonePlays", spec := "tonePlays", unfollowed := true, recurses := true, apart := false }
def TonePlaysSaid : Prop := tonePlaysRow.holds Try.pinned (OpenSpec.ofChange tonePlaysSpec)

/-- ITS FALSE NEIGHBOUR: 'it returns false'. Refute it at one input. -/
def tonePlaysWrong : ChangeSpec := { name := "tonePlays", fn := fun _ => fun
  | [d] => { results := [.lit (.bool false)], args := [d] }
  | _ => none }
def TonePlaysWrongFalsely : Prop := tonePlaysRow.holds Try.pinned (OpenSpec.ofChange tonePlaysWrong)

/-- 'woodgrainlaw19.ToneCopies': WHATEVER THE INPUT: true; the input reads as it did. -/
def toneCopiesSpec : ChangeSpec := { name := "toneCopies", fn := fun _ => fun
  | [d1, d2] => { results := [.lit (.bool true)], args := [d1, d2] }
  | _ => none }
def toneCopiesRow : OpenClaim := { program := "ytlodkcpaoljdlaa", sum := "83c37378cbd20d0e56ce250fbc167175887d793c357151593038713de4968e67", func := "woodgrain/woodgrainlaw19.ToneCopies", spec := "toneCopies", unfollowed := true, recurses := true, apart := false }
def ToneCopiesSaid : Prop := toneCopiesRow.holds Try.pinned (OpenSpec.ofChange toneCopiesSpec)

/-- ITS FALSE NEIGHBOUR: 'it returns false'. Refute it at one input. -/
def toneCopiesWrong : ChangeSpec := { name := "toneCopies", fn := fun _ => fun
  | [d1, d2] => { results := [.lit (.bool false)], args := [d1, d2] }
  | _ => none }
def ToneCopiesWrongFalsely : Prop := toneCopiesRow.holds Try.pinned (OpenSpec.ofChange toneCopiesWrong)

/-- 'woodgrainlaw19.ToneNil': WHATEVER THE INPUT: true; the input reads as it did. -/
def toneNilSpec : ChangeSpec := { name := "toneNil", fn := fun _ => fun
  | [d] => { results := [.lit (.bool true)], args := [d] }
  | _ => none }
def toneNilRow : OpenClaim := { program := "ytlodkcpaoljdlaa", sum := "83c37378cbd20d0e56ce250fbc167175887d793c357151593038713de4968e67", func := "woodgrain/woodgrainlaw19.ToneNil", spec := "toneNil", unfollowed := true, recurses := true, apart := false }
def ToneNilSaid : Prop := toneNilRow.holds Try.pinned (OpenSpec.ofChange toneNilSpec)

/-- ITS FALSE NEIGHBOUR: 'it returns false'. Refute it at one input. -/
def toneNilWrong : ChangeSpec := { name := "toneNil", fn := fun _ => fun
  | [d] => { results := [.lit (.bool false)], args := [d] }
  | _ => none }
def ToneNilWrongFalsely : Prop := toneNilRow.holds Try.pinned (OpenSpec.ofChange toneNilWrong)

/- THE SECOND FORM. 'bulk': how many values and letters a reading holds, each counted each time it is reached (what is shared counts as often as it is met; a slice's spare places count too). A statement '..UptoSaid' is the law's where the arguments, and the package variables that the reading takes, are together of bulk at most 1048576: NARROWER than '..Said'. Prove '..Said' where nothing that the law and all that it calls make is longer than what came in: it says more and counts as full. Else prove '..UptoSaid'. A law counts once. -/
mutual
def uptoBulk {H : Type} : DataW H → Nat
  | .lit (.string bytes) => bytes.length + 1
  | .lit _ => 1
  | .nil => 1
  | .ptr d => uptoBulk d + 1
  | .slice elems spare => uptoBulkAll elems + uptoBulkAll spare + 1
  | .agg parts => uptoBulkAll parts + 1
  | .iface _ d => uptoBulk d + 1
  | .map entries => uptoBulkEntries entries + 1
  | .held _ => 1
def uptoBulkAll {H : Type} : List (DataW H) → Nat
  | [] => 0
  | d :: r => uptoBulk d + uptoBulkAll r
def uptoBulkEntries {H : Type} : List (Lit × DataW H) → Nat
  | [] => 0
  | x :: r => uptoBulkEntry x + uptoBulkEntries r
def uptoBulkEntry {H : Type} : Lit × DataW H → Nat
  | (.string bytes, d) => bytes.length + uptoBulk d + 1
  | (_, d) => uptoBulk d + 1
 end
def uptoSmall : (H : Type) → List (DataW H) → Bool := fun _ ds => decide (uptoBulkAll ds ≤ 1048576)
def OpenSpec.upto (s : _root_.Go.ChangeSpec) : _root_.Go.OpenSpec := { _root_.Go.OpenSpec.ofChange s with cond := some uptoSmall }

/-- 'woodgrainlaw01.PolySteps', WHERE WHAT IT READS IS OF BULK AT MOST 1048576: true; the input reads as it did. -/
def polyStepsUptoRow : OpenClaim := { program := "ytlodkcpaoljdlaa", sum := "83c37378cbd20d0e56ce250fbc167175887d793c357151593038713de4968e67", func := "woodgrain/woodgrainlaw01.PolySteps", spec := "polySteps", unfollowed := true, recurses := true, apart := false, narrowed := true }
def PolyStepsUptoSaid : Prop := polyStepsUptoRow.holds Try.pinned (OpenSpec.upto polyStepsSpec)

/-- 'woodgrainlaw01.PolyBits', WHERE WHAT IT READS IS OF BULK AT MOST 1048576: true; the input reads as it did. -/
def polyBitsUptoRow : OpenClaim := { program := "ytlodkcpaoljdlaa", sum := "83c37378cbd20d0e56ce250fbc167175887d793c357151593038713de4968e67", func := "woodgrain/woodgrainlaw01.PolyBits", spec := "polyBits", unfollowed := true, recurses := true, apart := false, narrowed := true }
def PolyBitsUptoSaid : Prop := polyBitsUptoRow.holds Try.pinned (OpenSpec.upto polyBitsSpec)

/-- 'woodgrainlaw01.PolyPlaces', WHERE WHAT IT READS IS OF BULK AT MOST 1048576: true; the input reads as it did. -/
def polyPlacesUptoRow : OpenClaim := { program := "ytlodkcpaoljdlaa", sum := "83c37378cbd20d0e56ce250fbc167175887d793c357151593038713de4968e67", func := "woodgrain/woodgrainlaw01.PolyPlaces", spec := "polyPlaces", unfollowed := true, recurses := true, apart := false, narrowed := true }
def PolyPlacesUptoSaid : Prop := polyPlacesUptoRow.holds Try.pinned (OpenSpec.upto polyPlacesSpec)

/-- 'woodgrainlaw01.PolyChips', WHERE WHAT IT READS IS OF BULK AT MOST 1048576: true; the input reads as it did. -/
def polyChipsUptoRow : OpenClaim := { program := "ytlodkcpaoljdlaa", sum := "83c37378cbd20d0e56ce250fbc167175887d793c357151593038713de4968e67", func := "woodgrain/woodgrainlaw01.PolyChips", spec := "polyChips", unfollowed := true, recurses := true, apart := false, narrowed := true }
def PolyChipsUptoSaid : Prop := polyChipsUptoRow.holds Try.pinned (OpenSpec.upto polyChipsSpec)

/-- 'woodgrainlaw01.PolyApart', WHERE WHAT IT READS IS OF BULK AT MOST 1048576: true; the input reads as it did. -/
def polyApartUptoRow : OpenClaim := { program := "ytlodkcpaoljdlaa", sum := "83c37378cbd20d0e56ce250fbc167175887d793c357151593038713de4968e67", func := "woodgrain/woodgrainlaw01.PolyApart", spec := "polyApart", unfollowed := true, recurses := true, apart := false, narrowed := true }
def PolyApartUptoSaid : Prop := polyApartUptoRow.holds Try.pinned (OpenSpec.upto polyApartSpec)

/-- 'woodgrainlaw01.PolyRound', WHERE WHAT IT READS IS OF BULK AT MOST 1048576: true; the input reads as it did. -/
def polyRoundUptoRow : OpenClaim := { program := "ytlodkcpaoljdlaa", sum := "83c37378cbd20d0e56ce250fbc167175887d793c357151593038713de4968e67", func := "woodgrain/woodgrainlaw01.PolyRound", spec := "polyRound", unfollowed := true, recurses := true, apart := false, narrowed := true }
def PolyRoundUptoSaid : Prop := polyRoundUptoRow.holds Try.pinned (OpenSpec.upto polyRoundSpec)

/-- 'woodgrainlaw19.ToneRounds', WHERE WHAT IT READS IS OF BULK AT MOST 1048576: true; the input reads as it did. -/
def toneRoundsUptoRow : OpenClaim := { program := "ytlodkcpaoljdlaa", sum := "83c37378cbd20d0e56ce250fbc167175887d793c357151593038713de4968e67", func := "woodgrain/woodgrainlaw19.ToneRounds", spec := "toneRounds", unfollowed := true, recurses := true, apart := false, narrowed := true }
def ToneRoundsUptoSaid : Prop := toneRoundsUptoRow.holds Try.pinned (OpenSpec.upto toneRoundsSpec)

/-- 'woodgrainlaw19.ToneBounds', WHERE WHAT IT READS IS OF BULK AT MOST 1048576: true; the input reads as it did. -/
def toneBoundsUptoRow : OpenClaim := { program := "ytlodkcpaoljdlaa", sum := "83c37378cbd20d0e56ce250fbc167175887d793c357151593038713de4968e67", func := "woodgrain/woodgrainlaw19.ToneBounds", spec := "toneBounds", unfollowed := true, recurses := true, apart := false, narrowed := true }
def ToneBoundsUptoSaid : Prop := toneBoundsUptoRow.holds Try.pinned (OpenSpec.upto toneBoundsSpec)

/-- 'woodgrainlaw19.TonePlays', WHERE WHAT IT READS IS OF BULK AT MOST 1048576: true; the input reads as it did. -/
def tonePlaysUptoRow : OpenClaim := { program := "ytlodkcpaoljdlaa", sum := "83c37378cbd20d0e56ce250fbc167175887d793c357151593038713de4968e67", func := "woodgrain/woodgrainlaw19.TonePlays", spec := "tonePlays", unfollowed := true, recurses := true, apart := false, narrowed := true }
def TonePlaysUptoSaid : Prop := tonePlaysUptoRow.holds Try.pinned (OpenSpec.upto tonePlaysSpec)

/-- 'woodgrainlaw19.ToneCopies', WHERE WHAT IT READS IS OF BULK AT MOST 1048576: true; the input reads as it did. -/
def toneCopiesUptoRow : OpenClaim := { program := "ytlodkcpaoljdlaa", sum := "83c37378cbd20d0e56ce250fbc167175887d793c357151593038713de4968e67", func := "woodgrain/woodgrainlaw19.ToneCopies", spec := "toneCopies", unfollowed := true, recurses := true, apart := false, narrowed := true }
def ToneCopiesUptoSaid : Prop := toneCopiesUptoRow.holds Try.pinned (OpenSpec.upto toneCopiesSpec)

/-- 'woodgrainlaw19.ToneNil', WHERE WHAT IT READS IS OF BULK AT MOST 1048576: true; the input reads as it did. -/
def toneNilUptoRow : OpenClaim := { program := "ytlodkcpaoljdlaa", sum := "83c37378cbd20d0e56ce250fbc167175887d793c357151593038713de4968e67", func := "woodgrain/woodgrainlaw19.ToneNil", spec := "toneNil", unfollowed := true, recurses := true, apart := false, narrowed := true }
def ToneNilUptoSaid : Prop := toneNilUptoRow.holds Try.pinned (OpenSpec.upto toneNilSpec)

end Rows
end Go.Proofs.Ytlodkcpaoljdlaa
