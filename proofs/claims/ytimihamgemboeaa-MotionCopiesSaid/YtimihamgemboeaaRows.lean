/-
  No cell of these rows narrows 'for every input' (looked for: loops, veiled, ifaces, maps, wideKeys, modest, calm, conditions, laid).
  DERIVED. THE GIVEN ROWS OF THIS SEAT. 6 by the template 'for every input the law returns true; each argument reads behind the call as it read before'; 0 by the template 'total and deterministic' (their statements: YtimihamgemboeaaTotals.lean).
  GIVEN WITH THE SEED: the statements are not yours to turn. If you find one false, say at which input.
  Laid BY PROGRAM, IN A SANDBOX (cutbox-rows.mjs): the forced cells as the released guide's own fill.sh prints them over the translation e04fc46d537af65f… (all of the seat's roots in one cut). By AI agents, Wed Nov 11 2026. No macro, syntax, notation, axiom, sorry.
-/
import Derived.Test.YtimihamgemboeaaChecked
import GoSem.Claim
import GoSem.ClaimJoined
import GoSem.ClaimMapViews
import Derived.JoinedTies
import Derived.KernelRfl
namespace Go.Proofs.Ytimihamgemboeaa
/- THE CELL 'sum', in the pinned program and in every row, IS THE sha256 OF THE DUMP (.gsa) THAT YtimihamgemboeaaProg.lean LOADS. Nothing in Lean hashes anything: it is a label: what it is worth is what the hold of that sum in a sandbox is worth. -/
noncomputable def Try.pinned : Pinned := { name := "ytimihamgemboeaa", sum := "e04fc46d537af65f8a1b4671866cca0e8494e6866c18033480ceeef92260bfb5", checked := Try.checked }
namespace Rows
def none {H : Type} : Left H := { results := [], args := [] }

/-- 'woodgrainlaw17.MotionShifts': WHATEVER THE INPUT: true; the input reads as it did. -/
def motionShiftsSpec : ChangeSpec := { name := "motionShifts", fn := fun _ => fun
  | [d1, d2] => { results := [.lit (.bool true)], args := [d1, d2] }
  | _ => none }
def motionShiftsRow : OpenClaim := { program := "ytimihamgemboeaa", sum := "e04fc46d537af65f8a1b4671866cca0e8494e6866c18033480ceeef92260bfb5", func := "woodgrain/woodgrainlaw17.MotionShifts", spec := "motionShifts", unfollowed := true, recurses := true, apart := false }
def MotionShiftsSaid : Prop := motionShiftsRow.holds Try.pinned (OpenSpec.ofChange motionShiftsSpec)

/-- ITS FALSE NEIGHBOUR: 'it returns false'. Refute it at one input. -/
def motionShiftsWrong : ChangeSpec := { name := "motionShifts", fn := fun _ => fun
  | [d1, d2] => { results := [.lit (.bool false)], args := [d1, d2] }
  | _ => none }
def MotionShiftsWrongFalsely : Prop := motionShiftsRow.holds Try.pinned (OpenSpec.ofChange motionShiftsWrong)

/-- 'woodgrainlaw17.MotionCounts': WHATEVER THE INPUT: true; the input reads as it did. -/
def motionCountsSpec : ChangeSpec := { name := "motionCounts", fn := fun _ => fun
  | [d1, d2] => { results := [.lit (.bool true)], args := [d1, d2] }
  | _ => none }
def motionCountsRow : OpenClaim := { program := "ytimihamgemboeaa", sum := "e04fc46d537af65f8a1b4671866cca0e8494e6866c18033480ceeef92260bfb5", func := "woodgrain/woodgrainlaw17.MotionCounts", spec := "motionCounts", unfollowed := true, recurses := true, apart := false }
def MotionCountsSaid : Prop := motionCountsRow.holds Try.pinned (OpenSpec.ofChange motionCountsSpec)

/-- ITS FALSE NEIGHBOUR: 'it returns false'. Refute it at one input. -/
def motionCountsWrong : ChangeSpec := { name := "motionCounts", fn := fun _ => fun
  | [d1, d2] => { results := [.lit (.bool false)], args := [d1, d2] }
  | _ => none }
def MotionCountsWrongFalsely : Prop := motionCountsRow.holds Try.pinned (OpenSpec.ofChange motionCountsWrong)

/-- 'woodgrainlaw17.MotionTable': WHATEVER THE INPUT: true; the input reads as it did. -/
def motionTableSpec : ChangeSpec := { name := "motionTable", fn := fun _ => fun
  | [d1, d2] => { results := [.lit (.bool true)], args := [d1, d2] }
  | _ => none }
def motionTableRow : OpenClaim := { program := "ytimihamgemboeaa", sum := "e04fc46d537af65f8a1b4671866cca0e8494e6866c18033480ceeef92260bfb5", func := "woodgrain/woodgrainlaw17.MotionTable", spec := "motionTable", unfollowed := true, recurses := true, apart := false }
def MotionTableSaid : Prop := motionTableRow.holds Try.pinned (OpenSpec.ofChange motionTableSpec)

/-- ITS FALSE NEIGHBOUR: 'it returns false'. Refute it at one input. -/
def motionTableWrong : ChangeSpec := { name := "motionTable", fn := fun _ => fun
  | [d1, d2] => { results := [.lit (.bool false)], args := [d1, d2] }
  | _ => none }
def MotionTableWrongFalsely : Prop := motionTableRow.holds Try.pinned (OpenSpec.ofChange motionTableWrong)

/-- 'woodgrainlaw17.MotionPlays': WHATEVER THE INPUT: true; the input reads as it did. -/
def motionPlaysSpec : ChangeSpec := { name := "motionPlays", fn := fun _ => fun
  | [d] => { results := [.lit (.bool true)], args := [d] }
  | _ => none }
def motionPlaysRow : OpenClaim := { program := "ytimihamgemboeaa", sum := "e04fc46d537af65f8a1b4671866cca0e8494e6866c18033480ceeef92260bfb5", func := "woodgrain/woodgrainlaw17.MotionPlays", spec := "motionPlays", unfollowed := true, recurses := true, apart := false }
def MotionPlaysSaid : Prop := motionPlaysRow.holds Try.pinned (OpenSpec.ofChange motionPlaysSpec)

/-- ITS FALSE NEIGHBOUR: 'it returns false'. Refute it at one input. -/
def motionPlaysWrong : ChangeSpec := { name := "motionPlays", fn := fun _ => fun
  | [d] => { results := [.lit (.bool false)], args := [d] }
  | _ => none }
def MotionPlaysWrongFalsely : Prop := motionPlaysRow.holds Try.pinned (OpenSpec.ofChange motionPlaysWrong)

/-- 'woodgrainlaw17.MotionCopies': WHATEVER THE INPUT: true; the input reads as it did. -/
def motionCopiesSpec : ChangeSpec := { name := "motionCopies", fn := fun _ => fun
  | [d1, d2, d3] => { results := [.lit (.bool true)], args := [d1, d2, d3] }
  | _ => none }
def motionCopiesRow : OpenClaim := { program := "ytimihamgemboeaa", sum := "e04fc46d537af65f8a1b4671866cca0e8494e6866c18033480ceeef92260bfb5", func := "woodgrain/woodgrainlaw17.MotionCopies", spec := "motionCopies", unfollowed := true, recurses := true, apart := false }
def MotionCopiesSaid : Prop := motionCopiesRow.holds Try.pinned (OpenSpec.ofChange motionCopiesSpec)

/-- ITS FALSE NEIGHBOUR: 'it returns false'. Refute it at one input. -/
def motionCopiesWrong : ChangeSpec := { name := "motionCopies", fn := fun _ => fun
  | [d1, d2, d3] => { results := [.lit (.bool false)], args := [d1, d2, d3] }
  | _ => none }
def MotionCopiesWrongFalsely : Prop := motionCopiesRow.holds Try.pinned (OpenSpec.ofChange motionCopiesWrong)

/-- 'woodgrainlaw17.MotionNil': WHATEVER THE INPUT: true; the input reads as it did. -/
def motionNilSpec : ChangeSpec := { name := "motionNil", fn := fun _ => fun
  | [d] => { results := [.lit (.bool true)], args := [d] }
  | _ => none }
def motionNilRow : OpenClaim := { program := "ytimihamgemboeaa", sum := "e04fc46d537af65f8a1b4671866cca0e8494e6866c18033480ceeef92260bfb5", func := "woodgrain/woodgrainlaw17.MotionNil", spec := "motionNil", unfollowed := true, recurses := true, apart := false }
def MotionNilSaid : Prop := motionNilRow.holds Try.pinned (OpenSpec.ofChange motionNilSpec)

/-- ITS FALSE NEIGHBOUR: 'it returns false'. Refute it at one input. -/
def motionNilWrong : ChangeSpec := { name := "motionNil", fn := fun _ => fun
  | [d] => { results := [.lit (.bool false)], args := [d] }
  | _ => none }
def MotionNilWrongFalsely : Prop := motionNilRow.holds Try.pinned (OpenSpec.ofChange motionNilWrong)

/- THE SECOND FORM. 'bulk': how many values and letters a reading holds, each counted each time it is reached (what is shared counts as often as it is met; a slice's spare places count too). A statement '..UptoSaid' is the law's where the arguments, and the package variables that the reading takes, are together of bulk at most 1048576: NARROWER than '..Said'. Prove '..Said' where nothing that the law and all that it calls make is longer than what came in: it says more and counts as full. Else prove '..UptoSaid'. A law counts once. -/
mutual
def uptoBulk {H : Type} : DataW H → Nat
  | .lit (.string bytes) => bytes.length + 1
  | .lit _ => 1
  | .nil => 1
  | .ptr d => uptoBulk d + 1
  | .slice elems spare => uptoBulkAll elems + uptoBulkAll spare + 1
  | .agg parts => uptoBulkAll parts + 1
  | .iface _ d => uptoBulk d + 1
  | .map entries => uptoBulkEntries entries + 1
  | .held _ => 1
def uptoBulkAll {H : Type} : List (DataW H) → Nat
  | [] => 0
  | d :: r => uptoBulk d + uptoBulkAll r
def uptoBulkEntries {H : Type} : List (Lit × DataW H) → Nat
  | [] => 0
  | x :: r => uptoBulkEntry x + uptoBulkEntries r
def uptoBulkEntry {H : Type} : Lit × DataW H → Nat
  | (.string bytes, d) => bytes.length + uptoBulk d + 1
  | (_, d) => uptoBulk d + 1
 end
def uptoSmall : (H : Type) → List (DataW H) → Bool := fun _ ds => decide (uptoBulkAll ds ≤ 1048576)
def OpenSpec.upto (s : _root_.Go.ChangeSpec) : _root_.Go.OpenSpec := { _root_.Go.OpenSpec.ofChange s with cond := some uptoSmall }

/-- 'woodgrainlaw17.MotionShifts', WHERE WHAT IT READS IS OF BULK AT MOST 1048576: true; the input reads as it did. -/
def motionShiftsUptoRow : OpenClaim := { program := "ytimihamgemboeaa", sum := "e04fc46d537af65f8a1b4671866cca0e8494e6866c18033480ceeef92260bfb5", func := "woodgrain/woodgrainlaw17.MotionShifts", spec := "motionShifts", unfollowed := true, recurses := true, apart := false, narrowed := true }
def MotionShiftsUptoSaid : Prop := motionShiftsUptoRow.holds Try.pinned (OpenSpec.upto motionShiftsSpec)

/-- 'woodgrainlaw17.MotionCounts', WHERE WHAT IT READS IS OF BULK AT MOST 1048576: true; the input reads as it did. -/
def motionCountsUptoRow : OpenClaim := { program := "ytimihamgemboeaa", sum := "e04fc46d537af65f8a1b4671866cca0e8494e6866c18033480ceeef92260bfb5", func := "woodgrain/woodgrainlaw17.MotionCounts", spec := "motionCounts", unfollowed := true, recurses := true, apart := false, narrowed := true }
def MotionCountsUptoSaid : Prop := motionCountsUptoRow.holds Try.pinned (OpenSpec.upto motionCountsSpec)

/-- 'woodgrainlaw17.MotionTable', WHERE WHAT IT READS IS OF BULK AT MOST 1048576: true; the input reads as it did. -/
def motionTableUptoRow : OpenClaim := { program := "ytimihamgemboeaa", sum := "e04fc46d537af65f8a1b4671866cca0e8494e6866c18033480ceeef92260bfb5", func := "woodgrain/woodgrainlaw17.MotionTable", spec := "motionTable", unfollowed := true, recurses := true, apart := false, narrowed := true }
def MotionTableUptoSaid : Prop := motionTableUptoRow.holds Try.pinned (OpenSpec.upto motionTableSpec)

/-- 'woodgrainlaw17.MotionPlays', WHERE WHAT IT READS IS OF BULK AT MOST 1048576: true; the input reads as it did. -/
def motionPlaysUptoRow : OpenClaim := { program := "ytimihamgemboeaa", sum := "e04fc46d537af65f8a1b4671866cca0e8494e6866c18033480ceeef92260bfb5", func := "woodgrain/woodgrainlaw17.MotionPlays", spec := "motionPlays", unfollowed := true, recurses := true, apart := false, narrowed := true }
def MotionPlaysUptoSaid : Prop := motionPlaysUptoRow.holds Try.pinned (OpenSpec.upto motionPlaysSpec)

/-- 'woodgrainlaw17.MotionCopies', WHERE WHAT IT READS IS OF BULK AT MOST 1048576: true; the input reads as it did. -/
def motionCopiesUptoRow : OpenClaim := { program := "ytimihamgemboeaa", sum := "e04fc46d537af65f8a1b4671866cca0e8494e6866c18033480ceeef92260bfb5", func := "woodgrain/woodgrainlaw17.MotionCopies", spec := "motionCopies", unfollowed := true, recurses := true, apart := false, narrowed := true }
def MotionCopiesUptoSaid : Prop := motionCopiesUptoRow.holds Try.pinned (OpenSpec.upto motionCopiesSpec)

/-- 'woodgrainlaw17.MotionNil', WHERE WHAT IT READS IS OF BULK AT MOST 1048576: true; the input reads as it did. -/
def motionNilUptoRow : OpenClaim := { program := "ytimihamgemboeaa", sum := "e04fc46d537af65f8a1b4671866cca0e8494e6866c18033480ceeef92260bfb5", func := "woodgrain/woodgrainlaw17.MotionNil", spec := "motionNil", unfollowed := true, recurses := true, apart := false, narrowed := true }
def MotionNilUptoSaid : Prop := motionNilUptoRow.holds Try.pinned (OpenSpec.upto motionNilSpec)

end Rows
end Go.Proofs.Ytimihamgemboeaa
