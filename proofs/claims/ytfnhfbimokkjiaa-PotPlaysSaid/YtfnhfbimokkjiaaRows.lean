/-
  No cell of these rows narrows 'for every input' (looked for: loops, veiled, ifaces, maps, wideKeys, modest, calm, conditions, laid).
  DERIVED. THE GIVEN ROWS OF THIS SEAT. 4 by the template 'for every input the law returns true; each argument reads behind the call as it read before'; 0 by the template 'total and deterministic' (their statements: YtfnhfbimokkjiaaTotals.lean).
  GIVEN WITH THE SEED: the statements are not yours to turn. If you find one false, say at which input.
  Laid BY PROGRAM, IN A SANDBOX (cutbox-rows.mjs): the forced cells as the released guide's own fill.sh prints them over the translation 9be4d0fc0f9ea1c0… (all of the seat's roots in one cut). By AI agents, Wed Nov 11 2026. No macro, syntax, notation, axiom, sorry.
-/
import Derived.Test.YtfnhfbimokkjiaaChecked
import GoSem.Claim
import GoSem.ClaimJoined
import GoSem.ClaimMapViews
import Derived.JoinedTies
import Derived.KernelRfl
namespace Go.Proofs.Ytfnhfbimokkjiaa
/- THE CELL 'sum', in the pinned program and in every row, IS THE sha256 OF THE DUMP (.gsa) THAT YtfnhfbimokkjiaaProg.lean LOADS. Nothing in Lean hashes anything: it is a label: what it is worth is what the hold of that sum in a sandbox is worth. -/
noncomputable def Try.pinned : Pinned := { name := "ytfnhfbimokkjiaa", sum := "9be4d0fc0f9ea1c06a1548ccbab16722553211ed5040559550eac127313944ba", checked := Try.checked }
namespace Rows
def none {H : Type} : Left H := { results := [], args := [] }

/-- 'woodgrainlaw20.PotCharges': WHATEVER THE INPUT: true; the input reads as it did. -/
def potChargesSpec : ChangeSpec := { name := "potCharges", fn := fun _ => fun
  | [d1, d2, d3] => { results := [.lit (.bool true)], args := [d1, d2, d3] }
  | _ => none }
def potChargesRow : OpenClaim := { program := "ytfnhfbimokkjiaa", sum := "9be4d0fc0f9ea1c06a1548ccbab16722553211ed5040559550eac127313944ba", func := "woodgrain/woodgrainlaw20.PotCharges", spec := "potCharges", apart := false }
def PotChargesSaid : Prop := potChargesRow.holds Try.pinned (OpenSpec.ofChange potChargesSpec)

/-- ITS FALSE NEIGHBOUR: 'it returns false'. Refute it at one input. -/
def potChargesWrong : ChangeSpec := { name := "potCharges", fn := fun _ => fun
  | [d1, d2, d3] => { results := [.lit (.bool false)], args := [d1, d2, d3] }
  | _ => none }
def PotChargesWrongFalsely : Prop := potChargesRow.holds Try.pinned (OpenSpec.ofChange potChargesWrong)

/-- 'woodgrainlaw20.PotLatches': WHATEVER THE INPUT: true; the input reads as it did. -/
def potLatchesSpec : ChangeSpec := { name := "potLatches", fn := fun _ => fun
  | [d1, d2] => { results := [.lit (.bool true)], args := [d1, d2] }
  | _ => none }
def potLatchesRow : OpenClaim := { program := "ytfnhfbimokkjiaa", sum := "9be4d0fc0f9ea1c06a1548ccbab16722553211ed5040559550eac127313944ba", func := "woodgrain/woodgrainlaw20.PotLatches", spec := "potLatches", apart := false }
def PotLatchesSaid : Prop := potLatchesRow.holds Try.pinned (OpenSpec.ofChange potLatchesSpec)

/-- ITS FALSE NEIGHBOUR: 'it returns false'. Refute it at one input. -/
def potLatchesWrong : ChangeSpec := { name := "potLatches", fn := fun _ => fun
  | [d1, d2] => { results := [.lit (.bool false)], args := [d1, d2] }
  | _ => none }
def PotLatchesWrongFalsely : Prop := potLatchesRow.holds Try.pinned (OpenSpec.ofChange potLatchesWrong)

/-- 'woodgrainlaw20.PotPlays': WHATEVER THE INPUT: true; the input reads as it did. -/
def potPlaysSpec : ChangeSpec := { name := "potPlays", fn := fun _ => fun
  | [d] => { results := [.lit (.bool true)], args := [d] }
  | _ => none }
def potPlaysRow : OpenClaim := { program := "ytfnhfbimokkjiaa", sum := "9be4d0fc0f9ea1c06a1548ccbab16722553211ed5040559550eac127313944ba", func := "woodgrain/woodgrainlaw20.PotPlays", spec := "potPlays", unfollowed := true, recurses := true, apart := false }
def PotPlaysSaid : Prop := potPlaysRow.holds Try.pinned (OpenSpec.ofChange potPlaysSpec)

/-- ITS FALSE NEIGHBOUR: 'it returns false'. Refute it at one input. -/
def potPlaysWrong : ChangeSpec := { name := "potPlays", fn := fun _ => fun
  | [d] => { results := [.lit (.bool false)], args := [d] }
  | _ => none }
def PotPlaysWrongFalsely : Prop := potPlaysRow.holds Try.pinned (OpenSpec.ofChange potPlaysWrong)

/-- 'woodgrainlaw20.PotNil': WHATEVER THE INPUT: true; the input reads as it did. -/
def potNilSpec : ChangeSpec := { name := "potNil", fn := fun _ => fun
  | [d1, d2] => { results := [.lit (.bool true)], args := [d1, d2] }
  | _ => none }
def potNilRow : OpenClaim := { program := "ytfnhfbimokkjiaa", sum := "9be4d0fc0f9ea1c06a1548ccbab16722553211ed5040559550eac127313944ba", func := "woodgrain/woodgrainlaw20.PotNil", spec := "potNil", unfollowed := true, recurses := true, apart := false }
def PotNilSaid : Prop := potNilRow.holds Try.pinned (OpenSpec.ofChange potNilSpec)

/-- ITS FALSE NEIGHBOUR: 'it returns false'. Refute it at one input. -/
def potNilWrong : ChangeSpec := { name := "potNil", fn := fun _ => fun
  | [d1, d2] => { results := [.lit (.bool false)], args := [d1, d2] }
  | _ => none }
def PotNilWrongFalsely : Prop := potNilRow.holds Try.pinned (OpenSpec.ofChange potNilWrong)

/- THE SECOND FORM. 'bulk': how many values and letters a reading holds, each counted each time it is reached (what is shared counts as often as it is met; a slice's spare places count too). A statement '..UptoSaid' is the law's where the arguments, and the package variables that the reading takes, are together of bulk at most 1048576: NARROWER than '..Said'. Prove '..Said' where nothing that the law and all that it calls make is longer than what came in: it says more and counts as full. Else prove '..UptoSaid'. A law counts once. -/
mutual
def uptoBulk {H : Type} : DataW H → Nat
  | .lit (.string bytes) => bytes.length + 1
  | .lit _ => 1
  | .nil => 1
  | .ptr d => uptoBulk d + 1
  | .slice elems spare => uptoBulkAll elems + uptoBulkAll spare + 1
  | .agg parts => uptoBulkAll parts + 1
  | .iface _ d => uptoBulk d + 1
  | .map entries => uptoBulkEntries entries + 1
  | .held _ => 1
def uptoBulkAll {H : Type} : List (DataW H) → Nat
  | [] => 0
  | d :: r => uptoBulk d + uptoBulkAll r
def uptoBulkEntries {H : Type} : List (Lit × DataW H) → Nat
  | [] => 0
  | x :: r => uptoBulkEntry x + uptoBulkEntries r
def uptoBulkEntry {H : Type} : Lit × DataW H → Nat
  | (.string bytes, d) => bytes.length + uptoBulk d + 1
  | (_, d) => uptoBulk d + 1
 end
def uptoSmall : (H : Type) → List (DataW H) → Bool := fun _ ds => decide (uptoBulkAll ds ≤ 1048576)
def OpenSpec.upto (s : _root_.Go.ChangeSpec) : _root_.Go.OpenSpec := { _root_.Go.OpenSpec.ofChange s with cond := some uptoSmall }

/-- 'woodgrainlaw20.PotCharges', WHERE WHAT IT READS IS OF BULK AT MOST 1048576: true; the input reads as it did. -/
def potChargesUptoRow : OpenClaim := { program := "ytfnhfbimokkjiaa", sum := "9be4d0fc0f9ea1c06a1548ccbab16722553211ed5040559550eac127313944ba", func := "woodgrain/woodgrainlaw20.PotCharges", spec := "potCharges", apart := false, narrowed := true }
def PotChargesUptoSaid : Prop := potChargesUptoRow.holds Try.pinned (OpenSpec.upto potChargesSpec)

/-- 'woodgrainlaw20.PotLatches', WHERE WHAT IT READS IS OF BULK AT MOST 1048576: true; the input reads as it did. -/
def potLatchesUptoRow : OpenClaim := { program := "ytfnhfbimokkjiaa", sum := "9be4d0fc0f9ea1c06a1548ccbab16722553211ed5040559550eac127313944ba", func := "woodgrain/woodgrainlaw20.PotLatches", spec := "potLatches", apart := false, narrowed := true }
def PotLatchesUptoSaid : Prop := potLatchesUptoRow.holds Try.pinned (OpenSpec.upto potLatchesSpec)

/-- 'woodgrainlaw20.PotPlays', WHERE WHAT IT READS IS OF BULK AT MOST 1048576: true; the input reads as it did. -/
def potPlaysUptoRow : OpenClaim := { program := "ytfnhfbimokkjiaa", sum := "9be4d0fc0f9ea1c06a1548ccbab16722553211ed5040559550eac127313944ba", func := "woodgrain/woodgrainlaw20.PotPlays", spec := "potPlays", unfollowed := true, recurses := true, apart := false, narrowed := true }
def PotPlaysUptoSaid : Prop := potPlaysUptoRow.holds Try.pinned (OpenSpec.upto potPlaysSpec)

/-- 'woodgrainlaw20.PotNil', WHERE WHAT IT READS IS OF BULK AT MOST 1048576: true; the input reads as it did. -/
def potNilUptoRow : OpenClaim := { program := "ytfnhfbimokkjiaa", sum := "9be4d0fc0f9ea1c06a1548ccbab16722553211ed5040559550eac127313944ba", func := "woodgrain/woodgrainlaw20.PotNil", spec := "potNil", unfollowed := true, recurses := true, apart := false, narrowed := true }
def PotNilUptoSaid : Prop := potNilUptoRow.holds Try.pinned (OpenSpec.upto potNilSpec)

end Rows
end Go.Proofs.Ytfnhfbimokkjiaa
