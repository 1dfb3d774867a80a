/-
  No cell of these rows narrows 'for every input' (looked for: loops, veiled, ifaces, maps, wideKeys, modest, calm, conditions, laid).
  DERIVED. THE GIVEN ROWS OF THIS SEAT. 12 by the template 'for every input the law returns true; each argument reads behind the call as it read before'; 0 by the template 'total and deterministic' (their statements: YtbngapokpmifnaaTotals.lean).
  GIVEN WITH THE SEED: the statements are not yours to turn. If you find one false, say at which input.
  Laid BY PROGRAM, IN A SANDBOX (cutbox-rows.mjs): the forced cells as the released guide's own fill.sh prints them over the translation 5f4cdc8869399866… (all of the seat's roots in one cut). By AI agents, Wed Nov 11 2026. No macro, syntax, notation, axiom, sorry.
-/
import Derived.Test.YtbngapokpmifnaaChecked
import GoSem.Claim
import GoSem.ClaimJoined
import GoSem.ClaimMapViews
import Derived.JoinedTies
import Derived.KernelRfl
namespace Go.Proofs.Ytbngapokpmifnaa
/- THE CELL 'sum', in the pinned program and in every row, IS THE sha256 OF THE DUMP (.gsa) THAT YtbngapokpmifnaaProg.lean LOADS. Nothing in Lean hashes anything: it is a label: what it is worth is what the hold of that sum in a sandbox is worth. -/
noncomputable def Try.pinned : Pinned := { name := "ytbngapokpmifnaa", sum := "5f4cdc88693998662d48551fdb7f8239ff92e2bd50f1152b71e376ef9902bdca", checked := Try.checked }
namespace Rows
def none {H : Type} : Left H := { results := [], args := [] }

/-- 'woodgrainlaw07.PortMasks': WHATEVER THE INPUT: true; the input reads as it did. -/
def portMasksSpec : ChangeSpec := { name := "portMasks", fn := fun _ => fun
  | [d] => { results := [.lit (.bool true)], args := [d] }
  | _ => none }
def portMasksRow : OpenClaim := { program := "ytbngapokpmifnaa", sum := "5f4cdc88693998662d48551fdb7f8239ff92e2bd50f1152b71e376ef9902bdca", func := "woodgrain/woodgrainlaw07.PortMasks", spec := "portMasks", apart := false }
def PortMasksSaid : Prop := portMasksRow.holds Try.pinned (OpenSpec.ofChange portMasksSpec)

/-- ITS FALSE NEIGHBOUR: 'it returns false'. Refute it at one input. -/
def portMasksWrong : ChangeSpec := { name := "portMasks", fn := fun _ => fun
  | [d] => { results := [.lit (.bool false)], args := [d] }
  | _ => none }
def PortMasksWrongFalsely : Prop := portMasksRow.holds Try.pinned (OpenSpec.ofChange portMasksWrong)

/-- 'woodgrainlaw07.PortSeldom': WHATEVER THE INPUT: true; the input reads as it did. -/
def portSeldomSpec : ChangeSpec := { name := "portSeldom", fn := fun _ => fun
  | [d1, d2, d3] => { results := [.lit (.bool true)], args := [d1, d2, d3] }
  | _ => none }
def portSeldomRow : OpenClaim := { program := "ytbngapokpmifnaa", sum := "5f4cdc88693998662d48551fdb7f8239ff92e2bd50f1152b71e376ef9902bdca", func := "woodgrain/woodgrainlaw07.PortSeldom", spec := "portSeldom", apart := false }
def PortSeldomSaid : Prop := portSeldomRow.holds Try.pinned (OpenSpec.ofChange portSeldomSpec)

/-- ITS FALSE NEIGHBOUR: 'it returns false'. Refute it at one input. -/
def portSeldomWrong : ChangeSpec := { name := "portSeldom", fn := fun _ => fun
  | [d1, d2, d3] => { results := [.lit (.bool false)], args := [d1, d2, d3] }
  | _ => none }
def PortSeldomWrongFalsely : Prop := portSeldomRow.holds Try.pinned (OpenSpec.ofChange portSeldomWrong)

/-- 'woodgrainlaw07.PortPlays': WHATEVER THE INPUT: true; the input reads as it did. -/
def portPlaysSpec : ChangeSpec := { name := "portPlays", fn := fun _ => fun
  | [d1, d2] => { results := [.lit (.bool true)], args := [d1, d2] }
  | _ => none }
def portPlaysRow : OpenClaim := { program := "ytbngapokpmifnaa", sum := "5f4cdc88693998662d48551fdb7f8239ff92e2bd50f1152b71e376ef9902bdca", func := "woodgrain/woodgrainlaw07.PortPlays", spec := "portPlays", unfollowed := true, recurses := true, apart := false }
def PortPlaysSaid : Prop := portPlaysRow.holds Try.pinned (OpenSpec.ofChange portPlaysSpec)

/-- ITS FALSE NEIGHBOUR: 'it returns false'. Refute it at one input. -/
def portPlaysWrong : ChangeSpec := { name := "portPlays", fn := fun _ => fun
  | [d1, d2] => { results := [.lit (.bool false)], args := [d1, d2] }
  | _ => none }
def PortPlaysWrongFalsely : Prop := portPlaysRow.holds Try.pinned (OpenSpec.ofChange portPlaysWrong)

/-- 'woodgrainlaw07.PortEdges': WHATEVER THE INPUT: true; the input reads as it did. -/
def portEdgesSpec : ChangeSpec := { name := "portEdges", fn := fun _ => fun
  | [d1, d2] => { results := [.lit (.bool true)], args := [d1, d2] }
  | _ => none }
def portEdgesRow : OpenClaim := { program := "ytbngapokpmifnaa", sum := "5f4cdc88693998662d48551fdb7f8239ff92e2bd50f1152b71e376ef9902bdca", func := "woodgrain/woodgrainlaw07.PortEdges", spec := "portEdges", unfollowed := true, recurses := true, apart := false }
def PortEdgesSaid : Prop := portEdgesRow.holds Try.pinned (OpenSpec.ofChange portEdgesSpec)

/-- ITS FALSE NEIGHBOUR: 'it returns false'. Refute it at one input. -/
def portEdgesWrong : ChangeSpec := { name := "portEdges", fn := fun _ => fun
  | [d1, d2] => { results := [.lit (.bool false)], args := [d1, d2] }
  | _ => none }
def PortEdgesWrongFalsely : Prop := portEdgesRow.holds Try.pinned (OpenSpec.ofChange portEdgesWrong)

/-- 'woodgrainlaw07.PortNil': WHATEVER THE INPUT: true; the input reads as it did. -/
def portNilSpec : ChangeSpec := { name := "portNil", fn := fun _ => fun
  | [d] => { results := [.lit (.bool true)], args := [d] }
  | _ => none }
def portNilRow : OpenClaim := { program := "ytbngapokpmifnaa", sum := "5f4cdc88693998662d48551fdb7f8239ff92e2bd50f1152b71e376ef9902bdca", func := "woodgrain/woodgrainlaw07.PortNil", spec := "portNil", unfollowed := true, recurses := true, apart := false }
def PortNilSaid : Prop := portNilRow.holds Try.pinned (OpenSpec.ofChange portNilSpec)

/-- ITS FALSE NEIGHBOUR: 'it returns false'. Refute it at one input. -/
def portNilWrong : ChangeSpec := { name := "portNil", fn := fun _ => fun
  | [d] => { results := [.lit (.bool false)], args := [d] }
  | _ => none }
def PortNilWrongFalsely : Prop := portNilRow.holds Try.pinned (OpenSpec.ofChange portNilWrong)

/-- 'woodgrainlaw06.TimerForm': WHATEVER THE INPUT: true; the input reads as it did. -/
def timerFormSpec : ChangeSpec := { name := "timerForm", fn := fun _ => fun
  | [d1, d2, d3] => { results := [.lit (.bool true)], args := [d1, d2, d3] }
  | _ => none }
def timerFormRow : OpenClaim := { program := "ytbngapokpmifnaa", sum := "5f4cdc88693998662d48551fdb7f8239ff92e2bd50f1152b71e376ef9902bdca", func := "woodgrain/woodgrainlaw06.TimerForm", spec := "timerForm", apart := false }
def TimerFormSaid : Prop := timerFormRow.holds Try.pinned (OpenSpec.ofChange timerFormSpec)

/-- ITS FALSE NEIGHBOUR: 'it returns false'. Refute it at one input. -/
def timerFormWrong : ChangeSpec := { name := "timerForm", fn := fun _ => fun
  | [d1, d2, d3] => { results := [.lit (.bool false)], args := [d1, d2, d3] }
  | _ => none }
def TimerFormWrongFalsely : Prop := timerFormRow.holds Try.pinned (OpenSpec.ofChange timerFormWrong)

/-- 'woodgrainlaw06.TimerWords': WHATEVER THE INPUT: true; the input reads as it did. -/
def timerWordsSpec : ChangeSpec := { name := "timerWords", fn := fun _ => fun
  | [d1, d2] => { results := [.lit (.bool true)], args := [d1, d2] }
  | _ => none }
def timerWordsRow : OpenClaim := { program := "ytbngapokpmifnaa", sum := "5f4cdc88693998662d48551fdb7f8239ff92e2bd50f1152b71e376ef9902bdca", func := "woodgrain/woodgrainlaw06.TimerWords", spec := "timerWords", apart := false }
def TimerWordsSaid : Prop := timerWordsRow.holds Try.pinned (OpenSpec.ofChange timerWordsSpec)

/-- ITS FALSE NEIGHBOUR: 'it returns false'. Refute it at one input. -/
def timerWordsWrong : ChangeSpec := { name := "timerWords", fn := fun _ => fun
  | [d1, d2] => { results := [.lit (.bool false)], args := [d1, d2] }
  | _ => none }
def TimerWordsWrongFalsely : Prop := timerWordsRow.holds Try.pinned (OpenSpec.ofChange timerWordsWrong)

/-- 'woodgrainlaw06.TimerNil': WHATEVER THE INPUT: true; the input reads as it did. -/
def timerNilSpec : ChangeSpec := { name := "timerNil", fn := fun _ => fun
  | [d1, d2] => { results := [.lit (.bool true)], args := [d1, d2] }
  | _ => none }
def timerNilRow : OpenClaim := { program := "ytbngapokpmifnaa", sum := "5f4cdc88693998662d48551fdb7f8239ff92e2bd50f1152b71e376ef9902bdca", func := "woodgrain/woodgrainlaw06.TimerNil", spec := "timerNil", apart := false }
def TimerNilSaid : Prop := timerNilRow.holds Try.pinned (OpenSpec.ofChange timerNilSpec)

/-- ITS FALSE NEIGHBOUR: 'it returns false'. Refute it at one input. -/
def timerNilWrong : ChangeSpec := { name := "timerNil", fn := fun _ => fun
  | [d1, d2] => { results := [.lit (.bool false)], args := [d1, d2] }
  | _ => none }
def TimerNilWrongFalsely : Prop := timerNilRow.holds Try.pinned (OpenSpec.ofChange timerNilWrong)

/-- 'woodgrainlaw08.RiotMirrors': WHATEVER THE INPUT: true; the input reads as it did. -/
def riotMirrorsSpec : ChangeSpec := { name := "riotMirrors", fn := fun _ => fun
  | [d1, d2] => { results := [.lit (.bool true)], args := [d1, d2] }
  | _ => none }
def riotMirrorsRow : OpenClaim := { program := "ytbngapokpmifnaa", sum := "5f4cdc88693998662d48551fdb7f8239ff92e2bd50f1152b71e376ef9902bdca", func := "woodgrain/woodgrainlaw08.RiotMirrors", spec := "riotMirrors", apart := false }
def RiotMirrorsSaid : Prop := riotMirrorsRow.holds Try.pinned (OpenSpec.ofChange riotMirrorsSpec)

/-- ITS FALSE NEIGHBOUR: 'it returns false'. Refute it at one input. -/
def riotMirrorsWrong : ChangeSpec := { name := "riotMirrors", fn := fun _ => fun
  | [d1, d2] => { results := [.lit (.bool false)], args := [d1, d2] }
  | _ => none }
def RiotMirrorsWrongFalsely : Prop := riotMirrorsRow.holds Try.pinned (OpenSpec.ofChange riotMirrorsWrong)

/-- 'woodgrainlaw08.RiotPlays': WHATEVER THE INPUT: true; the input reads as it did. -/
def riotPlaysSpec : ChangeSpec := { name := "riotPlays", fn := fun _ => fun
  | [d1, d2] => { results := [.lit (.bool true)], args := [d1, d2] }
  | _ => none }
def riotPlaysRow : OpenClaim := { program := "ytbngapokpmifnaa", sum := "5f4cdc88693998662d48551fdb7f8239ff92e2bd50f1152b71e376ef9902bdca", func := "woodgrain/woodgrainlaw08.RiotPlays", spec := "riotPlays", apart := false }
def RiotPlaysSaid : Prop := riotPlaysRow.holds Try.pinned (OpenSpec.ofChange riotPlaysSpec)

/-- ITS FALSE NEIGHBOUR: 'it returns false'. Refute it at one input. -/
def riotPlaysWrong : ChangeSpec := { name := "riotPlays", fn := fun _ => fun
  | [d1, d2] => { results := [.lit (.bool false)], args := [d1, d2] }
  | _ => none }
def RiotPlaysWrongFalsely : Prop := riotPlaysRow.holds Try.pinned (OpenSpec.ofChange riotPlaysWrong)

/-- 'woodgrainlaw08.RiotCopies': WHATEVER THE INPUT: true; the input reads as it did. -/
def riotCopiesSpec : ChangeSpec := { name := "riotCopies", fn := fun _ => fun
  | [d1, d2] => { results := [.lit (.bool true)], args := [d1, d2] }
  | _ => none }
def riotCopiesRow : OpenClaim := { program := "ytbngapokpmifnaa", sum := "5f4cdc88693998662d48551fdb7f8239ff92e2bd50f1152b71e376ef9902bdca", func := "woodgrain/woodgrainlaw08.RiotCopies", spec := "riotCopies", unfollowed := true, recurses := true, apart := false }
def RiotCopiesSaid : Prop := riotCopiesRow.holds Try.pinned (OpenSpec.ofChange riotCopiesSpec)

/-- ITS FALSE NEIGHBOUR: 'it returns false'. Refute it at one input. -/
def riotCopiesWrong : ChangeSpec := { name := "riotCopies", fn := fun _ => fun
  | [d1, d2] => { results := [.lit (.bool false)], args := [d1, d2] }
  | _ => none }
def RiotCopiesWrongFalsely : Prop := riotCopiesRow.holds Try.pinned (OpenSpec.ofChange riotCopiesWrong)

/-- 'woodgrainlaw08.RiotNil': WHATEVER THE INPUT: true; the input reads as it did. -/
def riotNilSpec : ChangeSpec := { name := "riotNil", fn := fun _ => fun
  | [d] => { results := [.lit (.bool true)], args := [d] }
  | _ => none }
def riotNilRow : OpenClaim := { program := "ytbngapokpmifnaa", sum := "5f4cdc88693998662d48551fdb7f8239ff92e2bd50f1152b71e376ef9902bdca", func := "woodgrain/woodgrainlaw08.RiotNil", spec := "riotNil", unfollowed := true, recurses := true, apart := false }
def RiotNilSaid : Prop := riotNilRow.holds Try.pinned (OpenSpec.ofChange riotNilSpec)

/-- ITS FALSE NEIGHBOUR: 'it returns false'. Refute it at one input. -/
def riotNilWrong : ChangeSpec := { name := "riotNil", fn := fun _ => fun
  | [d] => { results := [.lit (.bool false)], args := [d] }
  | _ => none }
def RiotNilWrongFalsely : Prop := riotNilRow.holds Try.pinned (OpenSpec.ofChange riotNilWrong)

/- THE SECOND FORM. 'bulk': how many values and letters a reading holds, each counted each time it is reached (what is shared counts as often as it is met; a slice's spare places count too). A statement '..UptoSaid' is the law's where the arguments, and the package variables that the reading takes, are together of bulk at most 1048576: NARROWER than '..Said'. Prove '..Said' where nothing that the law and all that it calls make is longer than what came in: it says more and counts as full. Else prove '..UptoSaid'. A law counts once. -/
mutual
def uptoBulk {H : Type} : DataW H → Nat
  | .lit (.string bytes) => bytes.length + 1
  | .lit _ => 1
  | .nil => 1
  | .ptr d => uptoBulk d + 1
  | .slice elems spare => uptoBulkAll elems + uptoBulkAll spare + 1
  | .agg parts => uptoBulkAll parts + 1
  | .iface _ d => uptoBulk d + 1
  | .map entries => uptoBulkEntries entries + 1
  | .held _ => 1
def uptoBulkAll {H : Type} : List (DataW H) → Nat
  | [] => 0
  | d :: r => uptoBulk d + uptoBulkAll r
def uptoBulkEntries {H : Type} : List (Lit × DataW H) → Nat
  | [] => 0
  | x :: r => uptoBulkEntry x + uptoBulkEntries r
def uptoBulkEntry {H : Type} : Lit × DataW H → Nat
  | (.string bytes, d) => bytes.length + uptoBulk d + 1
  | (_, d) => uptoBulk d + 1
 end
def uptoSmall : (H : Type) → List (DataW H) → Bool := fun _ ds => decide (uptoBulkAll ds ≤ 1048576)
def OpenSpec.upto (s : _root_.Go.ChangeSpec) : _root_.Go.OpenSpec := { _root_.Go.OpenSpec.ofChange s with cond := some uptoSmall }

/-- 'woodgrainlaw07.PortMasks', WHERE WHAT IT READS IS OF BULK AT MOST 1048576: true; the input reads as it did. -/
def portMasksUptoRow : OpenClaim := { program := "ytbngapokpmifnaa", sum := "5f4cdc88693998662d48551fdb7f8239ff92e2bd50f1152b71e376ef9902bdca", func := "woodgrain/woodgrainlaw07.PortMasks", spec := "portMasks", apart := false, narrowed := true }
def PortMasksUptoSaid : Prop := portMasksUptoRow.holds Try.pinned (OpenSpec.upto portMasksSpec)

/-- 'woodgrainlaw07.PortSeldom', WHERE WHAT IT READS IS OF BULK AT MOST 1048576: true; the input reads as it did. -/
def portSeldomUptoRow : OpenClaim := { program := "ytbngapokpmifnaa", sum := "5f4cdc88693998662d48551fdb7f8239ff92e2bd50f1152b71e376ef9902bdca", func := "woodgrain/woodgrainlaw07.PortSeldom", spec := "portSeldom", apart := false, narrowed := true }
def PortSeldomUptoSaid : Prop := portSeldomUptoRow.holds Try.pinned (OpenSpec.upto portSeldomSpec)

/-- 'woodgrainlaw07.PortPlays', WHERE WHAT IT READS IS OF BULK AT MOST 1048576: true; the input reads as it did. -/
def portPlaysUptoRow : OpenClaim := { program := "ytbngapokpmifnaa", sum := "5f4cdc88693998662d48551fdb7f8239ff92e2bd50f1152b71e376ef9902bdca", func := "woodgrain/woodgrainlaw07.PortPlays", spec := "portPlays", unfollowed := true, recurses := true, apart := false, narrowed := true }
def PortPlaysUptoSaid : Prop := portPlaysUptoRow.holds Try.pinned (OpenSpec.upto portPlaysSpec)

/-- 'woodgrainlaw07.PortEdges', WHERE WHAT IT READS IS OF BULK AT MOST 1048576: true; the input reads as it did. -/
def portEdgesUptoRow : OpenClaim := { program := "ytbngapokpmifnaa", sum := "5f4cdc88693998662d48551fdb7f8239ff92e2bd50f1152b71e376ef9902bdca", func := "woodgrain/woodgrainlaw07.PortEdges", spec := "portEdges", unfollowed := true, recurses := true, apart := false, narrowed := true }
def PortEdgesUptoSaid : Prop := portEdgesUptoRow.holds Try.pinned (OpenSpec.upto portEdgesSpec)

/-- 'woodgrainlaw07.PortNil', WHERE WHAT IT READS IS OF BULK AT MOST 1048576: true; the input reads as it did. -/
def portNilUptoRow : OpenClaim := { program := "ytbngapokpmifnaa", sum := "5f4cdc88693998662d48551fdb7f8239ff92e2bd50f1152b71e376ef9902bdca", func := "woodgrain/woodgrainlaw07.PortNil", spec := "portNil", unfollowed := true, recurses := true, apart := false, narrowed := true }
def PortNilUptoSaid : Prop := portNilUptoRow.holds Try.pinned (OpenSpec.upto portNilSpec)

/-- 'woodgrainlaw06.TimerForm', WHERE WHAT IT READS IS OF BULK AT MOST 1048576: true; the input reads as it did. -/
def timerFormUptoRow : OpenClaim := { program := "ytbngapokpmifnaa", sum := "5f4cdc88693998662d48551fdb7f8239ff92e2bd50f1152b71e376ef9902bdca", func := "woodgrain/woodgrainlaw06.TimerForm", spec := "timerForm", apart := false, narrowed := true }
def TimerFormUptoSaid : Prop := timerFormUptoRow.holds Try.pinned (OpenSpec.upto timerFormSpec)

/-- 'woodgrainlaw06.TimerWords', WHERE WHAT IT READS IS OF BULK AT MOST 1048576: true; the input reads as it did. -/
def timerWordsUptoRow : OpenClaim := { program := "ytbngapokpmifnaa", sum := "5f4cdc88693998662d48551fdb7f8239ff92e2bd50f1152b71e376ef9902bdca", func := "woodgrain/woodgrainlaw06.TimerWords", spec := "timerWords", apart := false, narrowed := true }
def TimerWordsUptoSaid : Prop := timerWordsUptoRow.holds Try.pinned (OpenSpec.upto timerWordsSpec)

/-- 'woodgrainlaw06.TimerNil', WHERE WHAT IT READS IS OF BULK AT MOST 1048576: true; the input reads as it did. -/
def timerNilUptoRow : OpenClaim := { program := "ytbngapokpmifnaa", sum := "5f4cdc88693998662d48551fdb7f8239ff92e2bd50f1152b71e376ef9902bdca", func := "woodgrain/woodgrainlaw06.TimerNil", spec := "timerNil", apart := false, narrowed := true }
def TimerNilUptoSaid : Prop := timerNilUptoRow.holds Try.pinned (OpenSpec.upto timerNilSpec)

/-- 'woodgrainlaw08.RiotMirrors', WHERE WHAT IT READS IS OF BULK AT MOST 1048576: true; the input reads as it did. -/
def riotMirrorsUptoRow : OpenClaim := { program := "ytbngapokpmifnaa", sum := "5f4cdc88693998662d48551fdb7f8239ff92e2bd50f1152b71e376ef9902bdca", func := "woodgrain/woodgrainlaw08.RiotMirrors", spec := "riotMirrors", apart := false, narrowed := true }
def RiotMirrorsUptoSaid : Prop := riotMirrorsUptoRow.holds Try.pinned (OpenSpec.upto riotMirrorsSpec)

/-- 'woodgrainlaw08.RiotPlays', WHERE WHAT IT READS IS OF BULK AT MOST 1048576: true; the input reads as it did. -/
def riotPlaysUptoRow : OpenClaim := { program := "ytbngapokpmifnaa", sum := "5f4cdc88693998662d48551fdb7f8239ff92e2bd50f1152b71e376ef9902bdca", func := "woodgrain/woodgrainlaw08.RiotPlays", spec := "riotPlays", apart := false, narrowed := true }
def RiotPlaysUptoSaid : Prop := riotPlaysUptoRow.holds Try.pinned (OpenSpec.upto riotPlaysSpec)

/-- 'woodgrainlaw08.RiotCopies', WHERE WHAT IT READS IS OF BULK AT MOST 1048576: true; the input reads as it did. -/
def riotCopiesUptoRow : OpenClaim := { program := "ytbngapokpmifnaa", sum := "5f4cdc88693998662d48551fdb7f8239ff92e2bd50f1152b71e376ef9902bdca", func := "woodgrain/woodgrainlaw08.RiotCopies", spec := "riotCopies", unfollowed := true, recurses := true, apart := false, narrowed := true }
def RiotCopiesUptoSaid : Prop := riotCopiesUptoRow.holds Try.pinned (OpenSpec.upto riotCopiesSpec)

/-- 'woodgrainlaw08.RiotNil', WHERE WHAT IT READS IS OF BULK AT MOST 1048576: true; the input reads as it did. -/
def riotNilUptoRow : OpenClaim := { program := "ytbngapokpmifnaa", sum := "5f4cdc88693998662d48551fdb7f8239ff92e2bd50f1152b71e376ef9902bdca", func := "woodgrain/woodgrainlaw08.RiotNil", spec := "riotNil", unfollowed := true, recurses := true, apart := false, narrowed := true }
def RiotNilUptoSaid : Prop := riotNilUptoRow.holds Try.pinned (OpenSpec.upto riotNilSpec)

end Rows
end Go.Proofs.Ytbngapokpmifnaa
