/-
  Walks through the functions of the program, by contract.
-/
import Derived.Test.YtbngapokpmifnaaBaseA
import Derived.Test.YtbngapokpmifnaaCore20
set_option linter.all false
set_option linter.unusedVariables false
set_option linter.unusedSimpArgs false
set_option linter.unnecessarySimpa false
set_option linter.all false
set_option linter.unusedVariables false
set_option linter.unusedSimpArgs false
set_option linter.unnecessarySimpa false
namespace Go.Proofs
open Go.Aw
set_option maxRecDepth 100000
set_option maxHeartbeats 4000000
theorem awake07 : ACalls Try.prog 19 [] [] fun v H => v = .bool true ∧ H = [] := by
  refine ACalls.code tabOk h19 Try.func19 Try.call19 ok19 ?_
  conv => whnf
  refine ACalls.codeN tabOk h15 Try.func15 Try.call15 ok15 [0] ?_
  conv => whnf
  refine ACalls.code tabOk h16 Try.func16 Try.call16 ok16 ?_
  conv => whnf
  refine ACalls.code tabOk h17 Try.func17 Try.call17 ok17 ?_
  conv => whnf
  refine ACalls.codeN tabOk h20 Try.func20 Try.call20 ok20 [0, 1] ?_
  conv => whnf
  refine ACalls.code tabOk h22 Try.func22 Try.call22 ok22 ?_
  conv => whnf
  refine ACalls.code tabOk h18 Try.func18 Try.call18 ok18 ?_
  conv => whnf
  refine ACalls.code tabOk h24 Try.func24 Try.call24 ok24 ?_
  conv => whnf
  refine ACalls.code tabOk h23 Try.func23 Try.call23 ok23 ?_
  conv => whnf
  refine ACalls.code tabOk h24 Try.func24 Try.call24 ok24 ?_
  conv => whnf
  refine ACalls.code tabOk h23 Try.func23 Try.call23 ok23 ?_
  conv => whnf
  exact ⟨rfl, rfl⟩
theorem walk_PortNil (v : Int) (wv : (Lit.int .u8 v).wf = true) : ACalls Try.prog 7 [.int .u8 v] [] fun v _ => v = .bool true := by
  refine ACalls.code tabOk h7 Try.func7 Try.call7 ok7 ?_
  conv => whnf
  refine ACalls.code tabOk h25 Try.func25 Try.call25 ok25 ?_
  conv => whnf
  refine ACalls.code tabOk h16 Try.func16 Try.call16 ok16 ?_
  conv => whnf
  refine ACalls.code tabOk h17 Try.func17 Try.call17 ok17 ?_
  conv => whnf
  refine ACalls.code tabOk h21 Try.func21 Try.call21 ok21 ?_
  conv => whnf
  refine ACalls.code tabOk h22 Try.func22 Try.call22 ok22 ?_
  conv => whnf
  refine ACalls.code tabOk h18 Try.func18 Try.call18 ok18 ?_
  conv => whnf
  refine ACalls.code tabOk h29 Try.func29 Try.call29 ok29 ?_
  conv => whnf
  refine ACalls.code tabOk h30 Try.func30 Try.call30 ok30 ?_
  conv => whnf
  refine ACalls.code tabOk h26 Try.func26 Try.call26 ok26 ?_
  conv => whnf
  refine ACalls.code tabOk h23 Try.func23 Try.call23 ok23 ?_
  conv => whnf
  refine ACalls.code tabOk h24 Try.func24 Try.call24 ok24 ?_
  conv => whnf
  refine ACalls.code tabOk h23 Try.func23 Try.call23 ok23 ?_
  conv => whnf
  refine ACalls.code tabOk h34 Try.func34 Try.call34 ok34 ?_
  conv => whnf
  refine ACalls.code tabOk h31 Try.func31 Try.call31 ok31 ?_
  conv => whnf
  refine ACalls.useE (awake07) [] rfl (by (conv => whnf); try rfl) (by (conv => whnf); try rfl) ?_
  conv => whnf
end Go.Proofs
