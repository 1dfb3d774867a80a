/-
  Walks through the functions of the program, by contract.
-/
import Derived.Test.YtfnhfbimokkjiaaPot1F
set_option linter.all false
set_option linter.unusedVariables false
set_option linter.unusedSimpArgs false
set_option linter.unnecessarySimpa false
namespace Go.Proofs
open Go.Aw
set_option maxRecDepth 100000
set_option maxHeartbeats 4000000
theorem walk_PotNil (n v : Int) (wn : (Lit.int .i64 n).wf = true) (wv : (Lit.int .u8 v).wf = true) : ACalls Try.prog 6 [.int .i64 n, .int .u8 v] [] fun v _ => v = .bool true := by
  refine ACalls.code tabOk h6 Try.func6 Try.call6 ok6 ?_
  conv => whnf
  refine ACalls.code tabOk h8 Try.func8 Try.call8 ok8 ?_
  conv => whnf
  refine ACalls.code tabOk h10 Try.func10 Try.call10 ok10 ?_
  conv => whnf
  refine ACalls.code tabOk h9 Try.func9 Try.call9 ok9 ?_
  conv => whnf
  refine ACalls.code tabOk h13 Try.func13 Try.call13 ok13 ?_
  conv => whnf
  refine ACalls.code tabOk h11 Try.func11 Try.call11 ok11 ?_
  conv => whnf
  refine ACalls.code tabOk h23 Try.func23 Try.call23 ok23 ?_
  conv => whnf
  refine ACalls.code tabOk h19 Try.func19 Try.call19 ok19 ?_
  conv => whnf
  refine ACalls.code tabOk h25 Try.func25 Try.call25 ok25 ?_
  conv => whnf
  refine ACalls.useE (awake20) [] rfl (by (conv => whnf); try rfl) (by (conv => whnf); try rfl) ?_
  conv => whnf
end Go.Proofs
