/-
  Walks through the functions of the program, by contract.
-/
import Derived.Test.YtimihamgemboeaaMrefF
set_option linter.all false
set_option linter.unusedVariables false
set_option linter.unusedSimpArgs false
set_option linter.unnecessarySimpa false
namespace Go.Proofs
open Go.Aw
set_option maxRecDepth 100000
set_option maxHeartbeats 4000000
theorem walk_MotionNil (c : Int) (wc : (Lit.int .i64 c).wf = true) : ACalls Try.prog 8 [.int .i64 c] [] fun v _ => v = .bool true := by
  refine ACalls.code tabOk h8 Try.func8 Try.call8 ok8 ?_
  conv => whnf
  refine ACalls.code tabOk h13 Try.func13 Try.call13 ok13 ?_
  conv => whnf
  refine ACalls.code tabOk h14 Try.func14 Try.call14 ok14 ?_
  conv => whnf
  refine ACalls.code tabOk h15 Try.func15 Try.call15 ok15 ?_
  conv => whnf
  refine ACalls.code tabOk h15 Try.func15 Try.call15 ok15 ?_
  conv => whnf
  refine ACalls.code tabOk h22 Try.func22 Try.call22 ok22 ?_
  conv => whnf
  refine ACalls.code tabOk h18 Try.func18 Try.call18 ok18 ?_
  conv => whnf
  refine ACalls.code tabOk h24 Try.func24 Try.call24 ok24 ?_
  conv => whnf
  refine ACalls.useE (awake17) [] rfl (by (conv => whnf); try rfl) (by (conv => whnf); try rfl) ?_
  conv => whnf
end Go.Proofs
