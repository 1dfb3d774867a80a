/-
  Walks through the functions of the program, by contract.
-/
import Derived.Test.YtbngapokpmifnaaTimeraF
set_option linter.all false
set_option linter.unusedVariables false
set_option linter.unusedSimpArgs false
set_option linter.unnecessarySimpa false
set_option linter.all false
set_option linter.unusedVariables false
set_option linter.unusedSimpArgs false
set_option linter.unnecessarySimpa false
namespace Go.Proofs
open Go.Aw
set_option maxRecDepth 100000
set_option maxHeartbeats 4000000
theorem awake06 : ACalls Try.prog 41 [] [] fun v H => v = .bool true ∧ H = [] := by
  refine ACalls.code tabOk h41 Try.func41 Try.call41 ok41 ?_
  conv => whnf
  refine ACalls.useE (timer_new) [] rfl (by (conv => whnf); try rfl) (by (conv => whnf); try rfl) ?_
  conv => whnf
  refine ACalls.code tabOk h37 Try.func37 Try.call37 ok37 ?_
  conv => whnf
  refine ACalls.code tabOk h68 Try.func68 Try.call68 ok68 ?_
  conv => whnf
  refine ACalls.useE (timer_ticked _ _ _ _ _ _ ?_) [0] rfl (by (conv => whnf); try rfl) (by (conv => whnf); try rfl) ?_
  · decide
  conv => whnf
  refine ACalls.code tabOk h39 Try.func39 Try.call39 ok39 ?_
  conv => whnf
  refine ACalls.useE (timer_ticked _ _ _ _ _ _ ?_) [0] rfl (by (conv => whnf); try rfl) (by (conv => whnf); try rfl) ?_
  · decide
  conv => whnf
  refine ACalls.code tabOk h39 Try.func39 Try.call39 ok39 ?_
  conv => whnf
  refine ACalls.code tabOk h40 Try.func40 Try.call40 ok40 ?_
  conv => whnf
  refine ACalls.code tabOk h43 Try.func43 Try.call43 ok43 ?_
  conv => whnf
  refine ACalls.useE (timer_ticked _ _ _ _ _ _ ?_) [0] rfl (by (conv => whnf); try rfl) (by (conv => whnf); try rfl) ?_
  · decide
  conv => whnf
  refine ACalls.code tabOk h39 Try.func39 Try.call39 ok39 ?_
  conv => whnf
  refine ACalls.code tabOk h40 Try.func40 Try.call40 ok40 ?_
  conv => whnf
  exact ⟨rfl, rfl⟩
theorem walk_TimerNil (v n : Int) (wv : (Lit.int .u8 v).wf = true) (wn : (Lit.int .i64 n).wf = true) : ACalls Try.prog 10 [.int .u8 v, .int .i64 n] [] fun v _ => v = .bool true := by
  refine ACalls.code tabOk h10 Try.func10 Try.call10 ok10 ?_
  conv => whnf
  refine ACalls.code tabOk h47 Try.func47 Try.call47 ok47 ?_
  conv => whnf
  refine ACalls.code tabOk h37 Try.func37 Try.call37 ok37 ?_
  conv => whnf
  refine ACalls.code tabOk h43 Try.func43 Try.call43 ok43 ?_
  conv => whnf
  refine ACalls.code tabOk h39 Try.func39 Try.call39 ok39 ?_
  conv => whnf
  refine ACalls.code tabOk h40 Try.func40 Try.call40 ok40 ?_
  conv => whnf
  refine ACalls.code tabOk h42 Try.func42 Try.call42 ok42 ?_
  conv => whnf
  refine ACalls.code tabOk h45 Try.func45 Try.call45 ok45 ?_
  conv => whnf
  refine ACalls.code tabOk h44 Try.func44 Try.call44 ok44 ?_
  conv => whnf
  refine ACalls.code tabOk h46 Try.func46 Try.call46 ok46 ?_
  conv => whnf
  refine ACalls.useE (awake06) [] rfl (by (conv => whnf); try rfl) (by (conv => whnf); try rfl) ?_
  conv => whnf
end Go.Proofs
