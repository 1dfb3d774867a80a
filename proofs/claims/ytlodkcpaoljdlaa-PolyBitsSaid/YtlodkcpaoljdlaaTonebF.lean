/-
  Walks through the functions of the program, by contract.
-/
import Derived.Test.YtlodkcpaoljdlaaToneaF
set_option linter.all false
set_option linter.unusedVariables false
set_option linter.unusedSimpArgs false
set_option linter.unnecessarySimpa false
namespace Go.Proofs
open Go.Aw
set_option maxRecDepth 100000
set_option maxHeartbeats 4000000
theorem awake19 : ACalls Try.prog 39 [] [] fun v H => v = .bool true ∧ H = [] := by
  refine ACalls.code tabOk h39 Try.func39 Try.call39 ok39 ?_
  conv => whnf
  refine ACalls.useE (tone_new) [] rfl (by (conv => whnf); try rfl) (by (conv => whnf); try rfl) ?_
  conv => whnf
  refine ACalls.code tabOk h33 Try.func33 Try.call33 ok33 ?_
  conv => whnf
  refine ACalls.code tabOk h55 Try.func55 Try.call55 ok55 ?_
  conv => whnf
  refine ACalls.code tabOk h56 Try.func56 Try.call56 ok56 ?_
  conv => whnf
  refine ACalls.code tabOk h35 Try.func35 Try.call35 ok35 ?_
  conv => whnf
  refine ACalls.code tabOk h55 Try.func55 Try.call55 ok55 ?_
  conv => whnf
  refine ACalls.code tabOk h58 Try.func58 Try.call58 ok58 ?_
  conv => whnf
  refine ACalls.code tabOk h45 Try.func45 Try.call45 ok45 ?_
  conv => whnf
  refine ACalls.code tabOk h62 Try.func62 Try.call62 ok62 ?_
  conv => whnf
  refine ⟨rfl, ?_⟩
  conv => whnf
  refine ACalls.code tabOk h63 Try.func63 Try.call63 ok63 ?_
  conv => whnf
  refine ACalls.code tabOk h68 Try.func68 Try.call68 ok68 ?_
  conv => whnf
  refine ACalls.code tabOk h16 Try.func16 Try.call16 ok16 ?_
  conv => whnf
  refine ACalls.code tabOk h47 Try.func47 Try.call47 ok47 ?_
  conv => whnf
  refine ACalls.code tabOk h38 Try.func38 Try.call38 ok38 ?_
  conv => whnf
  refine ACalls.code tabOk h45 Try.func45 Try.call45 ok45 ?_
  conv => whnf
  refine ACalls.code tabOk h62 Try.func62 Try.call62 ok62 ?_
  conv => whnf
  refine ⟨rfl, ?_⟩
  conv => whnf
  refine ACalls.code tabOk h63 Try.func63 Try.call63 ok63 ?_
  conv => whnf
  refine ACalls.code tabOk h68 Try.func68 Try.call68 ok68 ?_
  conv => whnf
  refine ACalls.code tabOk h16 Try.func16 Try.call16 ok16 ?_
  conv => whnf
  refine ACalls.code tabOk h47 Try.func47 Try.call47 ok47 ?_
  conv => whnf
  refine ACalls.code tabOk h38 Try.func38 Try.call38 ok38 ?_
  conv => whnf
  exact ⟨rfl, rfl⟩
theorem walk_ToneNil (n : Int) (wn : (Lit.int .u8 n).wf = true) : ACalls Try.prog 13 [.int .u8 n] [] fun v _ => v = .bool true := by
  refine ACalls.code tabOk h13 Try.func13 Try.call13 ok13 ?_
  conv => whnf
  refine ACalls.code tabOk h33 Try.func33 Try.call33 ok33 ?_
  conv => whnf
  refine ACalls.code tabOk h55 Try.func55 Try.call55 ok55 ?_
  conv => whnf
  refine ACalls.code tabOk h34 Try.func34 Try.call34 ok34 ?_
  conv => whnf
  refine ACalls.code tabOk h55 Try.func55 Try.call55 ok55 ?_
  conv => whnf
  refine ACalls.code tabOk h35 Try.func35 Try.call35 ok35 ?_
  conv => whnf
  refine ACalls.code tabOk h55 Try.func55 Try.call55 ok55 ?_
  conv => whnf
  refine ACalls.code tabOk h45 Try.func45 Try.call45 ok45 ?_
  conv => whnf
  refine ACalls.code tabOk h38 Try.func38 Try.call38 ok38 ?_
  conv => whnf
  refine ACalls.code tabOk h37 Try.func37 Try.call37 ok37 ?_
  conv => whnf
  refine ACalls.code tabOk h40 Try.func40 Try.call40 ok40 ?_
  conv => whnf
  refine ACalls.code tabOk h44 Try.func44 Try.call44 ok44 ?_
  conv => whnf
  refine ACalls.useE (awake19) [] rfl (by (conv => whnf); try rfl) (by (conv => whnf); try rfl) ?_
  conv => whnf
end Go.Proofs
