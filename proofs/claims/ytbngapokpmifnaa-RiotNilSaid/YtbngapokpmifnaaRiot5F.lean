/-
  Walks through the functions of the program, by contract.
-/
import Derived.Test.YtbngapokpmifnaaRiot4F
set_option linter.all false
set_option linter.unusedVariables false
set_option linter.unusedSimpArgs false
set_option linter.unnecessarySimpa false
namespace Go.Proofs
open Go.Aw
set_option maxRecDepth 100000
set_option maxHeartbeats 8000000
theorem eqRow_rep : eqRow (List.replicate 128 (.int .u8 0)) (List.replicate 128 (.int .u8 0)) = true := by unfold eqRow; decide +kernel
theorem riot_set_nil (m : List Value) (a b : Nat) (hm : m.all (bdv 6 1) = true) : ACalls Try.prog 63 [.pointer none, .slice (some ⟨0, 0, none⟩) a b] [.cells m 3] fun v H => v = .int .i64 1 ∧ H = [.cells m 3] := by
  refine ACalls.code tabOk h63 Try.func63 Try.call63 ok63 ?_
  conv => whnf
  refine Req.of hm ?_
  conv => whnf
  exact ⟨rfl, rfl⟩
theorem riot_copy_nil : ACalls Try.prog 58 [.pointer none] [] fun v H => v = .pointer none ∧ H = [] := by
  refine ACalls.code tabOk h58 Try.func58 Try.call58 ok58 ?_
  conv => whnf
  exact ⟨rfl, rfl⟩
theorem riot_words_nil : ACalls Try.prog 51 [.pointer none] [] fun v H => v = .slice none 0 0 ∧ H = [] := by
  refine ACalls.code tabOk h51 Try.func51 Try.call51 ok51 ?_
  conv => whnf
  exact ⟨rfl, rfl⟩
theorem riot_timer_nil : ACalls Try.prog 57 [.pointer none] [] fun v H => v = .int .u8 0 ∧ H = [] := by
  refine ACalls.code tabOk h57 Try.func57 Try.call57 ok57 ?_
  conv => whnf
  exact ⟨rfl, rfl⟩
theorem walk_RiotNil (k cy ad v u : Int) (w0 : (Lit.int .i64 k).wf = true) (w1 : (Lit.int .u16 cy).wf = true) (w2 : (Lit.int .u16 ad).wf = true) (w3 : (Lit.int .u8 v).wf = true) (w4 : (Lit.int .u8 u).wf = true) : ACalls Try.prog 14 [.agg #[.int .i64 k, .int .u16 cy, .int .u16 ad, .int .u8 v, .int .u8 u]] [] fun r _ => r = .bool true := by
  refine ACalls.code tabOk h14 Try.func14 Try.call14 ok14 ?_
  conv => whnf
  refine ACalls.code tabOk h59 Try.func59 Try.call59 ok59 ?_
  conv => whnf
  refine ACalls.code tabOk h60 Try.func60 Try.call60 ok60 ?_
  conv => whnf
  refine ACalls.code tabOk h61 Try.func61 Try.call61 ok61 ?_
  conv => whnf
  refine ACalls.code tabOk h62 Try.func62 Try.call62 ok62 ?_
  conv => whnf
  refine ACalls.code tabOk h55 Try.func55 Try.call55 ok55 ?_
  conv => whnf
  refine Bif.knT ?_ fun h0 => ?_
  · exact eqRow_rep
  rw [h0]
  conv => whnf
  refine ACalls.useE (riot_timer_nil) [] rfl (by (conv => whnf); first | done | rfl | (refine renL_flat (by rw [← hm, repl_row (f := fun _ => 0)]; exact rowI_flatV) ?_; (conv => whnf); first | done | rfl)) (by (conv => whnf); try rfl) ?_
  conv => whnf
  refine ACalls.useE (riot_words_nil) [] rfl (by (conv => whnf); first | done | rfl | (refine renL_flat (by rw [← hm, repl_row (f := fun _ => 0)]; exact rowI_flatV) ?_; (conv => whnf); first | done | rfl)) (by (conv => whnf); try rfl) ?_
  conv => whnf
  generalize hm : repl _ _ = m
  refine ACalls.useE (riot_set_nil m _ _ ?_) [1] rfl (by (conv => whnf); first | done | rfl | (refine renL_flat (by rw [← hm, repl_row (f := fun _ => 0)]; exact rowI_flatV) ?_; (conv => whnf); first | done | rfl)) (by (conv => whnf); try rfl) ?_
  · (rw [← hm, repl_row (f := fun _ => 0)]; exact row_all fun _ => rfl)
  conv => whnf
  refine renL_flat (by rw [← hm, repl_row (f := fun _ => 0)]; exact rowI_flatV) ?_
  conv => whnf
  refine ACalls.useE (riot_copy_nil) [] rfl (by (conv => whnf); first | done | rfl | (refine renL_flat (by rw [← hm, repl_row (f := fun _ => 0)]; exact rowI_flatV) ?_; (conv => whnf); first | done | rfl)) (by (conv => whnf); try rfl) ?_
  conv => whnf
  refine ACalls.useE (awake08) [] rfl (by (conv => whnf); first | done | rfl | (refine renL_flat (by rw [← hm, repl_row (f := fun _ => 0)]; exact rowI_flatV) ?_; (conv => whnf); first | done | rfl)) (by (conv => whnf); try rfl) ?_
  conv => whnf
end Go.Proofs
