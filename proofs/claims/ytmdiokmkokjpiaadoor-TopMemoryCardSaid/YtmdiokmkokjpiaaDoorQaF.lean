/-
  Sums, shifts and comparisons.
-/
import Derived.Test.YtmdiokmkokjpiaaDoorKqe
set_option linter.all false
set_option linter.unusedVariables false
set_option linter.unusedSimpArgs false
set_option linter.unnecessarySimpa false
set_option linter.unusedSectionVars false
namespace Go.Proofs
open Go.Aw
variable [Base]
set_option maxRecDepth 100000
set_option maxHeartbeats 8000000
def setF (p f x : Int) : Int := if (x != 0) = true then bits .or .u8 p f else bits .andNot .u8 p f
def oneF (b : Bool) : Int := if b = true then 1 else 0
def markF (p v : Int) : Int := setF (setF p 2 (Go.Proofs.oneF (v == 0))) 128 (bits .and .u8 v 128)
def overF (a m s : Int) : Int := bits .and .i64 (IntKind.i64.wrap (bits .andNot .u8 (bits .xor .u8 a (IntKind.u8.wrap s)) (bits .xor .u8 a m))) 128
def binT (a m p : Int) : Int := IntKind.i64.wrap (IntKind.i64.wrap (IntKind.i64.wrap a + IntKind.i64.wrap m) + IntKind.i64.wrap (bits .and .u8 p 1))
def binQ (a m p : Int) : Int := markF (setF (setF p 1 ((binT a m p).fdiv (2 ^ min (8 : Int).toNat IntKind.i64.bits))) 64 (overF a m (binT a m p))) (IntKind.u8.wrap (binT a m p))
theorem alu_set8 (p f x : Int) : ACalls Tryd.prog 56 [.int .u8 p, .int .u8 f, .int .u8 x] [] fun r H => r = .int .u8 (setF p f x) ∧ H = [] := by
  refine ACalls.code tabOk h56 Tryd.func56 Tryd.call56 ok56 ?_
  conv => whnf
  refine Bif.of (fun h0 => ?_) fun h0 => ?_
  · rw [h0]
    conv => whnf
    (unfold setF; simp_all; done)
  · rw [h0]
    conv => whnf
    (unfold setF; simp_all; done)
theorem alu_setI (p f x : Int) : ACalls Tryd.prog 57 [.int .u8 p, .int .u8 f, .int .i64 x] [] fun r H => r = .int .u8 (setF p f x) ∧ H = [] := by
  refine ACalls.code tabOk h57 Tryd.func57 Tryd.call57 ok57 ?_
  conv => whnf
  refine Bif.of (fun h0 => ?_) fun h0 => ?_
  · rw [h0]
    conv => whnf
    (unfold setF; simp_all; done)
  · rw [h0]
    conv => whnf
    (unfold setF; simp_all; done)
theorem alu_one (b : Bool) : ACalls Tryd.prog 58 [.bool b] [] fun r H => r = .int .i64 (Go.Proofs.oneF b) ∧ H = [] := by
  refine ACalls.code tabOk h58 Tryd.func58 Tryd.call58 ok58 ?_
  conv => whnf
  refine Bif.of (fun h0 => ?_) fun h0 => ?_
  · rw [h0]
    conv => whnf
    exact ⟨rfl, rfl⟩
  · rw [h0]
    conv => whnf
    exact ⟨rfl, rfl⟩
theorem alu_mark (p v : Int) : ACalls Tryd.prog 52 [.int .u8 p, .int .u8 v] [] fun r H => r = .int .u8 (markF p v) ∧ H = [] := by
  refine ACalls.code tabOk h52 Tryd.func52 Tryd.call52 ok52 ?_
  conv => whnf
  refine ACalls.useE (alu_one _) [] rfl (by (conv => whnf); try rfl) (by (conv => whnf); try rfl) ?_
  conv => whnf
  refine ACalls.useE (alu_setI _ _ _) [] rfl (by (conv => whnf); try rfl) (by (conv => whnf); try rfl) ?_
  conv => whnf
  refine ACalls.useE (alu_set8 _ _ _) [] rfl (by (conv => whnf); try rfl) (by (conv => whnf); try rfl) ?_
  conv => whnf
  exact ⟨rfl, rfl⟩
theorem alu_over (a m s : Int) : ACalls Tryd.prog 71 [.int .u8 a, .int .u8 m, .int .i64 s] [] fun r H => r = .int .i64 (overF a m s) ∧ H = [] := by
  refine ACalls.code tabOk h71 Tryd.func71 Tryd.call71 ok71 ?_
  conv => whnf
  exact ⟨rfl, rfl⟩
theorem alu_binary (a m p : Int) : ACalls Tryd.prog 70 [.int .u8 a, .int .u8 m, .int .u8 p] [] fun r H => r = .tuple #[.int .u8 (IntKind.u8.wrap (binT a m p)), .int .u8 (binQ a m p)] ∧ H = [] := by
  refine ACalls.code tabOk h70 Tryd.func70 Tryd.call70 ok70 ?_
  conv => whnf
  refine ACalls.useE (alu_setI _ _ _) [] rfl (by (conv => whnf); try rfl) (by (conv => whnf); try rfl) ?_
  conv => whnf
  refine ACalls.useE (alu_over _ _ _) [] rfl (by (conv => whnf); try rfl) (by (conv => whnf); try rfl) ?_
  conv => whnf
  refine ACalls.useE (alu_setI _ _ _) [] rfl (by (conv => whnf); try rfl) (by (conv => whnf); try rfl) ?_
  conv => whnf
  refine ACalls.useE (alu_mark _ _) [] rfl (by (conv => whnf); try rfl) (by (conv => whnf); try rfl) ?_
  conv => whnf
  exact ⟨rfl, rfl⟩
end Go.Proofs
