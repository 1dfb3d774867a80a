/-
  Walks through the functions of the program, by contract.
-/
import Derived.Test.YthppckoomdhmfaaBaseA
import Derived.Test.YthppckoomdhmfaaCore18
set_option linter.all false
set_option linter.unusedVariables false
set_option linter.unusedSimpArgs false
set_option linter.unnecessarySimpa false
namespace Go.Proofs
open Go.Aw
set_option maxRecDepth 100000
set_option maxHeartbeats 2000000

theorem awake07 : ACalls Try.prog 19 [] [] fun v H => v = .bool true ∧ H = [] := by
  refine ACalls.code tabOk h19 Try.func19 Try.call19 ok19 ?_
  conv => whnf
  refine ACalls.codeN tabOk h15 Try.func15 Try.call15 ok15 [0] ?_
  conv => whnf
  refine ACalls.code tabOk h16 Try.func16 Try.call16 ok16 ?_
  conv => whnf
  refine ACalls.code tabOk h17 Try.func17 Try.call17 ok17 ?_
  conv => whnf
  refine ACalls.codeN tabOk h20 Try.func20 Try.call20 ok20 [0, 1] ?_
  conv => whnf
  refine ACalls.code tabOk h22 Try.func22 Try.call22 ok22 ?_
  conv => whnf
  refine ACalls.code tabOk h18 Try.func18 Try.call18 ok18 ?_
  conv => whnf
  refine ACalls.code tabOk h24 Try.func24 Try.call24 ok24 ?_
  conv => whnf
  refine ACalls.code tabOk h23 Try.func23 Try.call23 ok23 ?_
  conv => whnf
  refine ACalls.code tabOk h24 Try.func24 Try.call24 ok24 ?_
  conv => whnf
  refine ACalls.code tabOk h23 Try.func23 Try.call23 ok23 ?_
  conv => whnf
  exact ⟨rfl, rfl⟩

theorem walk_PortMasks (a b c d : Int) (ha : (Lit.int .u8 a).wf = true) (hb : (Lit.int .u8 b).wf = true) (hc : (Lit.int .u8 c).wf = true) (hd : (Lit.int .u8 d).wf = true) : 
   ACalls Try.prog 3 [.agg #[.int .u8 a, .int .u8 b, .int .u8 c, .int .u8 d]] [] fun v _ => v = .bool true := by
  obtain ⟨A, rfl⟩ := bv8 ha
  obtain ⟨B, rfl⟩ := bv8 hb
  obtain ⟨C, rfl⟩ := bv8 hc
  obtain ⟨D, rfl⟩ := bv8 hd
  have f1 : ∀ X : BitVec 8, ((B &&& C) ||| (X &&& ~~~C)) &&& C = B &&& C := fun X => by ext i; simp; cases B[i] <;> cases C[i] <;> simp
  have f2 : ∀ X : BitVec 8, ((X &&& C) ||| (A &&& ~~~C)) &&& ~~~C = A &&& ~~~C := fun X => by ext i; simp; cases A[i] <;> cases C[i] <;> simp
  clear ha hb hc hd
  refine ACalls.code tabOk h3 Try.func3 Try.call3 ok3 ?_
  conv => whnf
  refine ACalls.codeN tabOk h15 Try.func15 Try.call15 ok15 [0, 1] ?_
  conv => whnf
  refine ⟨rfl, ?_⟩
  conv => whnf
  refine ACalls.codeN tabOk h15 Try.func15 Try.call15 ok15 [0, 1, 2] ?_
  conv => whnf
  refine ACalls.code tabOk h16 Try.func16 Try.call16 ok16 ?_
  conv => whnf
  refine ACalls.code tabOk h17 Try.func17 Try.call17 ok17 ?_
  conv => whnf
  refine ACalls.code tabOk h16 Try.func16 Try.call16 ok16 ?_
  conv => whnf
  refine ACalls.code tabOk h17 Try.func17 Try.call17 ok17 ?_
  conv => whnf
  refine ACalls.code tabOk h18 Try.func18 Try.call18 ok18 ?_
  conv => whnf
  refine ⟨rfl, ?_⟩
  conv => whnf
  refine ⟨rfl, ?_⟩
  conv => whnf
  refine ACalls.code tabOk h18 Try.func18 Try.call18 ok18 ?_
  conv => whnf
  refine ⟨rfl, ?_⟩
  conv => whnf
  refine ⟨rfl, ?_⟩
  conv => whnf
  refine Bif.knF ?_ fun h0 => ?_
  · (simp only [bv_and, bv_or, bv_andNot, f1, f2, bne_self_eq_false, beq_self_eq_true])
  rw [h0]
  conv => whnf
  refine ACalls.code tabOk h18 Try.func18 Try.call18 ok18 ?_
  conv => whnf
  refine ⟨rfl, ?_⟩
  conv => whnf
  refine ⟨rfl, ?_⟩
  conv => whnf
  refine ⟨rfl, ?_⟩
  conv => whnf
  refine ⟨rfl, ?_⟩
  conv => whnf
  refine ⟨rfl, ?_⟩
  conv => whnf
  refine Bif.knF ?_ fun h1 => ?_
  · (simp only [bv_and, bv_or, bv_andNot, f1, f2, bne_self_eq_false, beq_self_eq_true])
  rw [h1]
  conv => whnf
  refine ACalls.code tabOk h18 Try.func18 Try.call18 ok18 ?_
  conv => whnf
  refine ACalls.code tabOk h16 Try.func16 Try.call16 ok16 ?_
  conv => whnf
  refine ACalls.code tabOk h18 Try.func18 Try.call18 ok18 ?_
  conv => whnf
  refine ⟨rfl, ?_⟩
  conv => whnf
  refine ⟨rfl, ?_⟩
  conv => whnf
  refine Bif.knT ?_ fun h2 => ?_
  · (simp only [bv_and, bv_or, bv_andNot, f1, f2, bne_self_eq_false, beq_self_eq_true])
  rw [h2]
  conv => whnf
  refine Bif.knT ?_ fun h3 => ?_
  · (simp only [bv_and, bv_or, bv_andNot, f1, f2, bne_self_eq_false, beq_self_eq_true])
  rw [h3]
  conv => whnf
  refine ACalls.useE (awake07) [] rfl (by (conv => whnf); try rfl) (by (conv => whnf); try rfl) ?_
  conv => whnf
  refine ⟨rfl, ?_⟩
  conv => whnf
  refine ⟨rfl, ?_⟩
  conv => whnf
  refine ⟨rfl, ?_⟩
  conv => whnf
  refine ⟨rfl, ?_⟩
  conv => whnf
  refine ⟨rfl, ?_⟩
  conv => whnf

end Go.Proofs
