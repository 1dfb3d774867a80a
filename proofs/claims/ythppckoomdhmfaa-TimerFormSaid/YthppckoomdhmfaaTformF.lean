/-
  Walks through the functions of the program, by contract.
-/
import Derived.Test.YthppckoomdhmfaaTForm
set_option linter.all false
set_option linter.unusedVariables false
set_option linter.unusedSimpArgs false
set_option linter.unnecessarySimpa false
namespace Go.Proofs
open Go.Aw
set_option maxRecDepth 100000
set_option maxHeartbeats 2000000

theorem awake06 : ACalls Try.prog 30 [] [] fun v H => v = .bool true ∧ H = [] := by
  refine ACalls.code tabOk h30 Try.func30 Try.call30 ok30 ?_
  conv => whnf
  refine ACalls.useE (timer_new) [] rfl (by (conv => whnf); try rfl) (by (conv => whnf); try rfl) ?_
  conv => whnf
  refine ACalls.useE (timer_write _ _ _ _ _ _ _) [0] rfl (by (conv => whnf); try rfl) (by (conv => whnf); try rfl) ?_
  conv => whnf
  refine ACalls.useE (timer_ticked _ _ _ _ _ _ ?_) [0] rfl (by (conv => whnf); try rfl) (by (conv => whnf); try rfl) ?_
  · decide
  conv => whnf
  refine ACalls.code tabOk h28 Try.func28 Try.call28 ok28 ?_
  conv => whnf
  refine ACalls.useE (timer_ticked _ _ _ _ _ _ ?_) [0] rfl (by (conv => whnf); try rfl) (by (conv => whnf); try rfl) ?_
  · decide
  conv => whnf
  refine ACalls.code tabOk h28 Try.func28 Try.call28 ok28 ?_
  conv => whnf
  refine ACalls.code tabOk h29 Try.func29 Try.call29 ok29 ?_
  conv => whnf
  refine ACalls.code tabOk h43 Try.func43 Try.call43 ok43 ?_
  conv => whnf
  refine ACalls.useE (timer_ticked _ _ _ _ _ _ ?_) [0] rfl (by (conv => whnf); try rfl) (by (conv => whnf); try rfl) ?_
  · decide
  conv => whnf
  refine ACalls.code tabOk h28 Try.func28 Try.call28 ok28 ?_
  conv => whnf
  refine ACalls.code tabOk h29 Try.func29 Try.call29 ok29 ?_
  conv => whnf
  exact ⟨rfl, rfl⟩


theorem form_zero_0 (a b : Int) (ha : 0 ≤ a ∧ a ≤ 255) (hb : 0 ≤ b ∧ b ≤ 255) (h : b % 4 = 0) :
   ACalls Try.prog 5 [.int .u8 a, .int .u8 b, .int .u16 0] [] fun v _ => v = .bool true := by
  have eb : IntKind.i64.wrap b = b := wrap64 (by omega) (by omega)
  have e : ivl (IntKind.i64.wrap b) = 1 := by rw [eb]; simp [ivl, h]
  have er : b.tmod 4 = 0 := by rw [Int.tmod_eq_emod_of_nonneg (by omega)]; exact h
  have hT : TM.ticks (IntKind.i64.wrap 0).toNat ⟨a, 1, 1, false, false⟩ = ⟨a, 1, 1, false, false⟩ := rfl
  refine ACalls.code tabOk h5 Try.func5 Try.call5 ok5 ?_
  conv => whnf
  refine ACalls.useE (timer_new) [] rfl (by (conv => whnf); try rfl) (by (conv => whnf); try rfl) ?_
  conv => whnf
  refine ACalls.useE (timer_write _ _ _ _ _ _ _) [0] rfl (by (conv => whnf); try rfl) (by (conv => whnf); try rfl) ?_
  conv => whnf
  rw [er]
  conv => whnf
  refine ACalls.useE (timer_ticked _ _ _ _ _ _ ?_) [0] rfl (by (conv => whnf); try rfl) (by (conv => whnf); try rfl) ?_
  · decide
  conv => whnf
  refine ACalls.code tabOk h28 Try.func28 Try.call28 ok28 ?_
  conv => whnf
  rw [e]
  conv => whnf
  rw [hT]
  conv => whnf
  refine Bif.knT ?_ fun h0 => ?_
  · (simp_all; done)
  rw [h0]
  conv => whnf
  refine ACalls.code tabOk h29 Try.func29 Try.call29 ok29 ?_
  conv => whnf
  refine ACalls.useE (awake06) [] rfl (by (conv => whnf); try rfl) (by (conv => whnf); try rfl) ?_
  conv => whnf

theorem form_under_0 (a b : Int) (k : Nat) (ha : 0 ≤ a ∧ a ≤ 255) (hb : 0 ≤ b ∧ b ≤ 255) (h : b % 4 = 0) (hk : (k : Int) + 1 ≤ 65535) (hu : a * 1 ≤ k) :
   ACalls Try.prog 5 [.int .u8 a, .int .u8 b, .int .u16 ((k : Int) + 1)] [] fun v _ => v = .bool true := by
  have eb : IntKind.i64.wrap b = b := wrap64 (by omega) (by omega)
  have e : ivl (IntKind.i64.wrap b) = 1 := by rw [eb]; simp [ivl, h]
  have er : b.tmod 4 = 0 := by rw [Int.tmod_eq_emod_of_nonneg (by omega)]; exact h
  have hT : TM.ticks (IntKind.i64.wrap ((k : Int) + 1)).toNat ⟨a, 1, 1, false, false⟩ = ⟨255 - (k - a * 1) % 256, 1, 1, true, true⟩ := by
    rw [wrap64 (by omega) (by omega), show ((k : Int) + 1).toNat = k + 1 by omega, ticks_form a 1 ha (by omega) k, if_pos hu]
  refine ACalls.code tabOk h5 Try.func5 Try.call5 ok5 ?_
  conv => whnf
  refine ACalls.useE (timer_new) [] rfl (by (conv => whnf); try rfl) (by (conv => whnf); try rfl) ?_
  conv => whnf
  refine ACalls.useE (timer_write _ _ _ _ _ _ _) [0] rfl (by (conv => whnf); try rfl) (by (conv => whnf); try rfl) ?_
  conv => whnf
  rw [er]
  conv => whnf
  refine ACalls.useE (timer_ticked _ _ _ _ _ _ ?_) [0] rfl (by (conv => whnf); try rfl) (by (conv => whnf); try rfl) ?_
  · (simp (disch := omega) only [wrap64, Int.tdiv_eq_ediv_of_nonneg, Int.tmod_eq_emod_of_nonneg, decide_eq_true_eq, decide_eq_false_iff_not, beq_iff_eq, beq_eq_false_iff_ne, ne_eq, beq_self_eq_true]; omega)
  conv => whnf
  rw [e]
  conv => whnf
  rw [hT]
  conv => whnf
  refine Bif.knF ?_ fun h0 => ?_
  · (simp (disch := omega) only [wrap64, Int.tdiv_eq_ediv_of_nonneg, Int.tmod_eq_emod_of_nonneg, decide_eq_true_eq, decide_eq_false_iff_not, beq_iff_eq, beq_eq_false_iff_ne, ne_eq, beq_self_eq_true]; omega)
  rw [h0]
  conv => whnf
  refine Bif.knT ?_ fun h1 => ?_
  · (simp (disch := omega) only [wrap64, Int.tdiv_eq_ediv_of_nonneg, Int.tmod_eq_emod_of_nonneg, decide_eq_true_eq, decide_eq_false_iff_not, beq_iff_eq, beq_eq_false_iff_ne, ne_eq, beq_self_eq_true]; omega)
  rw [h1]
  conv => whnf
  refine ACalls.code tabOk h28 Try.func28 Try.call28 ok28 ?_
  conv => whnf
  refine Bif.knT ?_ fun h2 => ?_
  · (simp (disch := omega) only [wrap64, Int.tdiv_eq_ediv_of_nonneg, Int.tmod_eq_emod_of_nonneg, decide_eq_true_eq, decide_eq_false_iff_not, beq_iff_eq, beq_eq_false_iff_ne, ne_eq, beq_self_eq_true]; omega)
  rw [h2]
  conv => whnf
  refine ACalls.code tabOk h29 Try.func29 Try.call29 ok29 ?_
  conv => whnf
  refine ACalls.code tabOk h31 Try.func31 Try.call31 ok31 ?_
  conv => whnf
  refine ACalls.useE (awake06) [] rfl (by (conv => whnf); try rfl) (by (conv => whnf); try rfl) ?_
  conv => whnf

theorem form_over_0 (a b : Int) (k : Nat) (ha : 0 ≤ a ∧ a ≤ 255) (hb : 0 ≤ b ∧ b ≤ 255) (h : b % 4 = 0) (hk : (k : Int) + 1 ≤ 65535) (hu : ¬ a * 1 ≤ k) :
   ACalls Try.prog 5 [.int .u8 a, .int .u8 b, .int .u16 ((k : Int) + 1)] [] fun v _ => v = .bool true := by
  have eb : IntKind.i64.wrap b = b := wrap64 (by omega) (by omega)
  have e : ivl (IntKind.i64.wrap b) = 1 := by rw [eb]; simp [ivl, h]
  have er : b.tmod 4 = 0 := by rw [Int.tmod_eq_emod_of_nonneg (by omega)]; exact h
  have hT : TM.ticks (IntKind.i64.wrap ((k : Int) + 1)).toNat ⟨a, 1, 1, false, false⟩ = ⟨a - 1 - k / 1, 1, 1 - k % 1, false, false⟩ := by
    rw [wrap64 (by omega) (by omega), show ((k : Int) + 1).toNat = k + 1 by omega, ticks_form a 1 ha (by omega) k, if_neg hu]
  refine ACalls.code tabOk h5 Try.func5 Try.call5 ok5 ?_
  conv => whnf
  refine ACalls.useE (timer_new) [] rfl (by (conv => whnf); try rfl) (by (conv => whnf); try rfl) ?_
  conv => whnf
  refine ACalls.useE (timer_write _ _ _ _ _ _ _) [0] rfl (by (conv => whnf); try rfl) (by (conv => whnf); try rfl) ?_
  conv => whnf
  rw [er]
  conv => whnf
  refine ACalls.useE (timer_ticked _ _ _ _ _ _ ?_) [0] rfl (by (conv => whnf); try rfl) (by (conv => whnf); try rfl) ?_
  · (simp (disch := omega) only [wrap64, Int.tdiv_eq_ediv_of_nonneg, Int.tmod_eq_emod_of_nonneg, decide_eq_true_eq, decide_eq_false_iff_not, beq_iff_eq, beq_eq_false_iff_ne, ne_eq, beq_self_eq_true]; omega)
  conv => whnf
  rw [e]
  conv => whnf
  rw [hT]
  conv => whnf
  refine Bif.knF ?_ fun h0 => ?_
  · (simp (disch := omega) only [wrap64, Int.tdiv_eq_ediv_of_nonneg, Int.tmod_eq_emod_of_nonneg, decide_eq_true_eq, decide_eq_false_iff_not, beq_iff_eq, beq_eq_false_iff_ne, ne_eq, beq_self_eq_true]; omega)
  rw [h0]
  conv => whnf
  refine Bif.knF ?_ fun h1 => ?_
  · (simp (disch := omega) only [wrap64, Int.tdiv_eq_ediv_of_nonneg, Int.tmod_eq_emod_of_nonneg, decide_eq_true_eq, decide_eq_false_iff_not, beq_iff_eq, beq_eq_false_iff_ne, ne_eq, beq_self_eq_true]; omega)
  rw [h1]
  conv => whnf
  refine ACalls.code tabOk h28 Try.func28 Try.call28 ok28 ?_
  conv => whnf
  refine Bif.knT ?_ fun h2 => ?_
  · (simp (disch := omega) only [wrap64, Int.tdiv_eq_ediv_of_nonneg, Int.tmod_eq_emod_of_nonneg, decide_eq_true_eq, decide_eq_false_iff_not, beq_iff_eq, beq_eq_false_iff_ne, ne_eq, beq_self_eq_true]; omega)
  rw [h2]
  conv => whnf
  refine ACalls.code tabOk h29 Try.func29 Try.call29 ok29 ?_
  conv => whnf
  refine ACalls.code tabOk h31 Try.func31 Try.call31 ok31 ?_
  conv => whnf
  refine ACalls.useE (awake06) [] rfl (by (conv => whnf); try rfl) (by (conv => whnf); try rfl) ?_
  conv => whnf

theorem form_zero_1 (a b : Int) (ha : 0 ≤ a ∧ a ≤ 255) (hb : 0 ≤ b ∧ b ≤ 255) (h : b % 4 = 1) :
   ACalls Try.prog 5 [.int .u8 a, .int .u8 b, .int .u16 0] [] fun v _ => v = .bool true := by
  have eb : IntKind.i64.wrap b = b := wrap64 (by omega) (by omega)
  have e : ivl (IntKind.i64.wrap b) = 8 := by rw [eb]; simp [ivl, h]
  have er : b.tmod 4 = 1 := by rw [Int.tmod_eq_emod_of_nonneg (by omega)]; exact h
  have hT : TM.ticks (IntKind.i64.wrap 0).toNat ⟨a, 8, 1, false, false⟩ = ⟨a, 8, 1, false, false⟩ := rfl
  refine ACalls.code tabOk h5 Try.func5 Try.call5 ok5 ?_
  conv => whnf
  refine ACalls.useE (timer_new) [] rfl (by (conv => whnf); try rfl) (by (conv => whnf); try rfl) ?_
  conv => whnf
  refine ACalls.useE (timer_write _ _ _ _ _ _ _) [0] rfl (by (conv => whnf); try rfl) (by (conv => whnf); try rfl) ?_
  conv => whnf
  rw [er]
  conv => whnf
  refine ACalls.useE (timer_ticked _ _ _ _ _ _ ?_) [0] rfl (by (conv => whnf); try rfl) (by (conv => whnf); try rfl) ?_
  · decide
  conv => whnf
  refine ACalls.code tabOk h28 Try.func28 Try.call28 ok28 ?_
  conv => whnf
  rw [e]
  conv => whnf
  rw [hT]
  conv => whnf
  refine Bif.knT ?_ fun h0 => ?_
  · (simp_all; done)
  rw [h0]
  conv => whnf
  refine ACalls.code tabOk h29 Try.func29 Try.call29 ok29 ?_
  conv => whnf
  refine ACalls.useE (awake06) [] rfl (by (conv => whnf); try rfl) (by (conv => whnf); try rfl) ?_
  conv => whnf

theorem form_under_1 (a b : Int) (k : Nat) (ha : 0 ≤ a ∧ a ≤ 255) (hb : 0 ≤ b ∧ b ≤ 255) (h : b % 4 = 1) (hk : (k : Int) + 1 ≤ 65535) (hu : a * 8 ≤ k) :
   ACalls Try.prog 5 [.int .u8 a, .int .u8 b, .int .u16 ((k : Int) + 1)] [] fun v _ => v = .bool true := by
  have eb : IntKind.i64.wrap b = b := wrap64 (by omega) (by omega)
  have e : ivl (IntKind.i64.wrap b) = 8 := by rw [eb]; simp [ivl, h]
  have er : b.tmod 4 = 1 := by rw [Int.tmod_eq_emod_of_nonneg (by omega)]; exact h
  have hT : TM.ticks (IntKind.i64.wrap ((k : Int) + 1)).toNat ⟨a, 8, 1, false, false⟩ = ⟨255 - (k - a * 8) % 256, 8, 8, true, true⟩ := by
    rw [wrap64 (by omega) (by omega), show ((k : Int) + 1).toNat = k + 1 by omega, ticks_form a 8 ha (by omega) k, if_pos hu]
  refine ACalls.code tabOk h5 Try.func5 Try.call5 ok5 ?_
  conv => whnf
  refine ACalls.useE (timer_new) [] rfl (by (conv => whnf); try rfl) (by (conv => whnf); try rfl) ?_
  conv => whnf
  refine ACalls.useE (timer_write _ _ _ _ _ _ _) [0] rfl (by (conv => whnf); try rfl) (by (conv => whnf); try rfl) ?_
  conv => whnf
  rw [er]
  conv => whnf
  refine ACalls.useE (timer_ticked _ _ _ _ _ _ ?_) [0] rfl (by (conv => whnf); try rfl) (by (conv => whnf); try rfl) ?_
  · (simp (disch := omega) only [wrap64, Int.tdiv_eq_ediv_of_nonneg, Int.tmod_eq_emod_of_nonneg, decide_eq_true_eq, decide_eq_false_iff_not, beq_iff_eq, beq_eq_false_iff_ne, ne_eq, beq_self_eq_true]; omega)
  conv => whnf
  rw [e]
  conv => whnf
  rw [hT]
  conv => whnf
  refine Bif.knF ?_ fun h0 => ?_
  · (simp (disch := omega) only [wrap64, Int.tdiv_eq_ediv_of_nonneg, Int.tmod_eq_emod_of_nonneg, decide_eq_true_eq, decide_eq_false_iff_not, beq_iff_eq, beq_eq_false_iff_ne, ne_eq, beq_self_eq_true]; omega)
  rw [h0]
  conv => whnf
  refine Bif.knT ?_ fun h1 => ?_
  · (simp (disch := omega) only [wrap64, Int.tdiv_eq_ediv_of_nonneg, Int.tmod_eq_emod_of_nonneg, decide_eq_true_eq, decide_eq_false_iff_not, beq_iff_eq, beq_eq_false_iff_ne, ne_eq, beq_self_eq_true]; omega)
  rw [h1]
  conv => whnf
  refine ACalls.code tabOk h28 Try.func28 Try.call28 ok28 ?_
  conv => whnf
  refine Bif.knT ?_ fun h2 => ?_
  · (simp (disch := omega) only [wrap64, Int.tdiv_eq_ediv_of_nonneg, Int.tmod_eq_emod_of_nonneg, decide_eq_true_eq, decide_eq_false_iff_not, beq_iff_eq, beq_eq_false_iff_ne, ne_eq, beq_self_eq_true]; omega)
  rw [h2]
  conv => whnf
  refine ACalls.code tabOk h29 Try.func29 Try.call29 ok29 ?_
  conv => whnf
  refine ACalls.code tabOk h31 Try.func31 Try.call31 ok31 ?_
  conv => whnf
  refine ACalls.useE (awake06) [] rfl (by (conv => whnf); try rfl) (by (conv => whnf); try rfl) ?_
  conv => whnf

theorem form_over_1 (a b : Int) (k : Nat) (ha : 0 ≤ a ∧ a ≤ 255) (hb : 0 ≤ b ∧ b ≤ 255) (h : b % 4 = 1) (hk : (k : Int) + 1 ≤ 65535) (hu : ¬ a * 8 ≤ k) :
   ACalls Try.prog 5 [.int .u8 a, .int .u8 b, .int .u16 ((k : Int) + 1)] [] fun v _ => v = .bool true := by
  have eb : IntKind.i64.wrap b = b := wrap64 (by omega) (by omega)
  have e : ivl (IntKind.i64.wrap b) = 8 := by rw [eb]; simp [ivl, h]
  have er : b.tmod 4 = 1 := by rw [Int.tmod_eq_emod_of_nonneg (by omega)]; exact h
  have hT : TM.ticks (IntKind.i64.wrap ((k : Int) + 1)).toNat ⟨a, 8, 1, false, false⟩ = ⟨a - 1 - k / 8, 8, 8 - k % 8, false, false⟩ := by
    rw [wrap64 (by omega) (by omega), show ((k : Int) + 1).toNat = k + 1 by omega, ticks_form a 8 ha (by omega) k, if_neg hu]
  refine ACalls.code tabOk h5 Try.func5 Try.call5 ok5 ?_
  conv => whnf
  refine ACalls.useE (timer_new) [] rfl (by (conv => whnf); try rfl) (by (conv => whnf); try rfl) ?_
  conv => whnf
  refine ACalls.useE (timer_write _ _ _ _ _ _ _) [0] rfl (by (conv => whnf); try rfl) (by (conv => whnf); try rfl) ?_
  conv => whnf
  rw [er]
  conv => whnf
  refine ACalls.useE (timer_ticked _ _ _ _ _ _ ?_) [0] rfl (by (conv => whnf); try rfl) (by (conv => whnf); try rfl) ?_
  · (simp (disch := omega) only [wrap64, Int.tdiv_eq_ediv_of_nonneg, Int.tmod_eq_emod_of_nonneg, decide_eq_true_eq, decide_eq_false_iff_not, beq_iff_eq, beq_eq_false_iff_ne, ne_eq, beq_self_eq_true]; omega)
  conv => whnf
  rw [e]
  conv => whnf
  rw [hT]
  conv => whnf
  refine Bif.knF ?_ fun h0 => ?_
  · (simp (disch := omega) only [wrap64, Int.tdiv_eq_ediv_of_nonneg, Int.tmod_eq_emod_of_nonneg, decide_eq_true_eq, decide_eq_false_iff_not, beq_iff_eq, beq_eq_false_iff_ne, ne_eq, beq_self_eq_true]; omega)
  rw [h0]
  conv => whnf
  refine Bif.knF ?_ fun h1 => ?_
  · (simp (disch := omega) only [wrap64, Int.tdiv_eq_ediv_of_nonneg, Int.tmod_eq_emod_of_nonneg, decide_eq_true_eq, decide_eq_false_iff_not, beq_iff_eq, beq_eq_false_iff_ne, ne_eq, beq_self_eq_true]; omega)
  rw [h1]
  conv => whnf
  refine ACalls.code tabOk h28 Try.func28 Try.call28 ok28 ?_
  conv => whnf
  refine Bif.knT ?_ fun h2 => ?_
  · (simp (disch := omega) only [wrap64, Int.tdiv_eq_ediv_of_nonneg, Int.tmod_eq_emod_of_nonneg, decide_eq_true_eq, decide_eq_false_iff_not, beq_iff_eq, beq_eq_false_iff_ne, ne_eq, beq_self_eq_true]; omega)
  rw [h2]
  conv => whnf
  refine ACalls.code tabOk h29 Try.func29 Try.call29 ok29 ?_
  conv => whnf
  refine ACalls.code tabOk h31 Try.func31 Try.call31 ok31 ?_
  conv => whnf
  refine ACalls.useE (awake06) [] rfl (by (conv => whnf); try rfl) (by (conv => whnf); try rfl) ?_
  conv => whnf

theorem form_zero_2 (a b : Int) (ha : 0 ≤ a ∧ a ≤ 255) (hb : 0 ≤ b ∧ b ≤ 255) (h : b % 4 = 2) :
   ACalls Try.prog 5 [.int .u8 a, .int .u8 b, .int .u16 0] [] fun v _ => v = .bool true := by
  have eb : IntKind.i64.wrap b = b := wrap64 (by omega) (by omega)
  have e : ivl (IntKind.i64.wrap b) = 64 := by rw [eb]; simp [ivl, h]
  have er : b.tmod 4 = 2 := by rw [Int.tmod_eq_emod_of_nonneg (by omega)]; exact h
  have hT : TM.ticks (IntKind.i64.wrap 0).toNat ⟨a, 64, 1, false, false⟩ = ⟨a, 64, 1, false, false⟩ := rfl
  refine ACalls.code tabOk h5 Try.func5 Try.call5 ok5 ?_
  conv => whnf
  refine ACalls.useE (timer_new) [] rfl (by (conv => whnf); try rfl) (by (conv => whnf); try rfl) ?_
  conv => whnf
  refine ACalls.useE (timer_write _ _ _ _ _ _ _) [0] rfl (by (conv => whnf); try rfl) (by (conv => whnf); try rfl) ?_
  conv => whnf
  rw [er]
  conv => whnf
  refine ACalls.useE (timer_ticked _ _ _ _ _ _ ?_) [0] rfl (by (conv => whnf); try rfl) (by (conv => whnf); try rfl) ?_
  · decide
  conv => whnf
  refine ACalls.code tabOk h28 Try.func28 Try.call28 ok28 ?_
  conv => whnf
  rw [e]
  conv => whnf
  rw [hT]
  conv => whnf
  refine Bif.knT ?_ fun h0 => ?_
  · (simp_all; done)
  rw [h0]
  conv => whnf
  refine ACalls.code tabOk h29 Try.func29 Try.call29 ok29 ?_
  conv => whnf
  refine ACalls.useE (awake06) [] rfl (by (conv => whnf); try rfl) (by (conv => whnf); try rfl) ?_
  conv => whnf

theorem form_under_2 (a b : Int) (k : Nat) (ha : 0 ≤ a ∧ a ≤ 255) (hb : 0 ≤ b ∧ b ≤ 255) (h : b % 4 = 2) (hk : (k : Int) + 1 ≤ 65535) (hu : a * 64 ≤ k) :
   ACalls Try.prog 5 [.int .u8 a, .int .u8 b, .int .u16 ((k : Int) + 1)] [] fun v _ => v = .bool true := by
  have eb : IntKind.i64.wrap b = b := wrap64 (by omega) (by omega)
  have e : ivl (IntKind.i64.wrap b) = 64 := by rw [eb]; simp [ivl, h]
  have er : b.tmod 4 = 2 := by rw [Int.tmod_eq_emod_of_nonneg (by omega)]; exact h
  have hT : TM.ticks (IntKind.i64.wrap ((k : Int) + 1)).toNat ⟨a, 64, 1, false, false⟩ = ⟨255 - (k - a * 64) % 256, 64, 64, true, true⟩ := by
    rw [wrap64 (by omega) (by omega), show ((k : Int) + 1).toNat = k + 1 by omega, ticks_form a 64 ha (by omega) k, if_pos hu]
  refine ACalls.code tabOk h5 Try.func5 Try.call5 ok5 ?_
  conv => whnf
  refine ACalls.useE (timer_new) [] rfl (by (conv => whnf); try rfl) (by (conv => whnf); try rfl) ?_
  conv => whnf
  refine ACalls.useE (timer_write _ _ _ _ _ _ _) [0] rfl (by (conv => whnf); try rfl) (by (conv => whnf); try rfl) ?_
  conv => whnf
  rw [er]
  conv => whnf
  refine ACalls.useE (timer_ticked _ _ _ _ _ _ ?_) [0] rfl (by (conv => whnf); try rfl) (by (conv => whnf); try rfl) ?_
  · (simp (disch := omega) only [wrap64, Int.tdiv_eq_ediv_of_nonneg, Int.tmod_eq_emod_of_nonneg, decide_eq_true_eq, decide_eq_false_iff_not, beq_iff_eq, beq_eq_false_iff_ne, ne_eq, beq_self_eq_true]; omega)
  conv => whnf
  rw [e]
  conv => whnf
  rw [hT]
  conv => whnf
  refine Bif.knF ?_ fun h0 => ?_
  · (simp (disch := omega) only [wrap64, Int.tdiv_eq_ediv_of_nonneg, Int.tmod_eq_emod_of_nonneg, decide_eq_true_eq, decide_eq_false_iff_not, beq_iff_eq, beq_eq_false_iff_ne, ne_eq, beq_self_eq_true]; omega)
  rw [h0]
  conv => whnf
  refine Bif.knT ?_ fun h1 => ?_
  · (simp (disch := omega) only [wrap64, Int.tdiv_eq_ediv_of_nonneg, Int.tmod_eq_emod_of_nonneg, decide_eq_true_eq, decide_eq_false_iff_not, beq_iff_eq, beq_eq_false_iff_ne, ne_eq, beq_self_eq_true]; omega)
  rw [h1]
  conv => whnf
  refine ACalls.code tabOk h28 Try.func28 Try.call28 ok28 ?_
  conv => whnf
  refine Bif.knT ?_ fun h2 => ?_
  · (simp (disch := omega) only [wrap64, Int.tdiv_eq_ediv_of_nonneg, Int.tmod_eq_emod_of_nonneg, decide_eq_true_eq, decide_eq_false_iff_not, beq_iff_eq, beq_eq_false_iff_ne, ne_eq, beq_self_eq_true]; omega)
  rw [h2]
  conv => whnf
  refine ACalls.code tabOk h29 Try.func29 Try.call29 ok29 ?_
  conv => whnf
  refine ACalls.code tabOk h31 Try.func31 Try.call31 ok31 ?_
  conv => whnf
  refine ACalls.useE (awake06) [] rfl (by (conv => whnf); try rfl) (by (conv => whnf); try rfl) ?_
  conv => whnf

theorem form_over_2 (a b : Int) (k : Nat) (ha : 0 ≤ a ∧ a ≤ 255) (hb : 0 ≤ b ∧ b ≤ 255) (h : b % 4 = 2) (hk : (k : Int) + 1 ≤ 65535) (hu : ¬ a * 64 ≤ k) :
   ACalls Try.prog 5 [.int .u8 a, .int .u8 b, .int .u16 ((k : Int) + 1)] [] fun v _ => v = .bool true := by
  have eb : IntKind.i64.wrap b = b := wrap64 (by omega) (by omega)
  have e : ivl (IntKind.i64.wrap b) = 64 := by rw [eb]; simp [ivl, h]
  have er : b.tmod 4 = 2 := by rw [Int.tmod_eq_emod_of_nonneg (by omega)]; exact h
  have hT : TM.ticks (IntKind.i64.wrap ((k : Int) + 1)).toNat ⟨a, 64, 1, false, false⟩ = ⟨a - 1 - k / 64, 64, 64 - k % 64, false, false⟩ := by
    rw [wrap64 (by omega) (by omega), show ((k : Int) + 1).toNat = k + 1 by omega, ticks_form a 64 ha (by omega) k, if_neg hu]
  refine ACalls.code tabOk h5 Try.func5 Try.call5 ok5 ?_
  conv => whnf
  refine ACalls.useE (timer_new) [] rfl (by (conv => whnf); try rfl) (by (conv => whnf); try rfl) ?_
  conv => whnf
  refine ACalls.useE (timer_write _ _ _ _ _ _ _) [0] rfl (by (conv => whnf); try rfl) (by (conv => whnf); try rfl) ?_
  conv => whnf
  rw [er]
  conv => whnf
  refine ACalls.useE (timer_ticked _ _ _ _ _ _ ?_) [0] rfl (by (conv => whnf); try rfl) (by (conv => whnf); try rfl) ?_
  · (simp (disch := omega) only [wrap64, Int.tdiv_eq_ediv_of_nonneg, Int.tmod_eq_emod_of_nonneg, decide_eq_true_eq, decide_eq_false_iff_not, beq_iff_eq, beq_eq_false_iff_ne, ne_eq, beq_self_eq_true]; omega)
  conv => whnf
  rw [e]
  conv => whnf
  rw [hT]
  conv => whnf
  refine Bif.knF ?_ fun h0 => ?_
  · (simp (disch := omega) only [wrap64, Int.tdiv_eq_ediv_of_nonneg, Int.tmod_eq_emod_of_nonneg, decide_eq_true_eq, decide_eq_false_iff_not, beq_iff_eq, beq_eq_false_iff_ne, ne_eq, beq_self_eq_true]; omega)
  rw [h0]
  conv => whnf
  refine Bif.knF ?_ fun h1 => ?_
  · (simp (disch := omega) only [wrap64, Int.tdiv_eq_ediv_of_nonneg, Int.tmod_eq_emod_of_nonneg, decide_eq_true_eq, decide_eq_false_iff_not, beq_iff_eq, beq_eq_false_iff_ne, ne_eq, beq_self_eq_true]; omega)
  rw [h1]
  conv => whnf
  refine ACalls.code tabOk h28 Try.func28 Try.call28 ok28 ?_
  conv => whnf
  refine Bif.knT ?_ fun h2 => ?_
  · (simp (disch := omega) only [wrap64, Int.tdiv_eq_ediv_of_nonneg, Int.tmod_eq_emod_of_nonneg, decide_eq_true_eq, decide_eq_false_iff_not, beq_iff_eq, beq_eq_false_iff_ne, ne_eq, beq_self_eq_true]; omega)
  rw [h2]
  conv => whnf
  refine ACalls.code tabOk h29 Try.func29 Try.call29 ok29 ?_
  conv => whnf
  refine ACalls.code tabOk h31 Try.func31 Try.call31 ok31 ?_
  conv => whnf
  refine ACalls.useE (awake06) [] rfl (by (conv => whnf); try rfl) (by (conv => whnf); try rfl) ?_
  conv => whnf

theorem form_zero_3 (a b : Int) (ha : 0 ≤ a ∧ a ≤ 255) (hb : 0 ≤ b ∧ b ≤ 255) (h : b % 4 = 3) :
   ACalls Try.prog 5 [.int .u8 a, .int .u8 b, .int .u16 0] [] fun v _ => v = .bool true := by
  have eb : IntKind.i64.wrap b = b := wrap64 (by omega) (by omega)
  have e : ivl (IntKind.i64.wrap b) = 1024 := by rw [eb]; simp [ivl, h]
  have er : b.tmod 4 = 3 := by rw [Int.tmod_eq_emod_of_nonneg (by omega)]; exact h
  have hT : TM.ticks (IntKind.i64.wrap 0).toNat ⟨a, 1024, 1, false, false⟩ = ⟨a, 1024, 1, false, false⟩ := rfl
  refine ACalls.code tabOk h5 Try.func5 Try.call5 ok5 ?_
  conv => whnf
  refine ACalls.useE (timer_new) [] rfl (by (conv => whnf); try rfl) (by (conv => whnf); try rfl) ?_
  conv => whnf
  refine ACalls.useE (timer_write _ _ _ _ _ _ _) [0] rfl (by (conv => whnf); try rfl) (by (conv => whnf); try rfl) ?_
  conv => whnf
  rw [er]
  conv => whnf
  refine ACalls.useE (timer_ticked _ _ _ _ _ _ ?_) [0] rfl (by (conv => whnf); try rfl) (by (conv => whnf); try rfl) ?_
  · decide
  conv => whnf
  refine ACalls.code tabOk h28 Try.func28 Try.call28 ok28 ?_
  conv => whnf
  rw [e]
  conv => whnf
  rw [hT]
  conv => whnf
  refine Bif.knT ?_ fun h0 => ?_
  · (simp_all; done)
  rw [h0]
  conv => whnf
  refine ACalls.code tabOk h29 Try.func29 Try.call29 ok29 ?_
  conv => whnf
  refine ACalls.useE (awake06) [] rfl (by (conv => whnf); try rfl) (by (conv => whnf); try rfl) ?_
  conv => whnf

theorem form_under_3 (a b : Int) (k : Nat) (ha : 0 ≤ a ∧ a ≤ 255) (hb : 0 ≤ b ∧ b ≤ 255) (h : b % 4 = 3) (hk : (k : Int) + 1 ≤ 65535) (hu : a * 1024 ≤ k) :
   ACalls Try.prog 5 [.int .u8 a, .int .u8 b, .int .u16 ((k : Int) + 1)] [] fun v _ => v = .bool true := by
  have eb : IntKind.i64.wrap b = b := wrap64 (by omega) (by omega)
  have e : ivl (IntKind.i64.wrap b) = 1024 := by rw [eb]; simp [ivl, h]
  have er : b.tmod 4 = 3 := by rw [Int.tmod_eq_emod_of_nonneg (by omega)]; exact h
  have hT : TM.ticks (IntKind.i64.wrap ((k : Int) + 1)).toNat ⟨a, 1024, 1, false, false⟩ = ⟨255 - (k - a * 1024) % 256, 1024, 1024, true, true⟩ := by
    rw [wrap64 (by omega) (by omega), show ((k : Int) + 1).toNat = k + 1 by omega, ticks_form a 1024 ha (by omega) k, if_pos hu]
  refine ACalls.code tabOk h5 Try.func5 Try.call5 ok5 ?_
  conv => whnf
  refine ACalls.useE (timer_new) [] rfl (by (conv => whnf); try rfl) (by (conv => whnf); try rfl) ?_
  conv => whnf
  refine ACalls.useE (timer_write _ _ _ _ _ _ _) [0] rfl (by (conv => whnf); try rfl) (by (conv => whnf); try rfl) ?_
  conv => whnf
  rw [er]
  conv => whnf
  refine ACalls.useE (timer_ticked _ _ _ _ _ _ ?_) [0] rfl (by (conv => whnf); try rfl) (by (conv => whnf); try rfl) ?_
  · (simp (disch := omega) only [wrap64, Int.tdiv_eq_ediv_of_nonneg, Int.tmod_eq_emod_of_nonneg, decide_eq_true_eq, decide_eq_false_iff_not, beq_iff_eq, beq_eq_false_iff_ne, ne_eq, beq_self_eq_true]; omega)
  conv => whnf
  rw [e]
  conv => whnf
  rw [hT]
  conv => whnf
  refine Bif.knF ?_ fun h0 => ?_
  · (simp (disch := omega) only [wrap64, Int.tdiv_eq_ediv_of_nonneg, Int.tmod_eq_emod_of_nonneg, decide_eq_true_eq, decide_eq_false_iff_not, beq_iff_eq, beq_eq_false_iff_ne, ne_eq, beq_self_eq_true]; omega)
  rw [h0]
  conv => whnf
  refine Bif.knT ?_ fun h1 => ?_
  · (simp (disch := omega) only [wrap64, Int.tdiv_eq_ediv_of_nonneg, Int.tmod_eq_emod_of_nonneg, decide_eq_true_eq, decide_eq_false_iff_not, beq_iff_eq, beq_eq_false_iff_ne, ne_eq, beq_self_eq_true]; omega)
  rw [h1]
  conv => whnf
  refine ACalls.code tabOk h28 Try.func28 Try.call28 ok28 ?_
  conv => whnf
  refine Bif.knT ?_ fun h2 => ?_
  · (simp (disch := omega) only [wrap64, Int.tdiv_eq_ediv_of_nonneg, Int.tmod_eq_emod_of_nonneg, decide_eq_true_eq, decide_eq_false_iff_not, beq_iff_eq, beq_eq_false_iff_ne, ne_eq, beq_self_eq_true]; omega)
  rw [h2]
  conv => whnf
  refine ACalls.code tabOk h29 Try.func29 Try.call29 ok29 ?_
  conv => whnf
  refine ACalls.code tabOk h31 Try.func31 Try.call31 ok31 ?_
  conv => whnf
  refine ACalls.useE (awake06) [] rfl (by (conv => whnf); try rfl) (by (conv => whnf); try rfl) ?_
  conv => whnf

theorem form_over_3 (a b : Int) (k : Nat) (ha : 0 ≤ a ∧ a ≤ 255) (hb : 0 ≤ b ∧ b ≤ 255) (h : b % 4 = 3) (hk : (k : Int) + 1 ≤ 65535) (hu : ¬ a * 1024 ≤ k) :
   ACalls Try.prog 5 [.int .u8 a, .int .u8 b, .int .u16 ((k : Int) + 1)] [] fun v _ => v = .bool true := by
  have eb : IntKind.i64.wrap b = b := wrap64 (by omega) (by omega)
  have e : ivl (IntKind.i64.wrap b) = 1024 := by rw [eb]; simp [ivl, h]
  have er : b.tmod 4 = 3 := by rw [Int.tmod_eq_emod_of_nonneg (by omega)]; exact h
  have hT : TM.ticks (IntKind.i64.wrap ((k : Int) + 1)).toNat ⟨a, 1024, 1, false, false⟩ = ⟨a - 1 - k / 1024, 1024, 1024 - k % 1024, false, false⟩ := by
    rw [wrap64 (by omega) (by omega), show ((k : Int) + 1).toNat = k + 1 by omega, ticks_form a 1024 ha (by omega) k, if_neg hu]
  refine ACalls.code tabOk h5 Try.func5 Try.call5 ok5 ?_
  conv => whnf
  refine ACalls.useE (timer_new) [] rfl (by (conv => whnf); try rfl) (by (conv => whnf); try rfl) ?_
  conv => whnf
  refine ACalls.useE (timer_write _ _ _ _ _ _ _) [0] rfl (by (conv => whnf); try rfl) (by (conv => whnf); try rfl) ?_
  conv => whnf
  rw [er]
  conv => whnf
  refine ACalls.useE (timer_ticked _ _ _ _ _ _ ?_) [0] rfl (by (conv => whnf); try rfl) (by (conv => whnf); try rfl) ?_
  · (simp (disch := omega) only [wrap64, Int.tdiv_eq_ediv_of_nonneg, Int.tmod_eq_emod_of_nonneg, decide_eq_true_eq, decide_eq_false_iff_not, beq_iff_eq, beq_eq_false_iff_ne, ne_eq, beq_self_eq_true]; omega)
  conv => whnf
  rw [e]
  conv => whnf
  rw [hT]
  conv => whnf
  refine Bif.knF ?_ fun h0 => ?_
  · (simp (disch := omega) only [wrap64, Int.tdiv_eq_ediv_of_nonneg, Int.tmod_eq_emod_of_nonneg, decide_eq_true_eq, decide_eq_false_iff_not, beq_iff_eq, beq_eq_false_iff_ne, ne_eq, beq_self_eq_true]; omega)
  rw [h0]
  conv => whnf
  refine Bif.knF ?_ fun h1 => ?_
  · (simp (disch := omega) only [wrap64, Int.tdiv_eq_ediv_of_nonneg, Int.tmod_eq_emod_of_nonneg, decide_eq_true_eq, decide_eq_false_iff_not, beq_iff_eq, beq_eq_false_iff_ne, ne_eq, beq_self_eq_true]; omega)
  rw [h1]
  conv => whnf
  refine ACalls.code tabOk h28 Try.func28 Try.call28 ok28 ?_
  conv => whnf
  refine Bif.knT ?_ fun h2 => ?_
  · (simp (disch := omega) only [wrap64, Int.tdiv_eq_ediv_of_nonneg, Int.tmod_eq_emod_of_nonneg, decide_eq_true_eq, decide_eq_false_iff_not, beq_iff_eq, beq_eq_false_iff_ne, ne_eq, beq_self_eq_true]; omega)
  rw [h2]
  conv => whnf
  refine ACalls.code tabOk h29 Try.func29 Try.call29 ok29 ?_
  conv => whnf
  refine ACalls.code tabOk h31 Try.func31 Try.call31 ok31 ?_
  conv => whnf
  refine ACalls.useE (awake06) [] rfl (by (conv => whnf); try rfl) (by (conv => whnf); try rfl) ?_
  conv => whnf


theorem walk_TimerForm (a b c : Int) (wa : (Lit.int .u8 a).wf = true) (wb : (Lit.int .u8 b).wf = true) (wc : (Lit.int .u16 c).wf = true) : 
   ACalls Try.prog 5 [.int .u8 a, .int .u8 b, .int .u16 c] [] fun v _ => v = .bool true := by
  have ha := wf_u8 wa
  have hb := wf_u8 wb
  have hc := wf_u16 wc
  have h : b % 4 = 0 ∨ b % 4 = 1 ∨ b % 4 = 2 ∨ b % 4 = 3 := by omega
  by_cases h0 : c = 0
  · subst h0
    rcases h with h | h | h | h
    · exact form_zero_0 a b ha hb h
    · exact form_zero_1 a b ha hb h
    · exact form_zero_2 a b ha hb h
    · exact form_zero_3 a b ha hb h
  · obtain ⟨k, rfl⟩ : ∃ k : Nat, c = (k : Int) + 1 := ⟨(c - 1).toNat, by omega⟩
    rcases h with h | h | h | h
    · by_cases hu : a * 1 ≤ k
      · exact form_under_0 a b k ha hb h hc.2 hu
      · exact form_over_0 a b k ha hb h hc.2 hu
    · by_cases hu : a * 8 ≤ k
      · exact form_under_1 a b k ha hb h hc.2 hu
      · exact form_over_1 a b k ha hb h hc.2 hu
    · by_cases hu : a * 64 ≤ k
      · exact form_under_2 a b k ha hb h hc.2 hu
      · exact form_over_2 a b k ha hb h hc.2 hu
    · by_cases hu : a * 1024 ≤ k
      · exact form_under_3 a b k ha hb h hc.2 hu
      · exact form_over_3 a b k ha hb h hc.2 hu
end Go.Proofs
