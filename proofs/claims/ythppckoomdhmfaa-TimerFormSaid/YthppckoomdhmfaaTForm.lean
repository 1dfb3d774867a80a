/-
  What a timer is behind so many ticks.
-/
import Derived.Test.YthppckoomdhmfaaTimerF
set_option linter.all false
set_option linter.unusedVariables false
set_option linter.unusedSimpArgs false
set_option linter.unnecessarySimpa false
namespace Go.Proofs
open Go.Aw

theorem wrap8_mod (n : Int) : IntKind.u8.wrap n = n % 256 := by
  simp only [IntKind.wrap, IntKind.signed, IntKind.bits, Bool.false_and, Bool.false_eq_true, if_false]
  omega

theorem ticks_form (v p : Int) (hv : 0 ≤ v ∧ v ≤ 255) (hp : p = 1 ∨ p = 8 ∨ p = 64 ∨ p = 1024) (k : Nat) :
    TM.ticks (k + 1) ⟨v, p, 1, false, false⟩ = if v * p ≤ k then ⟨255 - (k - v * p) % 256, p, p, true, true⟩ else ⟨v - 1 - k / p, p, p - k % p, false, false⟩ := by
  have one : ∀ n : Int, -3 ≤ n → n ≤ 5000 → IntKind.i64.wrap n = n := fun n h1 h2 => wrap64 (by omega) (by omega)
  induction k with
  | zero =>
    show TM.tick ⟨v, p, 1, false, false⟩ = _
    rcases hp with rfl | rfl | rfl | rfl <;>
    · simp only [TM.tick, Bool.false_eq_true, if_false, wrap8_mod]
      rw [one _ (by omega) (by omega)]
      rw [if_neg (by omega)]
      by_cases h : v = 0
      · rw [if_pos h, if_pos (by omega)]
        simp only [TM.mk.injEq]
        refine ⟨?_, ?_, ?_, ?_, ?_⟩ <;> first | rfl | trivial | omega
      · rw [if_neg h, if_neg (by omega)]
        simp only [TM.mk.injEq]
        refine ⟨?_, ?_, ?_, ?_, ?_⟩ <;> first | rfl | trivial | omega
  | succ k ih =>
    show TM.tick (TM.ticks (k + 1) _) = _
    rw [ih]
    rcases hp with rfl | rfl | rfl | rfl <;>
    · split
      · rename_i h
        rw [if_pos (by omega)]
        simp only [TM.tick, if_true, wrap8_mod, TM.mk.injEq]
        refine ⟨?_, ?_, ?_, ?_, ?_⟩ <;> first | rfl | trivial | omega
      · rename_i h
        simp only [TM.tick, Bool.false_eq_true, if_false, wrap8_mod]
        rw [one _ (by omega) (by omega)]
        split
        · rw [if_neg (by omega)]
          simp only [TM.mk.injEq]
          refine ⟨?_, ?_, ?_, ?_, ?_⟩ <;> first | rfl | trivial | omega
        · split
          · rw [if_pos (by omega)]
            simp only [TM.mk.injEq]
            refine ⟨?_, ?_, ?_, ?_, ?_⟩ <;> first | rfl | trivial | omega
          · rw [if_neg (by omega)]
            simp only [TM.mk.injEq]
            refine ⟨?_, ?_, ?_, ?_, ?_⟩ <;> first | rfl | trivial | omega
end Go.Proofs
