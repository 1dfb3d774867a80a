/-
  Walks through the functions of the program, by contract.
-/
import Derived.Test.YtmdiokmkokjpiaaGreatZuF
set_option linter.all false
set_option linter.unusedVariables false
set_option linter.unusedSimpArgs false
set_option linter.unnecessarySimpa false
namespace Go.Proofs
open Go.Aw
set_option maxRecDepth 100000
set_option maxHeartbeats 8000000
theorem or16 (m : Int) (hm : 0 ≤ m ∧ m ≤ 65535) (c : Nat) (hc : c < 65536) : bits .or .u16 m (c : Nat) = ((m.toNat ||| c : Nat) : Int) := by
  show IntKind.u16.wrap ((BitVec.ofInt 16 m ||| BitVec.ofInt 16 (c : Nat)).toNat : Int) = _
  have h1 : (BitVec.ofInt 16 m).toNat = m.toNat := by have := ofInt_toNat 16 m; omega
  have h2 : (BitVec.ofInt 16 (c : Nat)).toNat = c := by have := ofInt_toNat 16 (c : Nat); omega
  rw [BitVec.toNat_or, h1, h2]
  have hlt : m.toNat ||| c < 2 ^ 16 := Nat.or_lt_two_pow (by omega) (by omega)
  rw [wrap16 (by omega) (by omega)]
theorem tb_or (m : Int) (hm : 0 ≤ m ∧ m ≤ 65535) (c : Nat) (hc : c < 65536) : tb (bits .or .u16 m (c : Nat)) 13 = 1 ↔ (tb m 13 = 1 ∨ c / 8192 % 2 = 1) := by
  rw [or16 m hm c hc]
  obtain ⟨n, rfl⟩ : ∃ n : Nat, m = n := ⟨m.toNat, by omega⟩
  rw [Int.toNat_natCast]
  have h := Nat.testBit_or n c 13
  rw [Nat.testBit_eq_decide_div_mod_eq, Nat.testBit_eq_decide_div_mod_eq, Nat.testBit_eq_decide_div_mod_eq] at h
  have e1 : ∀ x : Nat, (tb (x : Nat) 13 = 1 ↔ x / 2 ^ 13 % 2 = 1) := fun x => by unfold tb; omega
  rw [e1, e1]
  have h2 : decide ((n ||| c) / 2 ^ 13 % 2 = 1) = true ↔ (decide (n / 2 ^ 13 % 2 = 1) || decide (c / 2 ^ 13 % 2 = 1)) = true := by rw [h]
  rw [Bool.or_eq_true, decide_eq_true_iff, decide_eq_true_iff, decide_eq_true_iff] at h2
  exact h2
theorem mtI_13 (s : TS) (hm : 0 ≤ s.met ∧ s.met ≤ 65535) (x : Int) : tb (mtI s x) 13 = 1 ↔ (tb s.met 13 = 1 ∨ (plB0 s = true ∧ plB1 s = true)) := by
  unfold mtI
  generalize plB0 s = d0
  generalize plB1 s = d1
  generalize pfB s x = d5
  have key : ∀ c : Nat, meetN d0 d1 false false false d5 15 = ((c : Nat) : Int) → c < 65536 → (c / 8192 % 2 = 1 ↔ d0 = true ∧ d1 = true) → (tb (bits .or .u16 s.met (meetN d0 d1 false false false d5 15)) 13 = 1 ↔ (tb s.met 13 = 1 ∨ (d0 = true ∧ d1 = true))) := by
    intro c hc hl h
    rw [hc, tb_or s.met hm c hl, h]
  refine key (meetN d0 d1 false false false d5 15).toNat ?_ ?_ ?_ <;> cases d0 <;> cases d1 <;> cases d5 <;> decide
/-- The meeting of the players, over some steps. -/
theorem stpN_met (s : TS) (hs : s.Top) (h0 : tb s.met 13 = 0) : ∀ j, tb (stpN j s).met 13 = 1 ↔ ∃ i, i < j ∧ 68 ≤ (stpN i s).c ∧ plB0 (stpN i s) = true ∧ plB1 (stpN i s) = true
  | 0 => by
    constructor
    · intro h; rw [stpN, h0] at h; cases h
    · rintro ⟨i, hi, _⟩; omega
  | j + 1 => by
    have ih := stpN_met s hs h0 j
    have hm := (stpN_top hs j).met
    rw [stpN, stp_met]
    by_cases hc : (stpN j s).c < 68
    · rw [if_pos hc, ih]
      constructor
      · rintro ⟨i, hi, h⟩; exact ⟨i, by omega, h⟩
      · rintro ⟨i, hi, h1, h2⟩
        by_cases he : i = j
        · subst he; omega
        · exact ⟨i, by omega, h1, h2⟩
    · rw [if_neg hc, mtI_13 _ hm, ih]
      constructor
      · rintro (⟨i, hi, h⟩ | ⟨h1, h2⟩)
        · exact ⟨i, by omega, h⟩
        · exact ⟨j, by omega, by omega, h1, h2⟩
      · rintro ⟨i, hi, h1, h2⟩
        by_cases he : i = j
        · subst he; exact .inr h2
        · exact .inl ⟨i, by omega, h1, h2⟩
end Go.Proofs
