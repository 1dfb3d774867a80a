/-
  Walks through the functions of the program, by contract.
-/
import Derived.Test.YtlodkcpaoljdlaaPlcF
set_option linter.all false
set_option linter.unusedVariables false
set_option linter.unusedSimpArgs false
set_option linter.unnecessarySimpa false
namespace Go.Proofs
open Go.Aw
set_option maxRecDepth 100000
set_option maxHeartbeats 4000000
theorem least {p : Nat → Prop} [DecidablePred p] : ∀ n, p n → ∃ m, m ≤ n ∧ p m ∧ ∀ k, k < m → ¬ p k := by
  intro n
  induction n using Nat.strongRecOn with
  | _ n ih =>
    intro h
    by_cases he : ∃ k, k < n ∧ p k
    · obtain ⟨k, hk, hp⟩ := he
      obtain ⟨m, h1, h2, h3⟩ := ih k hk hp
      exact ⟨m, by omega, h2, h3⟩
    · exact ⟨n, Nat.le_refl _, h, fun k hk hp => he ⟨k, hk, hp⟩⟩
def slow5 (s : Int) : Bool := s == it5 0 || s == it5 18
theorem it5_31 : it5 31 = 0 := by decide +kernel
theorem it5_18 : ∀ k, k < 18 → it5 k ≠ it5 18 := by decide +kernel
theorem place_five (b s : Int) : ∃ (k : Int) (q : Bool), (q && (k == 0 || k == 18)) = slow5 s ∧ ACalls Try.prog 48 [.pointer (some ⟨0, 0, none⟩), .int .u8 s] [.cells [.int .u8 b, .int .i64 5, .int .i64 2] 76] fun v H => v = .tuple #[.int .i64 k, .bool q] ∧ H = [.cells [.int .u8 b, .int .i64 5, .int .i64 2] 76] := by
  obtain ⟨k0, h1, h2, h3⟩ := least (p := fun k => it5 k = s ∨ (it5 k = 0 ∧ 0 < k)) 31 (.inr ⟨it5_31, by omega⟩)
  refine ⟨_, _, ?_, place5 b s k0 h1 (fun k hk => ⟨fun e => h3 k hk (.inl e), ?_⟩) h2⟩
  · unfold slow5
    by_cases he : it5 k0 = s
    · rw [if_pos he]
      simp only [he, decide_true, Bool.true_and]
      have e0 : ((k0 : Int) == 0) = (s == it5 0) := by
        by_cases hk : k0 = 0
        · subst hk; simp [← he]
        · have : s ≠ it5 0 := fun e => h3 0 (by omega) (.inl e.symm)
          rw [show ((k0 : Int) == 0) = false from beq_eq_false_iff_ne.2 (by omega), beq_eq_false_iff_ne.2 this]
      have e18 : ((k0 : Int) == 18) = (s == it5 18) := by
        by_cases hk : k0 = 18
        · subst hk; simp [← he]
        · have : s ≠ it5 18 := fun e => by
            by_cases hlt : k0 < 18
            · exact it5_18 k0 hlt (he.trans e)
            · exact h3 18 (by omega) (.inl e.symm)
          rw [show ((k0 : Int) == 18) = false from beq_eq_false_iff_ne.2 (by omega), beq_eq_false_iff_ne.2 this]
      rw [e0, e18]
    · rw [if_neg he]
      have hk : it5 k0 = 0 ∧ 0 < k0 := h2.resolve_left he
      have n0 : s ≠ it5 0 := fun e => h3 0 hk.2 (.inl e.symm)
      have n18 : s ≠ it5 18 := fun e => by
        by_cases hlt : k0 < 18
        · exact absurd hk.1 ((by decide +kernel : ∀ k, k < 18 → 0 < k → it5 k ≠ 0) k0 hlt hk.2)
        · by_cases h18 : k0 = 18
          · subst h18; exact he e.symm
          · exact h3 18 (by omega) (.inl e.symm)
      rw [beq_eq_false_iff_ne.2 n0, beq_eq_false_iff_ne.2 n18, decide_eq_false he]; rfl
  · by_cases hk0 : k = 0
    · exact .inl hk0
    · exact .inr fun e => h3 k hk (.inr ⟨e, by omega⟩)

theorem tone_slow (c r w a b d k : Int) (h : Bool) : ACalls Try.prog 69 [.pointer (some ⟨0, 0, none⟩)] [.cells [.int .u8 c, .int .u8 r, .int .u8 w, .pointer (some ⟨1, 0, none⟩), .pointer (some ⟨2, 0, none⟩), .pointer (some ⟨3, 0, none⟩), .int .i64 k, .bool h] 87, .cells [.int .u8 a, .int .i64 4, .int .i64 1] 76, .cells [.int .u8 b, .int .i64 5, .int .i64 2] 76, .cells [.int .u16 d, .int .i64 9, .int .i64 4] 81] fun v H => v = .bool (slow5 b) ∧ H = [.cells [.int .u8 c, .int .u8 r, .int .u8 w, .pointer (some ⟨1, 0, none⟩), .pointer (some ⟨2, 0, none⟩), .pointer (some ⟨3, 0, none⟩), .int .i64 k, .bool h] 87, .cells [.int .u8 a, .int .i64 4, .int .i64 1] 76, .cells [.int .u8 b, .int .i64 5, .int .i64 2] 76, .cells [.int .u16 d, .int .i64 9, .int .i64 4] 81] := by
  obtain ⟨n, q, hq, hc⟩ := place_five b b
  rw [← hq]
  refine ACalls.code tabOk h69 Try.func69 Try.call69 ok69 ?_
  conv => whnf
  refine ACalls.code tabOk h17 Try.func17 Try.call17 ok17 ?_
  conv => whnf
  refine ⟨rfl, ?_⟩
  conv => whnf
  refine ACalls.useE (hc) [2] rfl (by (conv => whnf); try rfl) (by (conv => whnf); try rfl) ?_
  conv => whnf
  refine Bif.of (fun h0 => ?_) fun h0 => ?_
  · rw [h0]
    conv => whnf
    refine Bif.of (fun h1 => ?_) fun h1 => ?_
    · rw [h1]
      conv => whnf
      exact ⟨rfl, rfl⟩
    · rw [h1]
      conv => whnf
      exact ⟨rfl, rfl⟩
  · rw [h0]
    conv => whnf
    exact ⟨rfl, rfl⟩
end Go.Proofs
