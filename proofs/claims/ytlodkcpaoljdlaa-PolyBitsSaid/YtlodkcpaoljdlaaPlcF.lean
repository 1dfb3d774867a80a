/-
  Walks through the functions of the program, by contract.
-/
import Derived.Test.YtlodkcpaoljdlaaTonedF
import Derived.Test.YtlodkcpaoljdlaaCore26
set_option linter.all false
set_option linter.unusedVariables false
set_option linter.unusedSimpArgs false
set_option linter.unnecessarySimpa false
namespace Go.Proofs
open Go.Aw
set_option maxRecDepth 100000
set_option maxHeartbeats 4000000
def h48x : Hints := []
theorem ok48x : okO T h48x (bodyOf Try.f48) = true := by kernel_rfl
def it5 : Nat → Int
  | 0 => 0
  | n + 1 => nx8 5 2 (it5 n)
theorem poly8_states (s0 n t s : Int) : ACalls Try.prog 64 [.pointer (some ⟨0, 0, none⟩), .int .u8 s] [.cells [.int .u8 s0, .int .i64 n, .int .i64 t] 76] fun v H => v = .func (.func 71) #[] #[.pointer (some ⟨2, 0, none⟩), .pointer (some ⟨1, 0, none⟩)] ∧ H = [.cells [.int .u8 s0, .int .i64 n, .int .i64 t] 76, .cells [.pointer (some ⟨0, 0, none⟩)] 24, .cells [.int .u8 s] 5] := by
  refine ACalls.codeN tabOk h64 Try.func64 Try.call64 ok64 [0, 1, 2] ?_
  conv => whnf
  exact ⟨rfl, rfl⟩
def hk5 (b s : Int) (n k : Nat) : List Blk := [.cells [.int .u8 b, .int .i64 5, .int .i64 2] 76, .cells [.int .u8 s] 5, .cells [.int .i64 0] 3, .cells [.bool false] 4, .cells [.int .i64 n] 3, .cells [.pointer (some ⟨0, 0, none⟩)] 24, .cells [.int .u8 (it5 k)] 5]
theorem place5 (b : Int) (s : Int) (k0 : Nat) (hlt : k0 ≤ 31) (hb : ∀ k, k < k0 → it5 k ≠ s ∧ (k = 0 ∨ it5 k ≠ 0)) (he : it5 k0 = s ∨ (it5 k0 = 0 ∧ 0 < k0)) : ACalls Try.prog 48 [.pointer (some ⟨0, 0, none⟩), .int .u8 s] [.cells [.int .u8 b, .int .i64 5, .int .i64 2] 76] fun v H => v = .tuple #[.int .i64 (if it5 k0 = s then k0 else 0), .bool (decide (it5 k0 = s))] ∧ H = [.cells [.int .u8 b, .int .i64 5, .int .i64 2] 76] := by
  refine ACalls.codeR tabOk h48x Try.func48 Try.call48 rfl ok48x ?_
  conv => whnf
  refine ACalls.useE (poly8_states _ _ _ _) [0] rfl (by (conv => whnf); try rfl) (by (conv => whnf); try rfl) ?_
  conv => whnf
  refine ARange.states tabOk h48x Try.func71 rfl rfl rfl Try.call47 Try.call71 6 5 0 rfl (k0 + 1) (by omega) (fun k => hk5 b s k k) (fun k => hk5 b s (k + 1) k) .u8 it5 rfl (fun _ => rfl) (fun _ => rfl) ?_ ?_ ?_ ?_ ?_ rfl rfl rfl rfl (by simp) ?_
  · intro k; conv => whnf
  · intro k; conv => whnf
  · intro k; conv => whnf
  · intro k
    unfold hk5
    refine ACalls.useE (poly8_next b 5 2 (it5 k) (by omega)) [0] rfl (by (conv => whnf); try rfl) (by (conv => whnf); try rfl) ?_
    conv => whnf
    exact ⟨rfl, rfl⟩
  · intro k; conv => whnf
    rfl
  · intro k hk
    rw [← AWpR_eq, ← AWpR_eq]
    have ek : k ≤ 31 → IntKind.i64.wrap ((k : Int) + 1) = ((k + 1 : Nat) : Int) := fun h => by rw [wrap64 (by omega) (by omega)]; rfl
    by_cases hlast : k = k0
    · subst hlast
      by_cases hs : it5 k = s
      · conv => whnf
        refine Bif.knT ?_ fun h0 => ?_
        · (simp [hs]; done)
        rw [h0]
        conv => whnf
        (simp [hs]; done)
      · have h0 : it5 k = 0 ∧ 0 < k := he.resolve_left hs
        have h1 : (k : Int) > 0 := by omega
        conv => whnf
        refine Bif.knF ?_ fun h0 => ?_
        · (simp [hs]; done)
        rw [h0]
        conv => whnf
        refine Bif.knT ?_ fun h1 => ?_
        · (simp [h1]; omega)
        rw [h1]
        conv => whnf
        refine Bif.knT ?_ fun h2 => ?_
        · (simp [h1]; omega)
        rw [h2]
        conv => whnf
        (simp [hs]; done)
    · have h2 := hb k (by omega)
      have ek1 := ek (by omega)
      rcases h2.2 with h3 | h3
      · subst h3
        conv => whnf
        refine Bif.knF ?_ fun h0 => ?_
        · (simp [h2.1]; done)
        rw [h0]
        conv => whnf
        (rw [ek1]; exact ⟨by omega, List.replicate 27 (.chan none), .inl ⟨rfl, trivial, rfl, rfl, rfl, rfl, rfl, rfl, rfl, rfl, rfl, rfl, rfl, rfl, rfl, rfl, trivial⟩⟩)
      · conv => whnf
        refine Bif.knF ?_ fun h0 => ?_
        · (simp [h2.1]; done)
        rw [h0]
        conv => whnf
        refine Bif.knF ?_ fun h1 => ?_
        · (simp [h3]; done)
        rw [h1]
        conv => whnf
        (rw [ek1]; exact ⟨by omega, List.replicate 27 (.chan none), .inl ⟨rfl, trivial, rfl, rfl, rfl, rfl, rfl, rfl, rfl, rfl, rfl, rfl, rfl, rfl, rfl, rfl, trivial⟩⟩)
end Go.Proofs
