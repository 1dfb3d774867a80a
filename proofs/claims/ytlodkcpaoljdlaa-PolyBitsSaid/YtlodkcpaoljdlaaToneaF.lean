/-
  Walks through the functions of the program, by contract.
-/
import Derived.Test.YtlodkcpaoljdlaaBaseB
import Derived.Test.YtlodkcpaoljdlaaCore20
set_option linter.all false
set_option linter.unusedVariables false
set_option linter.unusedSimpArgs false
set_option linter.unnecessarySimpa false
namespace Go.Proofs
open Go.Aw
set_option maxRecDepth 100000
set_option maxHeartbeats 4000000
theorem width8 : ACalls Try.prog 46 [] [] fun v H => v = .int .i64 8 ∧ H = [] := by
  refine ACalls.code tabOk h46 Try.func46 Try.call46 ok46 ?_
  conv => whnf
  refine ALoop.run 9 ?_
  conv => whnf
  exact ⟨rfl, rfl⟩
theorem width16 : ACalls Try.prog 52 [] [] fun v H => v = .int .i64 16 ∧ H = [] := by
  refine ACalls.code tabOk h52 Try.func52 Try.call52 ok52 ?_
  conv => whnf
  refine ALoop.run 17 ?_
  conv => whnf
  exact ⟨rfl, rfl⟩
theorem poly8_new (n t : Int) (h : 2 ≤ n ∧ n ≤ 8 ∧ 1 ≤ t ∧ t < n) : ACalls Try.prog 14 [.int .i64 n, .int .i64 t] [] fun v H => v = .pointer (some ⟨0, 0, none⟩) ∧ H = [.cells [.int .u8 0, .int .i64 n, .int .i64 t] 76] := by
  refine ACalls.codeN tabOk h14 Try.func14 Try.call14 ok14 [0] ?_
  conv => whnf
  refine Bif.knF ?_ fun h0 => ?_
  · (simp; omega)
  rw [h0]
  conv => whnf
  refine ACalls.useE (width8) [] rfl (by (conv => whnf); try rfl) (by (conv => whnf); try rfl) ?_
  conv => whnf
  refine Bif.knF ?_ fun h1 => ?_
  · (simp; omega)
  rw [h1]
  conv => whnf
  refine Bif.knF ?_ fun h2 => ?_
  · (simp; omega)
  rw [h2]
  conv => whnf
  refine Bif.knF ?_ fun h3 => ?_
  · (simp; omega)
  rw [h3]
  conv => whnf
  exact ⟨rfl, rfl⟩
theorem poly16_new (n t : Int) (h : 2 ≤ n ∧ n ≤ 16 ∧ 1 ≤ t ∧ t < n) : ACalls Try.prog 23 [.int .i64 n, .int .i64 t] [] fun v H => v = .pointer (some ⟨0, 0, none⟩) ∧ H = [.cells [.int .u16 0, .int .i64 n, .int .i64 t] 81] := by
  refine ACalls.codeN tabOk h23 Try.func23 Try.call23 ok23 [0] ?_
  conv => whnf
  refine Bif.knF ?_ fun h0 => ?_
  · (simp; omega)
  rw [h0]
  conv => whnf
  refine ACalls.useE (width16) [] rfl (by (conv => whnf); try rfl) (by (conv => whnf); try rfl) ?_
  conv => whnf
  refine Bif.knF ?_ fun h1 => ?_
  · (simp; omega)
  rw [h1]
  conv => whnf
  refine Bif.knF ?_ fun h2 => ?_
  · (simp; omega)
  rw [h2]
  conv => whnf
  refine Bif.knF ?_ fun h3 => ?_
  · (simp; omega)
  rw [h3]
  conv => whnf
  exact ⟨rfl, rfl⟩
theorem poly8_bad (n t : Int) (h : ¬ (2 ≤ n ∧ n ≤ 8 ∧ 1 ≤ t ∧ t < n)) : ACalls Try.prog 14 [.int .i64 n, .int .i64 t] [] fun v H => v = .pointer none ∧ H = [] := by
  refine ACalls.code tabOk h14 Try.func14 Try.call14 ok14 ?_
  conv => whnf
  refine Bif.of (fun h0 => ?_) fun h0 => ?_
  · rw [h0]
    conv => whnf
    exact ⟨rfl, rfl⟩
  · rw [h0]
    conv => whnf
    refine ACalls.useE (width8) [] rfl (by (conv => whnf); try rfl) (by (conv => whnf); try rfl) ?_
    conv => whnf
    refine Bif.of (fun h1 => ?_) fun h1 => ?_
    · rw [h1]
      conv => whnf
      exact ⟨rfl, rfl⟩
    · rw [h1]
      conv => whnf
      refine Bif.of (fun h2 => ?_) fun h2 => ?_
      · rw [h2]
        conv => whnf
        exact ⟨rfl, rfl⟩
      · rw [h2]
        conv => whnf
        refine Bif.of (fun h3 => ?_) fun h3 => ?_
        · rw [h3]
          conv => whnf
          exact ⟨rfl, rfl⟩
        · rw [h3]
          conv => whnf
          (exfalso; simp at *; omega)
theorem poly16_bad (n t : Int) (h : ¬ (2 ≤ n ∧ n ≤ 16 ∧ 1 ≤ t ∧ t < n)) : ACalls Try.prog 23 [.int .i64 n, .int .i64 t] [] fun v H => v = .pointer none ∧ H = [] := by
  refine ACalls.code tabOk h23 Try.func23 Try.call23 ok23 ?_
  conv => whnf
  refine Bif.of (fun h0 => ?_) fun h0 => ?_
  · rw [h0]
    conv => whnf
    exact ⟨rfl, rfl⟩
  · rw [h0]
    conv => whnf
    refine ACalls.useE (width16) [] rfl (by (conv => whnf); try rfl) (by (conv => whnf); try rfl) ?_
    conv => whnf
    refine Bif.of (fun h1 => ?_) fun h1 => ?_
    · rw [h1]
      conv => whnf
      exact ⟨rfl, rfl⟩
    · rw [h1]
      conv => whnf
      refine Bif.of (fun h2 => ?_) fun h2 => ?_
      · rw [h2]
        conv => whnf
        exact ⟨rfl, rfl⟩
      · rw [h2]
        conv => whnf
        refine Bif.of (fun h3 => ?_) fun h3 => ?_
        · rw [h3]
          conv => whnf
          exact ⟨rfl, rfl⟩
        · rw [h3]
          conv => whnf
          (exfalso; simp at *; omega)
theorem tone_new : ACalls Try.prog 32 [] [] fun v H => v = .pointer (some ⟨0, 0, none⟩) ∧ H = [.cells [.int .u8 0, .int .u8 0, .int .u8 0, .pointer (some ⟨1, 0, none⟩), .pointer (some ⟨2, 0, none⟩), .pointer (some ⟨3, 0, none⟩), .int .i64 0, .bool false] 87,
    .cells [.int .u8 0, .int .i64 4, .int .i64 1] 76, .cells [.int .u8 0, .int .i64 5, .int .i64 2] 76, .cells [.int .u16 0, .int .i64 9, .int .i64 4] 81] := by
  refine ACalls.codeN tabOk h32 Try.func32 Try.call32 ok32 [3, 0, 1, 2] ?_
  conv => whnf
  refine ACalls.useE (poly8_new _ _ ?_) [] rfl (by (conv => whnf); try rfl) (by (conv => whnf); try rfl) ?_
  · decide
  conv => whnf
  refine ACalls.useE (poly8_new _ _ ?_) [] rfl (by (conv => whnf); try rfl) (by (conv => whnf); try rfl) ?_
  · decide
  conv => whnf
  refine ACalls.useE (poly16_new _ _ ?_) [] rfl (by (conv => whnf); try rfl) (by (conv => whnf); try rfl) ?_
  · decide
  conv => whnf
  exact ⟨rfl, rfl⟩
end Go.Proofs
