/-
  Walks through the functions of the program, by contract.
-/
import Derived.Test.YtlodkcpaoljdlaaBeatF
set_option linter.all false
set_option linter.unusedVariables false
set_option linter.unusedSimpArgs false
set_option linter.unnecessarySimpa false
namespace Go.Proofs
open Go.Aw
set_option maxRecDepth 100000
set_option maxHeartbeats 4000000
def VT.tickG (c L : Int) (s : VT) : VT := if L ≤ s.k + 1 then VT.beatG c { s with k := 0 } else { s with k := s.k + 1 }
theorem tone_tickG0 (r w a b d k : Int) (h : Bool) (hr : 0 ≤ r ∧ r ≤ 31) (hk : 0 ≤ k ∧ k ≤ 95) : ACalls Try.prog 45 [.pointer (some ⟨0, 0, none⟩)] [.cells [.int .u8 0, .int .u8 r, .int .u8 w, .pointer (some ⟨1, 0, none⟩), .pointer (some ⟨2, 0, none⟩), .pointer (some ⟨3, 0, none⟩), .int .i64 k, .bool h] 87, .cells [.int .u8 a, .int .i64 4, .int .i64 1] 76, .cells [.int .u8 b, .int .i64 5, .int .i64 2] 76, .cells [.int .u16 d, .int .i64 9, .int .i64 4] 81] fun v H => v = .tuple #[] ∧ H = [.cells [.int .u8 0, .int .u8 r, .int .u8 w, .pointer (some ⟨1, 0, none⟩), .pointer (some ⟨2, 0, none⟩), .pointer (some ⟨3, 0, none⟩), .int .i64 (VT.tickG 0 (r + 1) ⟨a, b, d, k, h⟩).k, .bool (VT.tickG 0 (r + 1) ⟨a, b, d, k, h⟩).h] 87, .cells [.int .u8 (VT.tickG 0 (r + 1) ⟨a, b, d, k, h⟩).a, .int .i64 4, .int .i64 1] 76, .cells [.int .u8 (VT.tickG 0 (r + 1) ⟨a, b, d, k, h⟩).b, .int .i64 5, .int .i64 2] 76, .cells [.int .u16 (VT.tickG 0 (r + 1) ⟨a, b, d, k, h⟩).d, .int .i64 9, .int .i64 4] 81] := by
  have ek : IntKind.i64.wrap (k + 1) = k + 1 := wrap64 (by omega) (by omega)
  have er : IntKind.i64.wrap (IntKind.i64.wrap r + 1) = r + 1 := by rw [wrap64 (n := r) (by omega) (by omega), wrap64 (by omega) (by omega)]
  by_cases hc : r + 1 ≤ k + 1
  · have e : VT.tickG 0 (r + 1) ⟨a, b, d, k, h⟩ = VT.beatG 0 ⟨a, b, d, 0, h⟩ := by unfold VT.tickG; rw [if_pos hc]
    rw [e]
    refine ACalls.code tabOk h45 Try.func45 Try.call45 ok45 ?_
    conv => whnf
    refine ACalls.code tabOk h62 Try.func62 Try.call62 ok62 ?_
    conv => whnf
    rw [ek]
    conv => whnf
    rw [er]
    conv => whnf
    refine ⟨rfl, ?_⟩
    conv => whnf
    refine Bif.knT ?_ fun h0 => ?_
    · (simp; omega)
    rw [h0]
    conv => whnf
    refine ACalls.useE (tone_beat0 _ _ _ _ _ _ _) [0, 1, 2, 3] rfl (by (conv => whnf); try rfl) (by (conv => whnf); try rfl) ?_
    conv => whnf
    exact ⟨rfl, rfl⟩
  · have e : VT.tickG 0 (r + 1) ⟨a, b, d, k, h⟩ = ⟨a, b, d, k + 1, h⟩ := by unfold VT.tickG; rw [if_neg hc]
    rw [e]
    refine ACalls.code tabOk h45 Try.func45 Try.call45 ok45 ?_
    conv => whnf
    refine ACalls.code tabOk h62 Try.func62 Try.call62 ok62 ?_
    conv => whnf
    rw [ek]
    conv => whnf
    rw [er]
    conv => whnf
    refine ⟨rfl, ?_⟩
    conv => whnf
    refine Bif.knF ?_ fun h0 => ?_
    · (simp; omega)
    rw [h0]
    conv => whnf
    exact ⟨rfl, rfl⟩
theorem tone_tickG1 (r w a b d k : Int) (h : Bool) (hr : 0 ≤ r ∧ r ≤ 31) (hk : 0 ≤ k ∧ k ≤ 95) : ACalls Try.prog 45 [.pointer (some ⟨0, 0, none⟩)] [.cells [.int .u8 1, .int .u8 r, .int .u8 w, .pointer (some ⟨1, 0, none⟩), .pointer (some ⟨2, 0, none⟩), .pointer (some ⟨3, 0, none⟩), .int .i64 k, .bool h] 87, .cells [.int .u8 a, .int .i64 4, .int .i64 1] 76, .cells [.int .u8 b, .int .i64 5, .int .i64 2] 76, .cells [.int .u16 d, .int .i64 9, .int .i64 4] 81] fun v H => v = .tuple #[] ∧ H = [.cells [.int .u8 1, .int .u8 r, .int .u8 w, .pointer (some ⟨1, 0, none⟩), .pointer (some ⟨2, 0, none⟩), .pointer (some ⟨3, 0, none⟩), .int .i64 (VT.tickG 1 (r + 1) ⟨a, b, d, k, h⟩).k, .bool (VT.tickG 1 (r + 1) ⟨a, b, d, k, h⟩).h] 87, .cells [.int .u8 (VT.tickG 1 (r + 1) ⟨a, b, d, k, h⟩).a, .int .i64 4, .int .i64 1] 76, .cells [.int .u8 (VT.tickG 1 (r + 1) ⟨a, b, d, k, h⟩).b, .int .i64 5, .int .i64 2] 76, .cells [.int .u16 (VT.tickG 1 (r + 1) ⟨a, b, d, k, h⟩).d, .int .i64 9, .int .i64 4] 81] := by
  have ek : IntKind.i64.wrap (k + 1) = k + 1 := wrap64 (by omega) (by omega)
  have er : IntKind.i64.wrap (IntKind.i64.wrap r + 1) = r + 1 := by rw [wrap64 (n := r) (by omega) (by omega), wrap64 (by omega) (by omega)]
  by_cases hc : r + 1 ≤ k + 1
  · have e : VT.tickG 1 (r + 1) ⟨a, b, d, k, h⟩ = VT.beatG 1 ⟨a, b, d, 0, h⟩ := by unfold VT.tickG; rw [if_pos hc]
    rw [e]
    refine ACalls.code tabOk h45 Try.func45 Try.call45 ok45 ?_
    conv => whnf
    refine ACalls.code tabOk h62 Try.func62 Try.call62 ok62 ?_
    conv => whnf
    rw [ek]
    conv => whnf
    rw [er]
    conv => whnf
    refine ⟨rfl, ?_⟩
    conv => whnf
    refine Bif.knT ?_ fun h0 => ?_
    · (simp; omega)
    rw [h0]
    conv => whnf
    refine ACalls.useE (tone_beat1 _ _ _ _ _ _ _) [0, 1, 2, 3] rfl (by (conv => whnf); try rfl) (by (conv => whnf); try rfl) ?_
    conv => whnf
    exact ⟨rfl, rfl⟩
  · have e : VT.tickG 1 (r + 1) ⟨a, b, d, k, h⟩ = ⟨a, b, d, k + 1, h⟩ := by unfold VT.tickG; rw [if_neg hc]
    rw [e]
    refine ACalls.code tabOk h45 Try.func45 Try.call45 ok45 ?_
    conv => whnf
    refine ACalls.code tabOk h62 Try.func62 Try.call62 ok62 ?_
    conv => whnf
    rw [ek]
    conv => whnf
    rw [er]
    conv => whnf
    refine ⟨rfl, ?_⟩
    conv => whnf
    refine Bif.knF ?_ fun h0 => ?_
    · (simp; omega)
    rw [h0]
    conv => whnf
    exact ⟨rfl, rfl⟩
theorem tone_tickG2 (r w a b d k : Int) (h : Bool) (hr : 0 ≤ r ∧ r ≤ 31) (hk : 0 ≤ k ∧ k ≤ 95) : ACalls Try.prog 45 [.pointer (some ⟨0, 0, none⟩)] [.cells [.int .u8 2, .int .u8 r, .int .u8 w, .pointer (some ⟨1, 0, none⟩), .pointer (some ⟨2, 0, none⟩), .pointer (some ⟨3, 0, none⟩), .int .i64 k, .bool h] 87, .cells [.int .u8 a, .int .i64 4, .int .i64 1] 76, .cells [.int .u8 b, .int .i64 5, .int .i64 2] 76, .cells [.int .u16 d, .int .i64 9, .int .i64 4] 81] fun v H => v = .tuple #[] ∧ H = [.cells [.int .u8 2, .int .u8 r, .int .u8 w, .pointer (some ⟨1, 0, none⟩), .pointer (some ⟨2, 0, none⟩), .pointer (some ⟨3, 0, none⟩), .int .i64 (VT.tickG 2 (r + 1) ⟨a, b, d, k, h⟩).k, .bool (VT.tickG 2 (r + 1) ⟨a, b, d, k, h⟩).h] 87, .cells [.int .u8 (VT.tickG 2 (r + 1) ⟨a, b, d, k, h⟩).a, .int .i64 4, .int .i64 1] 76, .cells [.int .u8 (VT.tickG 2 (r + 1) ⟨a, b, d, k, h⟩).b, .int .i64 5, .int .i64 2] 76, .cells [.int .u16 (VT.tickG 2 (r + 1) ⟨a, b, d, k, h⟩).d, .int .i64 9, .int .i64 4] 81] := by
  have ek : IntKind.i64.wrap (k + 1) = k + 1 := wrap64 (by omega) (by omega)
  have er : IntKind.i64.wrap (IntKind.i64.wrap r + 1) = r + 1 := by rw [wrap64 (n := r) (by omega) (by omega), wrap64 (by omega) (by omega)]
  by_cases hc : r + 1 ≤ k + 1
  · have e : VT.tickG 2 (r + 1) ⟨a, b, d, k, h⟩ = VT.beatG 2 ⟨a, b, d, 0, h⟩ := by unfold VT.tickG; rw [if_pos hc]
    rw [e]
    refine ACalls.code tabOk h45 Try.func45 Try.call45 ok45 ?_
    conv => whnf
    refine ACalls.code tabOk h62 Try.func62 Try.call62 ok62 ?_
    conv => whnf
    rw [ek]
    conv => whnf
    rw [er]
    conv => whnf
    refine ⟨rfl, ?_⟩
    conv => whnf
    refine Bif.knT ?_ fun h0 => ?_
    · (simp; omega)
    rw [h0]
    conv => whnf
    refine ACalls.useE (tone_beat2 _ _ _ _ _ _ _) [0, 1, 2, 3] rfl (by (conv => whnf); try rfl) (by (conv => whnf); try rfl) ?_
    conv => whnf
    exact ⟨rfl, rfl⟩
  · have e : VT.tickG 2 (r + 1) ⟨a, b, d, k, h⟩ = ⟨a, b, d, k + 1, h⟩ := by unfold VT.tickG; rw [if_neg hc]
    rw [e]
    refine ACalls.code tabOk h45 Try.func45 Try.call45 ok45 ?_
    conv => whnf
    refine ACalls.code tabOk h62 Try.func62 Try.call62 ok62 ?_
    conv => whnf
    rw [ek]
    conv => whnf
    rw [er]
    conv => whnf
    refine ⟨rfl, ?_⟩
    conv => whnf
    refine Bif.knF ?_ fun h0 => ?_
    · (simp; omega)
    rw [h0]
    conv => whnf
    exact ⟨rfl, rfl⟩
theorem tone_tickG3 (r w a b d k : Int) (h : Bool) (hr : 0 ≤ r ∧ r ≤ 31) (hk : 0 ≤ k ∧ k ≤ 95) : ACalls Try.prog 45 [.pointer (some ⟨0, 0, none⟩)] [.cells [.int .u8 3, .int .u8 r, .int .u8 w, .pointer (some ⟨1, 0, none⟩), .pointer (some ⟨2, 0, none⟩), .pointer (some ⟨3, 0, none⟩), .int .i64 k, .bool h] 87, .cells [.int .u8 a, .int .i64 4, .int .i64 1] 76, .cells [.int .u8 b, .int .i64 5, .int .i64 2] 76, .cells [.int .u16 d, .int .i64 9, .int .i64 4] 81] fun v H => v = .tuple #[] ∧ H = [.cells [.int .u8 3, .int .u8 r, .int .u8 w, .pointer (some ⟨1, 0, none⟩), .pointer (some ⟨2, 0, none⟩), .pointer (some ⟨3, 0, none⟩), .int .i64 (VT.tickG 3 (r + 1) ⟨a, b, d, k, h⟩).k, .bool (VT.tickG 3 (r + 1) ⟨a, b, d, k, h⟩).h] 87, .cells [.int .u8 (VT.tickG 3 (r + 1) ⟨a, b, d, k, h⟩).a, .int .i64 4, .int .i64 1] 76, .cells [.int .u8 (VT.tickG 3 (r + 1) ⟨a, b, d, k, h⟩).b, .int .i64 5, .int .i64 2] 76, .cells [.int .u16 (VT.tickG 3 (r + 1) ⟨a, b, d, k, h⟩).d, .int .i64 9, .int .i64 4] 81] := by
  have ek : IntKind.i64.wrap (k + 1) = k + 1 := wrap64 (by omega) (by omega)
  have er : IntKind.i64.wrap (IntKind.i64.wrap r + 1) = r + 1 := by rw [wrap64 (n := r) (by omega) (by omega), wrap64 (by omega) (by omega)]
  by_cases hc : r + 1 ≤ k + 1
  · have e : VT.tickG 3 (r + 1) ⟨a, b, d, k, h⟩ = VT.beatG 3 ⟨a, b, d, 0, h⟩ := by unfold VT.tickG; rw [if_pos hc]
    rw [e]
    refine ACalls.code tabOk h45 Try.func45 Try.call45 ok45 ?_
    conv => whnf
    refine ACalls.code tabOk h62 Try.func62 Try.call62 ok62 ?_
    conv => whnf
    rw [ek]
    conv => whnf
    rw [er]
    conv => whnf
    refine ⟨rfl, ?_⟩
    conv => whnf
    refine Bif.knT ?_ fun h0 => ?_
    · (simp; omega)
    rw [h0]
    conv => whnf
    refine ACalls.useE (tone_beat3 _ _ _ _ _ _ _) [0, 1, 2, 3] rfl (by (conv => whnf); try rfl) (by (conv => whnf); try rfl) ?_
    conv => whnf
    exact ⟨rfl, rfl⟩
  · have e : VT.tickG 3 (r + 1) ⟨a, b, d, k, h⟩ = ⟨a, b, d, k + 1, h⟩ := by unfold VT.tickG; rw [if_neg hc]
    rw [e]
    refine ACalls.code tabOk h45 Try.func45 Try.call45 ok45 ?_
    conv => whnf
    refine ACalls.code tabOk h62 Try.func62 Try.call62 ok62 ?_
    conv => whnf
    rw [ek]
    conv => whnf
    rw [er]
    conv => whnf
    refine ⟨rfl, ?_⟩
    conv => whnf
    refine Bif.knF ?_ fun h0 => ?_
    · (simp; omega)
    rw [h0]
    conv => whnf
    exact ⟨rfl, rfl⟩
theorem tone_tickG4 (r w a b d k : Int) (h : Bool) (hr : 0 ≤ r ∧ r ≤ 31) (hk : 0 ≤ k ∧ k ≤ 95) : ACalls Try.prog 45 [.pointer (some ⟨0, 0, none⟩)] [.cells [.int .u8 4, .int .u8 r, .int .u8 w, .pointer (some ⟨1, 0, none⟩), .pointer (some ⟨2, 0, none⟩), .pointer (some ⟨3, 0, none⟩), .int .i64 k, .bool h] 87, .cells [.int .u8 a, .int .i64 4, .int .i64 1] 76, .cells [.int .u8 b, .int .i64 5, .int .i64 2] 76, .cells [.int .u16 d, .int .i64 9, .int .i64 4] 81] fun v H => v = .tuple #[] ∧ H = [.cells [.int .u8 4, .int .u8 r, .int .u8 w, .pointer (some ⟨1, 0, none⟩), .pointer (some ⟨2, 0, none⟩), .pointer (some ⟨3, 0, none⟩), .int .i64 (VT.tickG 4 (r + 1) ⟨a, b, d, k, h⟩).k, .bool (VT.tickG 4 (r + 1) ⟨a, b, d, k, h⟩).h] 87, .cells [.int .u8 (VT.tickG 4 (r + 1) ⟨a, b, d, k, h⟩).a, .int .i64 4, .int .i64 1] 76, .cells [.int .u8 (VT.tickG 4 (r + 1) ⟨a, b, d, k, h⟩).b, .int .i64 5, .int .i64 2] 76, .cells [.int .u16 (VT.tickG 4 (r + 1) ⟨a, b, d, k, h⟩).d, .int .i64 9, .int .i64 4] 81] := by
  have ek : IntKind.i64.wrap (k + 1) = k + 1 := wrap64 (by omega) (by omega)
  have er : IntKind.i64.wrap (IntKind.i64.wrap r + 1) = r + 1 := by rw [wrap64 (n := r) (by omega) (by omega), wrap64 (by omega) (by omega)]
  by_cases hc : r + 1 ≤ k + 1
  · have e : VT.tickG 4 (r + 1) ⟨a, b, d, k, h⟩ = VT.beatG 4 ⟨a, b, d, 0, h⟩ := by unfold VT.tickG; rw [if_pos hc]
    rw [e]
    refine ACalls.code tabOk h45 Try.func45 Try.call45 ok45 ?_
    conv => whnf
    refine ACalls.code tabOk h62 Try.func62 Try.call62 ok62 ?_
    conv => whnf
    rw [ek]
    conv => whnf
    rw [er]
    conv => whnf
    refine ⟨rfl, ?_⟩
    conv => whnf
    refine Bif.knT ?_ fun h0 => ?_
    · (simp; omega)
    rw [h0]
    conv => whnf
    refine ACalls.useE (tone_beat4 _ _ _ _ _ _ _) [0, 1, 2, 3] rfl (by (conv => whnf); try rfl) (by (conv => whnf); try rfl) ?_
    conv => whnf
    exact ⟨rfl, rfl⟩
  · have e : VT.tickG 4 (r + 1) ⟨a, b, d, k, h⟩ = ⟨a, b, d, k + 1, h⟩ := by unfold VT.tickG; rw [if_neg hc]
    rw [e]
    refine ACalls.code tabOk h45 Try.func45 Try.call45 ok45 ?_
    conv => whnf
    refine ACalls.code tabOk h62 Try.func62 Try.call62 ok62 ?_
    conv => whnf
    rw [ek]
    conv => whnf
    rw [er]
    conv => whnf
    refine ⟨rfl, ?_⟩
    conv => whnf
    refine Bif.knF ?_ fun h0 => ?_
    · (simp; omega)
    rw [h0]
    conv => whnf
    exact ⟨rfl, rfl⟩
theorem tone_tickG5 (r w a b d k : Int) (h : Bool) (hr : 0 ≤ r ∧ r ≤ 31) (hk : 0 ≤ k ∧ k ≤ 95) : ACalls Try.prog 45 [.pointer (some ⟨0, 0, none⟩)] [.cells [.int .u8 5, .int .u8 r, .int .u8 w, .pointer (some ⟨1, 0, none⟩), .pointer (some ⟨2, 0, none⟩), .pointer (some ⟨3, 0, none⟩), .int .i64 k, .bool h] 87, .cells [.int .u8 a, .int .i64 4, .int .i64 1] 76, .cells [.int .u8 b, .int .i64 5, .int .i64 2] 76, .cells [.int .u16 d, .int .i64 9, .int .i64 4] 81] fun v H => v = .tuple #[] ∧ H = [.cells [.int .u8 5, .int .u8 r, .int .u8 w, .pointer (some ⟨1, 0, none⟩), .pointer (some ⟨2, 0, none⟩), .pointer (some ⟨3, 0, none⟩), .int .i64 (VT.tickG 5 (r + 1) ⟨a, b, d, k, h⟩).k, .bool (VT.tickG 5 (r + 1) ⟨a, b, d, k, h⟩).h] 87, .cells [.int .u8 (VT.tickG 5 (r + 1) ⟨a, b, d, k, h⟩).a, .int .i64 4, .int .i64 1] 76, .cells [.int .u8 (VT.tickG 5 (r + 1) ⟨a, b, d, k, h⟩).b, .int .i64 5, .int .i64 2] 76, .cells [.int .u16 (VT.tickG 5 (r + 1) ⟨a, b, d, k, h⟩).d, .int .i64 9, .int .i64 4] 81] := by
  have ek : IntKind.i64.wrap (k + 1) = k + 1 := wrap64 (by omega) (by omega)
  have er : IntKind.i64.wrap (IntKind.i64.wrap r + 1) = r + 1 := by rw [wrap64 (n := r) (by omega) (by omega), wrap64 (by omega) (by omega)]
  by_cases hc : r + 1 ≤ k + 1
  · have e : VT.tickG 5 (r + 1) ⟨a, b, d, k, h⟩ = VT.beatG 5 ⟨a, b, d, 0, h⟩ := by unfold VT.tickG; rw [if_pos hc]
    rw [e]
    refine ACalls.code tabOk h45 Try.func45 Try.call45 ok45 ?_
    conv => whnf
    refine ACalls.code tabOk h62 Try.func62 Try.call62 ok62 ?_
    conv => whnf
    rw [ek]
    conv => whnf
    rw [er]
    conv => whnf
    refine ⟨rfl, ?_⟩
    conv => whnf
    refine Bif.knT ?_ fun h0 => ?_
    · (simp; omega)
    rw [h0]
    conv => whnf
    refine ACalls.useE (tone_beat5 _ _ _ _ _ _ _) [0, 1, 2, 3] rfl (by (conv => whnf); try rfl) (by (conv => whnf); try rfl) ?_
    conv => whnf
    exact ⟨rfl, rfl⟩
  · have e : VT.tickG 5 (r + 1) ⟨a, b, d, k, h⟩ = ⟨a, b, d, k + 1, h⟩ := by unfold VT.tickG; rw [if_neg hc]
    rw [e]
    refine ACalls.code tabOk h45 Try.func45 Try.call45 ok45 ?_
    conv => whnf
    refine ACalls.code tabOk h62 Try.func62 Try.call62 ok62 ?_
    conv => whnf
    rw [ek]
    conv => whnf
    rw [er]
    conv => whnf
    refine ⟨rfl, ?_⟩
    conv => whnf
    refine Bif.knF ?_ fun h0 => ?_
    · (simp; omega)
    rw [h0]
    conv => whnf
    exact ⟨rfl, rfl⟩
theorem tone_tickG6 (r w a b d k : Int) (h : Bool) (hr : 0 ≤ r ∧ r ≤ 31) (hk : 0 ≤ k ∧ k ≤ 95) : ACalls Try.prog 45 [.pointer (some ⟨0, 0, none⟩)] [.cells [.int .u8 6, .int .u8 r, .int .u8 w, .pointer (some ⟨1, 0, none⟩), .pointer (some ⟨2, 0, none⟩), .pointer (some ⟨3, 0, none⟩), .int .i64 k, .bool h] 87, .cells [.int .u8 a, .int .i64 4, .int .i64 1] 76, .cells [.int .u8 b, .int .i64 5, .int .i64 2] 76, .cells [.int .u16 d, .int .i64 9, .int .i64 4] 81] fun v H => v = .tuple #[] ∧ H = [.cells [.int .u8 6, .int .u8 r, .int .u8 w, .pointer (some ⟨1, 0, none⟩), .pointer (some ⟨2, 0, none⟩), .pointer (some ⟨3, 0, none⟩), .int .i64 (VT.tickG 6 (r + 1) ⟨a, b, d, k, h⟩).k, .bool (VT.tickG 6 (r + 1) ⟨a, b, d, k, h⟩).h] 87, .cells [.int .u8 (VT.tickG 6 (r + 1) ⟨a, b, d, k, h⟩).a, .int .i64 4, .int .i64 1] 76, .cells [.int .u8 (VT.tickG 6 (r + 1) ⟨a, b, d, k, h⟩).b, .int .i64 5, .int .i64 2] 76, .cells [.int .u16 (VT.tickG 6 (r + 1) ⟨a, b, d, k, h⟩).d, .int .i64 9, .int .i64 4] 81] := by
  have ek : IntKind.i64.wrap (k + 1) = k + 1 := wrap64 (by omega) (by omega)
  have er : IntKind.i64.wrap (IntKind.i64.wrap r + 1) = r + 1 := by rw [wrap64 (n := r) (by omega) (by omega), wrap64 (by omega) (by omega)]
  by_cases hc : r + 1 ≤ k + 1
  · have e : VT.tickG 6 (r + 1) ⟨a, b, d, k, h⟩ = VT.beatG 6 ⟨a, b, d, 0, h⟩ := by unfold VT.tickG; rw [if_pos hc]
    rw [e]
    refine ACalls.code tabOk h45 Try.func45 Try.call45 ok45 ?_
    conv => whnf
    refine ACalls.code tabOk h62 Try.func62 Try.call62 ok62 ?_
    conv => whnf
    rw [ek]
    conv => whnf
    rw [er]
    conv => whnf
    refine ⟨rfl, ?_⟩
    conv => whnf
    refine Bif.knT ?_ fun h0 => ?_
    · (simp; omega)
    rw [h0]
    conv => whnf
    refine ACalls.useE (tone_beat6 _ _ _ _ _ _ _) [0, 1, 2, 3] rfl (by (conv => whnf); try rfl) (by (conv => whnf); try rfl) ?_
    conv => whnf
    exact ⟨rfl, rfl⟩
  · have e : VT.tickG 6 (r + 1) ⟨a, b, d, k, h⟩ = ⟨a, b, d, k + 1, h⟩ := by unfold VT.tickG; rw [if_neg hc]
    rw [e]
    refine ACalls.code tabOk h45 Try.func45 Try.call45 ok45 ?_
    conv => whnf
    refine ACalls.code tabOk h62 Try.func62 Try.call62 ok62 ?_
    conv => whnf
    rw [ek]
    conv => whnf
    rw [er]
    conv => whnf
    refine ⟨rfl, ?_⟩
    conv => whnf
    refine Bif.knF ?_ fun h0 => ?_
    · (simp; omega)
    rw [h0]
    conv => whnf
    exact ⟨rfl, rfl⟩
theorem tone_tickG7 (r w a b d k : Int) (h : Bool) (hr : 0 ≤ r ∧ r ≤ 31) (hk : 0 ≤ k ∧ k ≤ 95) : ACalls Try.prog 45 [.pointer (some ⟨0, 0, none⟩)] [.cells [.int .u8 7, .int .u8 r, .int .u8 w, .pointer (some ⟨1, 0, none⟩), .pointer (some ⟨2, 0, none⟩), .pointer (some ⟨3, 0, none⟩), .int .i64 k, .bool h] 87, .cells [.int .u8 a, .int .i64 4, .int .i64 1] 76, .cells [.int .u8 b, .int .i64 5, .int .i64 2] 76, .cells [.int .u16 d, .int .i64 9, .int .i64 4] 81] fun v H => v = .tuple #[] ∧ H = [.cells [.int .u8 7, .int .u8 r, .int .u8 w, .pointer (some ⟨1, 0, none⟩), .pointer (some ⟨2, 0, none⟩), .pointer (some ⟨3, 0, none⟩), .int .i64 (VT.tickG 7 (r + 1) ⟨a, b, d, k, h⟩).k, .bool (VT.tickG 7 (r + 1) ⟨a, b, d, k, h⟩).h] 87, .cells [.int .u8 (VT.tickG 7 (r + 1) ⟨a, b, d, k, h⟩).a, .int .i64 4, .int .i64 1] 76, .cells [.int .u8 (VT.tickG 7 (r + 1) ⟨a, b, d, k, h⟩).b, .int .i64 5, .int .i64 2] 76, .cells [.int .u16 (VT.tickG 7 (r + 1) ⟨a, b, d, k, h⟩).d, .int .i64 9, .int .i64 4] 81] := by
  have ek : IntKind.i64.wrap (k + 1) = k + 1 := wrap64 (by omega) (by omega)
  have er : IntKind.i64.wrap (IntKind.i64.wrap r + 1) = r + 1 := by rw [wrap64 (n := r) (by omega) (by omega), wrap64 (by omega) (by omega)]
  by_cases hc : r + 1 ≤ k + 1
  · have e : VT.tickG 7 (r + 1) ⟨a, b, d, k, h⟩ = VT.beatG 7 ⟨a, b, d, 0, h⟩ := by unfold VT.tickG; rw [if_pos hc]
    rw [e]
    refine ACalls.code tabOk h45 Try.func45 Try.call45 ok45 ?_
    conv => whnf
    refine ACalls.code tabOk h62 Try.func62 Try.call62 ok62 ?_
    conv => whnf
    rw [ek]
    conv => whnf
    rw [er]
    conv => whnf
    refine ⟨rfl, ?_⟩
    conv => whnf
    refine Bif.knT ?_ fun h0 => ?_
    · (simp; omega)
    rw [h0]
    conv => whnf
    refine ACalls.useE (tone_beat7 _ _ _ _ _ _ _) [0, 1, 2, 3] rfl (by (conv => whnf); try rfl) (by (conv => whnf); try rfl) ?_
    conv => whnf
    exact ⟨rfl, rfl⟩
  · have e : VT.tickG 7 (r + 1) ⟨a, b, d, k, h⟩ = ⟨a, b, d, k + 1, h⟩ := by unfold VT.tickG; rw [if_neg hc]
    rw [e]
    refine ACalls.code tabOk h45 Try.func45 Try.call45 ok45 ?_
    conv => whnf
    refine ACalls.code tabOk h62 Try.func62 Try.call62 ok62 ?_
    conv => whnf
    rw [ek]
    conv => whnf
    rw [er]
    conv => whnf
    refine ⟨rfl, ?_⟩
    conv => whnf
    refine Bif.knF ?_ fun h0 => ?_
    · (simp; omega)
    rw [h0]
    conv => whnf
    exact ⟨rfl, rfl⟩
theorem tone_tickG8 (r w a b d k : Int) (h : Bool) (hr : 0 ≤ r ∧ r ≤ 31) (hk : 0 ≤ k ∧ k ≤ 95) : ACalls Try.prog 45 [.pointer (some ⟨0, 0, none⟩)] [.cells [.int .u8 8, .int .u8 r, .int .u8 w, .pointer (some ⟨1, 0, none⟩), .pointer (some ⟨2, 0, none⟩), .pointer (some ⟨3, 0, none⟩), .int .i64 k, .bool h] 87, .cells [.int .u8 a, .int .i64 4, .int .i64 1] 76, .cells [.int .u8 b, .int .i64 5, .int .i64 2] 76, .cells [.int .u16 d, .int .i64 9, .int .i64 4] 81] fun v H => v = .tuple #[] ∧ H = [.cells [.int .u8 8, .int .u8 r, .int .u8 w, .pointer (some ⟨1, 0, none⟩), .pointer (some ⟨2, 0, none⟩), .pointer (some ⟨3, 0, none⟩), .int .i64 (VT.tickG 8 (r + 1) ⟨a, b, d, k, h⟩).k, .bool (VT.tickG 8 (r + 1) ⟨a, b, d, k, h⟩).h] 87, .cells [.int .u8 (VT.tickG 8 (r + 1) ⟨a, b, d, k, h⟩).a, .int .i64 4, .int .i64 1] 76, .cells [.int .u8 (VT.tickG 8 (r + 1) ⟨a, b, d, k, h⟩).b, .int .i64 5, .int .i64 2] 76, .cells [.int .u16 (VT.tickG 8 (r + 1) ⟨a, b, d, k, h⟩).d, .int .i64 9, .int .i64 4] 81] := by
  have ek : IntKind.i64.wrap (k + 1) = k + 1 := wrap64 (by omega) (by omega)
  have er : IntKind.i64.wrap (IntKind.i64.wrap r + 1) = r + 1 := by rw [wrap64 (n := r) (by omega) (by omega), wrap64 (by omega) (by omega)]
  by_cases hc : r + 1 ≤ k + 1
  · have e : VT.tickG 8 (r + 1) ⟨a, b, d, k, h⟩ = VT.beatG 8 ⟨a, b, d, 0, h⟩ := by unfold VT.tickG; rw [if_pos hc]
    rw [e]
    refine ACalls.code tabOk h45 Try.func45 Try.call45 ok45 ?_
    conv => whnf
    refine ACalls.code tabOk h62 Try.func62 Try.call62 ok62 ?_
    conv => whnf
    rw [ek]
    conv => whnf
    rw [er]
    conv => whnf
    refine ⟨rfl, ?_⟩
    conv => whnf
    refine Bif.knT ?_ fun h0 => ?_
    · (simp; omega)
    rw [h0]
    conv => whnf
    refine ACalls.useE (tone_beat8 _ _ _ _ _ _ _) [0, 1, 2, 3] rfl (by (conv => whnf); try rfl) (by (conv => whnf); try rfl) ?_
    conv => whnf
    exact ⟨rfl, rfl⟩
  · have e : VT.tickG 8 (r + 1) ⟨a, b, d, k, h⟩ = ⟨a, b, d, k + 1, h⟩ := by unfold VT.tickG; rw [if_neg hc]
    rw [e]
    refine ACalls.code tabOk h45 Try.func45 Try.call45 ok45 ?_
    conv => whnf
    refine ACalls.code tabOk h62 Try.func62 Try.call62 ok62 ?_
    conv => whnf
    rw [ek]
    conv => whnf
    rw [er]
    conv => whnf
    refine ⟨rfl, ?_⟩
    conv => whnf
    refine Bif.knF ?_ fun h0 => ?_
    · (simp; omega)
    rw [h0]
    conv => whnf
    exact ⟨rfl, rfl⟩
theorem tone_tickG9 (r w a b d k : Int) (h : Bool) (hr : 0 ≤ r ∧ r ≤ 31) (hk : 0 ≤ k ∧ k ≤ 95) : ACalls Try.prog 45 [.pointer (some ⟨0, 0, none⟩)] [.cells [.int .u8 9, .int .u8 r, .int .u8 w, .pointer (some ⟨1, 0, none⟩), .pointer (some ⟨2, 0, none⟩), .pointer (some ⟨3, 0, none⟩), .int .i64 k, .bool h] 87, .cells [.int .u8 a, .int .i64 4, .int .i64 1] 76, .cells [.int .u8 b, .int .i64 5, .int .i64 2] 76, .cells [.int .u16 d, .int .i64 9, .int .i64 4] 81] fun v H => v = .tuple #[] ∧ H = [.cells [.int .u8 9, .int .u8 r, .int .u8 w, .pointer (some ⟨1, 0, none⟩), .pointer (some ⟨2, 0, none⟩), .pointer (some ⟨3, 0, none⟩), .int .i64 (VT.tickG 9 (r + 1) ⟨a, b, d, k, h⟩).k, .bool (VT.tickG 9 (r + 1) ⟨a, b, d, k, h⟩).h] 87, .cells [.int .u8 (VT.tickG 9 (r + 1) ⟨a, b, d, k, h⟩).a, .int .i64 4, .int .i64 1] 76, .cells [.int .u8 (VT.tickG 9 (r + 1) ⟨a, b, d, k, h⟩).b, .int .i64 5, .int .i64 2] 76, .cells [.int .u16 (VT.tickG 9 (r + 1) ⟨a, b, d, k, h⟩).d, .int .i64 9, .int .i64 4] 81] := by
  have ek : IntKind.i64.wrap (k + 1) = k + 1 := wrap64 (by omega) (by omega)
  have er : IntKind.i64.wrap (IntKind.i64.wrap r + 1) = r + 1 := by rw [wrap64 (n := r) (by omega) (by omega), wrap64 (by omega) (by omega)]
  by_cases hc : r + 1 ≤ k + 1
  · have e : VT.tickG 9 (r + 1) ⟨a, b, d, k, h⟩ = VT.beatG 9 ⟨a, b, d, 0, h⟩ := by unfold VT.tickG; rw [if_pos hc]
    rw [e]
    refine ACalls.code tabOk h45 Try.func45 Try.call45 ok45 ?_
    conv => whnf
    refine ACalls.code tabOk h62 Try.func62 Try.call62 ok62 ?_
    conv => whnf
    rw [ek]
    conv => whnf
    rw [er]
    conv => whnf
    refine ⟨rfl, ?_⟩
    conv => whnf
    refine Bif.knT ?_ fun h0 => ?_
    · (simp; omega)
    rw [h0]
    conv => whnf
    refine ACalls.useE (tone_beat9 _ _ _ _ _ _ _) [0, 1, 2, 3] rfl (by (conv => whnf); try rfl) (by (conv => whnf); try rfl) ?_
    conv => whnf
    exact ⟨rfl, rfl⟩
  · have e : VT.tickG 9 (r + 1) ⟨a, b, d, k, h⟩ = ⟨a, b, d, k + 1, h⟩ := by unfold VT.tickG; rw [if_neg hc]
    rw [e]
    refine ACalls.code tabOk h45 Try.func45 Try.call45 ok45 ?_
    conv => whnf
    refine ACalls.code tabOk h62 Try.func62 Try.call62 ok62 ?_
    conv => whnf
    rw [ek]
    conv => whnf
    rw [er]
    conv => whnf
    refine ⟨rfl, ?_⟩
    conv => whnf
    refine Bif.knF ?_ fun h0 => ?_
    · (simp; omega)
    rw [h0]
    conv => whnf
    exact ⟨rfl, rfl⟩
theorem tone_tickG10 (r w a b d k : Int) (h : Bool) (hr : 0 ≤ r ∧ r ≤ 31) (hk : 0 ≤ k ∧ k ≤ 95) : ACalls Try.prog 45 [.pointer (some ⟨0, 0, none⟩)] [.cells [.int .u8 10, .int .u8 r, .int .u8 w, .pointer (some ⟨1, 0, none⟩), .pointer (some ⟨2, 0, none⟩), .pointer (some ⟨3, 0, none⟩), .int .i64 k, .bool h] 87, .cells [.int .u8 a, .int .i64 4, .int .i64 1] 76, .cells [.int .u8 b, .int .i64 5, .int .i64 2] 76, .cells [.int .u16 d, .int .i64 9, .int .i64 4] 81] fun v H => v = .tuple #[] ∧ H = [.cells [.int .u8 10, .int .u8 r, .int .u8 w, .pointer (some ⟨1, 0, none⟩), .pointer (some ⟨2, 0, none⟩), .pointer (some ⟨3, 0, none⟩), .int .i64 (VT.tickG 10 (r + 1) ⟨a, b, d, k, h⟩).k, .bool (VT.tickG 10 (r + 1) ⟨a, b, d, k, h⟩).h] 87, .cells [.int .u8 (VT.tickG 10 (r + 1) ⟨a, b, d, k, h⟩).a, .int .i64 4, .int .i64 1] 76, .cells [.int .u8 (VT.tickG 10 (r + 1) ⟨a, b, d, k, h⟩).b, .int .i64 5, .int .i64 2] 76, .cells [.int .u16 (VT.tickG 10 (r + 1) ⟨a, b, d, k, h⟩).d, .int .i64 9, .int .i64 4] 81] := by
  have ek : IntKind.i64.wrap (k + 1) = k + 1 := wrap64 (by omega) (by omega)
  have er : IntKind.i64.wrap (IntKind.i64.wrap r + 1) = r + 1 := by rw [wrap64 (n := r) (by omega) (by omega), wrap64 (by omega) (by omega)]
  by_cases hc : r + 1 ≤ k + 1
  · have e : VT.tickG 10 (r + 1) ⟨a, b, d, k, h⟩ = VT.beatG 10 ⟨a, b, d, 0, h⟩ := by unfold VT.tickG; rw [if_pos hc]
    rw [e]
    refine ACalls.code tabOk h45 Try.func45 Try.call45 ok45 ?_
    conv => whnf
    refine ACalls.code tabOk h62 Try.func62 Try.call62 ok62 ?_
    conv => whnf
    rw [ek]
    conv => whnf
    rw [er]
    conv => whnf
    refine ⟨rfl, ?_⟩
    conv => whnf
    refine Bif.knT ?_ fun h0 => ?_
    · (simp; omega)
    rw [h0]
    conv => whnf
    refine ACalls.useE (tone_beat10 _ _ _ _ _ _ _) [0, 1, 2, 3] rfl (by (conv => whnf); try rfl) (by (conv => whnf); try rfl) ?_
    conv => whnf
    exact ⟨rfl, rfl⟩
  · have e : VT.tickG 10 (r + 1) ⟨a, b, d, k, h⟩ = ⟨a, b, d, k + 1, h⟩ := by unfold VT.tickG; rw [if_neg hc]
    rw [e]
    refine ACalls.code tabOk h45 Try.func45 Try.call45 ok45 ?_
    conv => whnf
    refine ACalls.code tabOk h62 Try.func62 Try.call62 ok62 ?_
    conv => whnf
    rw [ek]
    conv => whnf
    rw [er]
    conv => whnf
    refine ⟨rfl, ?_⟩
    conv => whnf
    refine Bif.knF ?_ fun h0 => ?_
    · (simp; omega)
    rw [h0]
    conv => whnf
    exact ⟨rfl, rfl⟩
theorem tone_tickG11 (r w a b d k : Int) (h : Bool) (hr : 0 ≤ r ∧ r ≤ 31) (hk : 0 ≤ k ∧ k ≤ 95) : ACalls Try.prog 45 [.pointer (some ⟨0, 0, none⟩)] [.cells [.int .u8 11, .int .u8 r, .int .u8 w, .pointer (some ⟨1, 0, none⟩), .pointer (some ⟨2, 0, none⟩), .pointer (some ⟨3, 0, none⟩), .int .i64 k, .bool h] 87, .cells [.int .u8 a, .int .i64 4, .int .i64 1] 76, .cells [.int .u8 b, .int .i64 5, .int .i64 2] 76, .cells [.int .u16 d, .int .i64 9, .int .i64 4] 81] fun v H => v = .tuple #[] ∧ H = [.cells [.int .u8 11, .int .u8 r, .int .u8 w, .pointer (some ⟨1, 0, none⟩), .pointer (some ⟨2, 0, none⟩), .pointer (some ⟨3, 0, none⟩), .int .i64 (VT.tickG 11 (r + 1) ⟨a, b, d, k, h⟩).k, .bool (VT.tickG 11 (r + 1) ⟨a, b, d, k, h⟩).h] 87, .cells [.int .u8 (VT.tickG 11 (r + 1) ⟨a, b, d, k, h⟩).a, .int .i64 4, .int .i64 1] 76, .cells [.int .u8 (VT.tickG 11 (r + 1) ⟨a, b, d, k, h⟩).b, .int .i64 5, .int .i64 2] 76, .cells [.int .u16 (VT.tickG 11 (r + 1) ⟨a, b, d, k, h⟩).d, .int .i64 9, .int .i64 4] 81] := by
  have ek : IntKind.i64.wrap (k + 1) = k + 1 := wrap64 (by omega) (by omega)
  have er : IntKind.i64.wrap (IntKind.i64.wrap r + 1) = r + 1 := by rw [wrap64 (n := r) (by omega) (by omega), wrap64 (by omega) (by omega)]
  by_cases hc : r + 1 ≤ k + 1
  · have e : VT.tickG 11 (r + 1) ⟨a, b, d, k, h⟩ = VT.beatG 11 ⟨a, b, d, 0, h⟩ := by unfold VT.tickG; rw [if_pos hc]
    rw [e]
    refine ACalls.code tabOk h45 Try.func45 Try.call45 ok45 ?_
    conv => whnf
    refine ACalls.code tabOk h62 Try.func62 Try.call62 ok62 ?_
    conv => whnf
    rw [ek]
    conv => whnf
    rw [er]
    conv => whnf
    refine ⟨rfl, ?_⟩
    conv => whnf
    refine Bif.knT ?_ fun h0 => ?_
    · (simp; omega)
    rw [h0]
    conv => whnf
    refine ACalls.useE (tone_beat11 _ _ _ _ _ _ _) [0, 1, 2, 3] rfl (by (conv => whnf); try rfl) (by (conv => whnf); try rfl) ?_
    conv => whnf
    exact ⟨rfl, rfl⟩
  · have e : VT.tickG 11 (r + 1) ⟨a, b, d, k, h⟩ = ⟨a, b, d, k + 1, h⟩ := by unfold VT.tickG; rw [if_neg hc]
    rw [e]
    refine ACalls.code tabOk h45 Try.func45 Try.call45 ok45 ?_
    conv => whnf
    refine ACalls.code tabOk h62 Try.func62 Try.call62 ok62 ?_
    conv => whnf
    rw [ek]
    conv => whnf
    rw [er]
    conv => whnf
    refine ⟨rfl, ?_⟩
    conv => whnf
    refine Bif.knF ?_ fun h0 => ?_
    · (simp; omega)
    rw [h0]
    conv => whnf
    exact ⟨rfl, rfl⟩
theorem tone_tickG12 (r w a b d k : Int) (h : Bool) (hr : 0 ≤ r ∧ r ≤ 31) (hk : 0 ≤ k ∧ k ≤ 95) : ACalls Try.prog 45 [.pointer (some ⟨0, 0, none⟩)] [.cells [.int .u8 12, .int .u8 r, .int .u8 w, .pointer (some ⟨1, 0, none⟩), .pointer (some ⟨2, 0, none⟩), .pointer (some ⟨3, 0, none⟩), .int .i64 k, .bool h] 87, .cells [.int .u8 a, .int .i64 4, .int .i64 1] 76, .cells [.int .u8 b, .int .i64 5, .int .i64 2] 76, .cells [.int .u16 d, .int .i64 9, .int .i64 4] 81] fun v H => v = .tuple #[] ∧ H = [.cells [.int .u8 12, .int .u8 r, .int .u8 w, .pointer (some ⟨1, 0, none⟩), .pointer (some ⟨2, 0, none⟩), .pointer (some ⟨3, 0, none⟩), .int .i64 (VT.tickG 12 ((r + 1) * 3) ⟨a, b, d, k, h⟩).k, .bool (VT.tickG 12 ((r + 1) * 3) ⟨a, b, d, k, h⟩).h] 87, .cells [.int .u8 (VT.tickG 12 ((r + 1) * 3) ⟨a, b, d, k, h⟩).a, .int .i64 4, .int .i64 1] 76, .cells [.int .u8 (VT.tickG 12 ((r + 1) * 3) ⟨a, b, d, k, h⟩).b, .int .i64 5, .int .i64 2] 76, .cells [.int .u16 (VT.tickG 12 ((r + 1) * 3) ⟨a, b, d, k, h⟩).d, .int .i64 9, .int .i64 4] 81] := by
  have ek : IntKind.i64.wrap (k + 1) = k + 1 := wrap64 (by omega) (by omega)
  have er : IntKind.i64.wrap (IntKind.i64.wrap (IntKind.i64.wrap r + 1) * 3) = (r + 1) * 3 := by rw [wrap64 (n := r) (by omega) (by omega), wrap64 (n := r + 1) (by omega) (by omega), wrap64 (by omega) (by omega)]
  by_cases hc : (r + 1) * 3 ≤ k + 1
  · have e : VT.tickG 12 ((r + 1) * 3) ⟨a, b, d, k, h⟩ = VT.beatG 12 ⟨a, b, d, 0, h⟩ := by unfold VT.tickG; rw [if_pos hc]
    rw [e]
    refine ACalls.code tabOk h45 Try.func45 Try.call45 ok45 ?_
    conv => whnf
    refine ACalls.code tabOk h62 Try.func62 Try.call62 ok62 ?_
    conv => whnf
    rw [ek]
    conv => whnf
    rw [er]
    conv => whnf
    refine ⟨rfl, ?_⟩
    conv => whnf
    refine Bif.knT ?_ fun h0 => ?_
    · (simp; omega)
    rw [h0]
    conv => whnf
    refine ACalls.useE (tone_beat12 _ _ _ _ _ _ _) [0, 1, 2, 3] rfl (by (conv => whnf); try rfl) (by (conv => whnf); try rfl) ?_
    conv => whnf
    exact ⟨rfl, rfl⟩
  · have e : VT.tickG 12 ((r + 1) * 3) ⟨a, b, d, k, h⟩ = ⟨a, b, d, k + 1, h⟩ := by unfold VT.tickG; rw [if_neg hc]
    rw [e]
    refine ACalls.code tabOk h45 Try.func45 Try.call45 ok45 ?_
    conv => whnf
    refine ACalls.code tabOk h62 Try.func62 Try.call62 ok62 ?_
    conv => whnf
    rw [ek]
    conv => whnf
    rw [er]
    conv => whnf
    refine ⟨rfl, ?_⟩
    conv => whnf
    refine Bif.knF ?_ fun h0 => ?_
    · (simp; omega)
    rw [h0]
    conv => whnf
    exact ⟨rfl, rfl⟩
theorem tone_tickG13 (r w a b d k : Int) (h : Bool) (hr : 0 ≤ r ∧ r ≤ 31) (hk : 0 ≤ k ∧ k ≤ 95) : ACalls Try.prog 45 [.pointer (some ⟨0, 0, none⟩)] [.cells [.int .u8 13, .int .u8 r, .int .u8 w, .pointer (some ⟨1, 0, none⟩), .pointer (some ⟨2, 0, none⟩), .pointer (some ⟨3, 0, none⟩), .int .i64 k, .bool h] 87, .cells [.int .u8 a, .int .i64 4, .int .i64 1] 76, .cells [.int .u8 b, .int .i64 5, .int .i64 2] 76, .cells [.int .u16 d, .int .i64 9, .int .i64 4] 81] fun v H => v = .tuple #[] ∧ H = [.cells [.int .u8 13, .int .u8 r, .int .u8 w, .pointer (some ⟨1, 0, none⟩), .pointer (some ⟨2, 0, none⟩), .pointer (some ⟨3, 0, none⟩), .int .i64 (VT.tickG 13 ((r + 1) * 3) ⟨a, b, d, k, h⟩).k, .bool (VT.tickG 13 ((r + 1) * 3) ⟨a, b, d, k, h⟩).h] 87, .cells [.int .u8 (VT.tickG 13 ((r + 1) * 3) ⟨a, b, d, k, h⟩).a, .int .i64 4, .int .i64 1] 76, .cells [.int .u8 (VT.tickG 13 ((r + 1) * 3) ⟨a, b, d, k, h⟩).b, .int .i64 5, .int .i64 2] 76, .cells [.int .u16 (VT.tickG 13 ((r + 1) * 3) ⟨a, b, d, k, h⟩).d, .int .i64 9, .int .i64 4] 81] := by
  have ek : IntKind.i64.wrap (k + 1) = k + 1 := wrap64 (by omega) (by omega)
  have er : IntKind.i64.wrap (IntKind.i64.wrap (IntKind.i64.wrap r + 1) * 3) = (r + 1) * 3 := by rw [wrap64 (n := r) (by omega) (by omega), wrap64 (n := r + 1) (by omega) (by omega), wrap64 (by omega) (by omega)]
  by_cases hc : (r + 1) * 3 ≤ k + 1
  · have e : VT.tickG 13 ((r + 1) * 3) ⟨a, b, d, k, h⟩ = VT.beatG 13 ⟨a, b, d, 0, h⟩ := by unfold VT.tickG; rw [if_pos hc]
    rw [e]
    refine ACalls.code tabOk h45 Try.func45 Try.call45 ok45 ?_
    conv => whnf
    refine ACalls.code tabOk h62 Try.func62 Try.call62 ok62 ?_
    conv => whnf
    rw [ek]
    conv => whnf
    rw [er]
    conv => whnf
    refine ⟨rfl, ?_⟩
    conv => whnf
    refine Bif.knT ?_ fun h0 => ?_
    · (simp; omega)
    rw [h0]
    conv => whnf
    refine ACalls.useE (tone_beat13 _ _ _ _ _ _ _) [0, 1, 2, 3] rfl (by (conv => whnf); try rfl) (by (conv => whnf); try rfl) ?_
    conv => whnf
    exact ⟨rfl, rfl⟩
  · have e : VT.tickG 13 ((r + 1) * 3) ⟨a, b, d, k, h⟩ = ⟨a, b, d, k + 1, h⟩ := by unfold VT.tickG; rw [if_neg hc]
    rw [e]
    refine ACalls.code tabOk h45 Try.func45 Try.call45 ok45 ?_
    conv => whnf
    refine ACalls.code tabOk h62 Try.func62 Try.call62 ok62 ?_
    conv => whnf
    rw [ek]
    conv => whnf
    rw [er]
    conv => whnf
    refine ⟨rfl, ?_⟩
    conv => whnf
    refine Bif.knF ?_ fun h0 => ?_
    · (simp; omega)
    rw [h0]
    conv => whnf
    exact ⟨rfl, rfl⟩
theorem tone_tickG14 (r w a b d k : Int) (h : Bool) (hr : 0 ≤ r ∧ r ≤ 31) (hk : 0 ≤ k ∧ k ≤ 95) : ACalls Try.prog 45 [.pointer (some ⟨0, 0, none⟩)] [.cells [.int .u8 14, .int .u8 r, .int .u8 w, .pointer (some ⟨1, 0, none⟩), .pointer (some ⟨2, 0, none⟩), .pointer (some ⟨3, 0, none⟩), .int .i64 k, .bool h] 87, .cells [.int .u8 a, .int .i64 4, .int .i64 1] 76, .cells [.int .u8 b, .int .i64 5, .int .i64 2] 76, .cells [.int .u16 d, .int .i64 9, .int .i64 4] 81] fun v H => v = .tuple #[] ∧ H = [.cells [.int .u8 14, .int .u8 r, .int .u8 w, .pointer (some ⟨1, 0, none⟩), .pointer (some ⟨2, 0, none⟩), .pointer (some ⟨3, 0, none⟩), .int .i64 (VT.tickG 14 ((r + 1) * 3) ⟨a, b, d, k, h⟩).k, .bool (VT.tickG 14 ((r + 1) * 3) ⟨a, b, d, k, h⟩).h] 87, .cells [.int .u8 (VT.tickG 14 ((r + 1) * 3) ⟨a, b, d, k, h⟩).a, .int .i64 4, .int .i64 1] 76, .cells [.int .u8 (VT.tickG 14 ((r + 1) * 3) ⟨a, b, d, k, h⟩).b, .int .i64 5, .int .i64 2] 76, .cells [.int .u16 (VT.tickG 14 ((r + 1) * 3) ⟨a, b, d, k, h⟩).d, .int .i64 9, .int .i64 4] 81] := by
  have ek : IntKind.i64.wrap (k + 1) = k + 1 := wrap64 (by omega) (by omega)
  have er : IntKind.i64.wrap (IntKind.i64.wrap (IntKind.i64.wrap r + 1) * 3) = (r + 1) * 3 := by rw [wrap64 (n := r) (by omega) (by omega), wrap64 (n := r + 1) (by omega) (by omega), wrap64 (by omega) (by omega)]
  by_cases hc : (r + 1) * 3 ≤ k + 1
  · have e : VT.tickG 14 ((r + 1) * 3) ⟨a, b, d, k, h⟩ = VT.beatG 14 ⟨a, b, d, 0, h⟩ := by unfold VT.tickG; rw [if_pos hc]
    rw [e]
    refine ACalls.code tabOk h45 Try.func45 Try.call45 ok45 ?_
    conv => whnf
    refine ACalls.code tabOk h62 Try.func62 Try.call62 ok62 ?_
    conv => whnf
    rw [ek]
    conv => whnf
    rw [er]
    conv => whnf
    refine ⟨rfl, ?_⟩
    conv => whnf
    refine Bif.knT ?_ fun h0 => ?_
    · (simp; omega)
    rw [h0]
    conv => whnf
    refine ACalls.useE (tone_beat14 _ _ _ _ _ _ _) [0, 1, 2, 3] rfl (by (conv => whnf); try rfl) (by (conv => whnf); try rfl) ?_
    conv => whnf
    exact ⟨rfl, rfl⟩
  · have e : VT.tickG 14 ((r + 1) * 3) ⟨a, b, d, k, h⟩ = ⟨a, b, d, k + 1, h⟩ := by unfold VT.tickG; rw [if_neg hc]
    rw [e]
    refine ACalls.code tabOk h45 Try.func45 Try.call45 ok45 ?_
    conv => whnf
    refine ACalls.code tabOk h62 Try.func62 Try.call62 ok62 ?_
    conv => whnf
    rw [ek]
    conv => whnf
    rw [er]
    conv => whnf
    refine ⟨rfl, ?_⟩
    conv => whnf
    refine Bif.knF ?_ fun h0 => ?_
    · (simp; omega)
    rw [h0]
    conv => whnf
    exact ⟨rfl, rfl⟩
theorem tone_tickG15 (r w a b d k : Int) (h : Bool) (hr : 0 ≤ r ∧ r ≤ 31) (hk : 0 ≤ k ∧ k ≤ 95) : ACalls Try.prog 45 [.pointer (some ⟨0, 0, none⟩)] [.cells [.int .u8 15, .int .u8 r, .int .u8 w, .pointer (some ⟨1, 0, none⟩), .pointer (some ⟨2, 0, none⟩), .pointer (some ⟨3, 0, none⟩), .int .i64 k, .bool h] 87, .cells [.int .u8 a, .int .i64 4, .int .i64 1] 76, .cells [.int .u8 b, .int .i64 5, .int .i64 2] 76, .cells [.int .u16 d, .int .i64 9, .int .i64 4] 81] fun v H => v = .tuple #[] ∧ H = [.cells [.int .u8 15, .int .u8 r, .int .u8 w, .pointer (some ⟨1, 0, none⟩), .pointer (some ⟨2, 0, none⟩), .pointer (some ⟨3, 0, none⟩), .int .i64 (VT.tickG 15 ((r + 1) * 3) ⟨a, b, d, k, h⟩).k, .bool (VT.tickG 15 ((r + 1) * 3) ⟨a, b, d, k, h⟩).h] 87, .cells [.int .u8 (VT.tickG 15 ((r + 1) * 3) ⟨a, b, d, k, h⟩).a, .int .i64 4, .int .i64 1] 76, .cells [.int .u8 (VT.tickG 15 ((r + 1) * 3) ⟨a, b, d, k, h⟩).b, .int .i64 5, .int .i64 2] 76, .cells [.int .u16 (VT.tickG 15 ((r + 1) * 3) ⟨a, b, d, k, h⟩).d, .int .i64 9, .int .i64 4] 81] := by
  have ek : IntKind.i64.wrap (k + 1) = k + 1 := wrap64 (by omega) (by omega)
  have er : IntKind.i64.wrap (IntKind.i64.wrap (IntKind.i64.wrap r + 1) * 3) = (r + 1) * 3 := by rw [wrap64 (n := r) (by omega) (by omega), wrap64 (n := r + 1) (by omega) (by omega), wrap64 (by omega) (by omega)]
  by_cases hc : (r + 1) * 3 ≤ k + 1
  · have e : VT.tickG 15 ((r + 1) * 3) ⟨a, b, d, k, h⟩ = VT.beatG 15 ⟨a, b, d, 0, h⟩ := by unfold VT.tickG; rw [if_pos hc]
    rw [e]
    refine ACalls.code tabOk h45 Try.func45 Try.call45 ok45 ?_
    conv => whnf
    refine ACalls.code tabOk h62 Try.func62 Try.call62 ok62 ?_
    conv => whnf
    rw [ek]
    conv => whnf
    rw [er]
    conv => whnf
    refine ⟨rfl, ?_⟩
    conv => whnf
    refine Bif.knT ?_ fun h0 => ?_
    · (simp; omega)
    rw [h0]
    conv => whnf
    refine ACalls.useE (tone_beat15 _ _ _ _ _ _ _) [0, 1, 2, 3] rfl (by (conv => whnf); try rfl) (by (conv => whnf); try rfl) ?_
    conv => whnf
    exact ⟨rfl, rfl⟩
  · have e : VT.tickG 15 ((r + 1) * 3) ⟨a, b, d, k, h⟩ = ⟨a, b, d, k + 1, h⟩ := by unfold VT.tickG; rw [if_neg hc]
    rw [e]
    refine ACalls.code tabOk h45 Try.func45 Try.call45 ok45 ?_
    conv => whnf
    refine ACalls.code tabOk h62 Try.func62 Try.call62 ok62 ?_
    conv => whnf
    rw [ek]
    conv => whnf
    rw [er]
    conv => whnf
    refine ⟨rfl, ?_⟩
    conv => whnf
    refine Bif.knF ?_ fun h0 => ?_
    · (simp; omega)
    rw [h0]
    conv => whnf
    exact ⟨rfl, rfl⟩
end Go.Proofs
