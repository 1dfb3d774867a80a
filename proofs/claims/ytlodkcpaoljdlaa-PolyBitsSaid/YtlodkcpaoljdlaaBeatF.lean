/-
  Walks through the functions of the program, by contract.
-/
import Derived.Test.YtlodkcpaoljdlaaSlowF
set_option linter.all false
set_option linter.unusedVariables false
set_option linter.unusedSimpArgs false
set_option linter.unnecessarySimpa false
namespace Go.Proofs
open Go.Aw
set_option maxRecDepth 100000
set_option maxHeartbeats 4000000
/-- A beat, by the control. -/
def VT.turn (c : Int) (s : VT) : VT :=
  bif c == 4 || c == 5 || c == 6 || c == 7 || c == 12 || c == 13 || c == 14 || c == 15 then { s with h := !s.h }
  else bif c == 8 then { s with d := nx16 9 4 s.d, h := lb16 s.d }
  else { s with a := nx8 4 1 s.a, h := lb8 s.a }
def VT.beatG (c : Int) (s : VT) : VT :=
  bif (c == 2 || c == 6 || c == 10 || c == 14) && !(slow5 (nx8 5 2 s.b)) then { s with b := nx8 5 2 s.b }
  else bif (c == 3 || c == 7 || c == 11 || c == 15) && !(lb8 s.b) then { s with b := nx8 5 2 s.b }
  else bif c == 9 || c == 10 || c == 11 then { s with b := nx8 5 2 s.b, h := lb8 s.b }
  else VT.turn c { s with b := nx8 5 2 s.b }
theorem tone_beat0 (r w a b d k : Int) (h : Bool) : ACalls Try.prog 63 [.pointer (some ⟨0, 0, none⟩)] [.cells [.int .u8 0, .int .u8 r, .int .u8 w, .pointer (some ⟨1, 0, none⟩), .pointer (some ⟨2, 0, none⟩), .pointer (some ⟨3, 0, none⟩), .int .i64 k, .bool h] 87, .cells [.int .u8 a, .int .i64 4, .int .i64 1] 76, .cells [.int .u8 b, .int .i64 5, .int .i64 2] 76, .cells [.int .u16 d, .int .i64 9, .int .i64 4] 81] fun v H => v = .tuple #[] ∧ H = [.cells [.int .u8 0, .int .u8 r, .int .u8 w, .pointer (some ⟨1, 0, none⟩), .pointer (some ⟨2, 0, none⟩), .pointer (some ⟨3, 0, none⟩), .int .i64 (VT.beatG 0 ⟨a, b, d, k, h⟩).k, .bool (VT.beatG 0 ⟨a, b, d, k, h⟩).h] 87, .cells [.int .u8 (VT.beatG 0 ⟨a, b, d, k, h⟩).a, .int .i64 4, .int .i64 1] 76, .cells [.int .u8 (VT.beatG 0 ⟨a, b, d, k, h⟩).b, .int .i64 5, .int .i64 2] 76, .cells [.int .u16 (VT.beatG 0 ⟨a, b, d, k, h⟩).d, .int .i64 9, .int .i64 4] 81] := by
  refine ACalls.code tabOk h63 Try.func63 Try.call63 ok63 ?_
  conv => whnf
  refine ACalls.useE (falls8 _ _ _ ?_) [2] rfl (by (conv => whnf); try rfl) (by (conv => whnf); try rfl) ?_
  · decide
  conv => whnf
  refine ACalls.useE (falls8 _ _ _ ?_) [1] rfl (by (conv => whnf); try rfl) (by (conv => whnf); try rfl) ?_
  · decide
  conv => whnf
  exact ⟨rfl, rfl⟩
theorem tone_beat1 (r w a b d k : Int) (h : Bool) : ACalls Try.prog 63 [.pointer (some ⟨0, 0, none⟩)] [.cells [.int .u8 1, .int .u8 r, .int .u8 w, .pointer (some ⟨1, 0, none⟩), .pointer (some ⟨2, 0, none⟩), .pointer (some ⟨3, 0, none⟩), .int .i64 k, .bool h] 87, .cells [.int .u8 a, .int .i64 4, .int .i64 1] 76, .cells [.int .u8 b, .int .i64 5, .int .i64 2] 76, .cells [.int .u16 d, .int .i64 9, .int .i64 4] 81] fun v H => v = .tuple #[] ∧ H = [.cells [.int .u8 1, .int .u8 r, .int .u8 w, .pointer (some ⟨1, 0, none⟩), .pointer (some ⟨2, 0, none⟩), .pointer (some ⟨3, 0, none⟩), .int .i64 (VT.beatG 1 ⟨a, b, d, k, h⟩).k, .bool (VT.beatG 1 ⟨a, b, d, k, h⟩).h] 87, .cells [.int .u8 (VT.beatG 1 ⟨a, b, d, k, h⟩).a, .int .i64 4, .int .i64 1] 76, .cells [.int .u8 (VT.beatG 1 ⟨a, b, d, k, h⟩).b, .int .i64 5, .int .i64 2] 76, .cells [.int .u16 (VT.beatG 1 ⟨a, b, d, k, h⟩).d, .int .i64 9, .int .i64 4] 81] := by
  refine ACalls.code tabOk h63 Try.func63 Try.call63 ok63 ?_
  conv => whnf
  refine ACalls.useE (falls8 _ _ _ ?_) [2] rfl (by (conv => whnf); try rfl) (by (conv => whnf); try rfl) ?_
  · decide
  conv => whnf
  refine ACalls.useE (falls8 _ _ _ ?_) [1] rfl (by (conv => whnf); try rfl) (by (conv => whnf); try rfl) ?_
  · decide
  conv => whnf
  exact ⟨rfl, rfl⟩
theorem tone_beat2 (r w a b d k : Int) (h : Bool) : ACalls Try.prog 63 [.pointer (some ⟨0, 0, none⟩)] [.cells [.int .u8 2, .int .u8 r, .int .u8 w, .pointer (some ⟨1, 0, none⟩), .pointer (some ⟨2, 0, none⟩), .pointer (some ⟨3, 0, none⟩), .int .i64 k, .bool h] 87, .cells [.int .u8 a, .int .i64 4, .int .i64 1] 76, .cells [.int .u8 b, .int .i64 5, .int .i64 2] 76, .cells [.int .u16 d, .int .i64 9, .int .i64 4] 81] fun v H => v = .tuple #[] ∧ H = [.cells [.int .u8 2, .int .u8 r, .int .u8 w, .pointer (some ⟨1, 0, none⟩), .pointer (some ⟨2, 0, none⟩), .pointer (some ⟨3, 0, none⟩), .int .i64 (VT.beatG 2 ⟨a, b, d, k, h⟩).k, .bool (VT.beatG 2 ⟨a, b, d, k, h⟩).h] 87, .cells [.int .u8 (VT.beatG 2 ⟨a, b, d, k, h⟩).a, .int .i64 4, .int .i64 1] 76, .cells [.int .u8 (VT.beatG 2 ⟨a, b, d, k, h⟩).b, .int .i64 5, .int .i64 2] 76, .cells [.int .u16 (VT.beatG 2 ⟨a, b, d, k, h⟩).d, .int .i64 9, .int .i64 4] 81] := by
  cases hq : slow5 (nx8 5 2 b)
  all_goals rw [show VT.beatG 2 ⟨a, b, d, k, h⟩ = _ from by unfold VT.beatG; rw [hq]]
  · refine ACalls.code tabOk h63 Try.func63 Try.call63 ok63 ?_
    conv => whnf
    refine ACalls.useE (falls8 _ _ _ ?_) [2] rfl (by (conv => whnf); try rfl) (by (conv => whnf); try rfl) ?_
    · decide
    conv => whnf
    refine ACalls.useE (tone_slow _ _ _ _ _ _ _ _) [0, 1, 2, 3] rfl (by (conv => whnf); try rfl) (by (conv => whnf); try rfl) ?_
    conv => whnf
    refine Bif.knT ?_ fun h0 => ?_
    · (rw [hq]; rfl)
    rw [h0]
    conv => whnf
    exact ⟨rfl, rfl⟩
  · refine ACalls.code tabOk h63 Try.func63 Try.call63 ok63 ?_
    conv => whnf
    refine ACalls.useE (falls8 _ _ _ ?_) [2] rfl (by (conv => whnf); try rfl) (by (conv => whnf); try rfl) ?_
    · decide
    conv => whnf
    refine ACalls.useE (tone_slow _ _ _ _ _ _ _ _) [0, 1, 2, 3] rfl (by (conv => whnf); try rfl) (by (conv => whnf); try rfl) ?_
    conv => whnf
    refine Bif.knF ?_ fun h0 => ?_
    · (rw [hq]; rfl)
    rw [h0]
    conv => whnf
    refine ACalls.useE (falls8 _ _ _ ?_) [1] rfl (by (conv => whnf); try rfl) (by (conv => whnf); try rfl) ?_
    · decide
    conv => whnf
    exact ⟨rfl, rfl⟩
theorem tone_beat3 (r w a b d k : Int) (h : Bool) : ACalls Try.prog 63 [.pointer (some ⟨0, 0, none⟩)] [.cells [.int .u8 3, .int .u8 r, .int .u8 w, .pointer (some ⟨1, 0, none⟩), .pointer (some ⟨2, 0, none⟩), .pointer (some ⟨3, 0, none⟩), .int .i64 k, .bool h] 87, .cells [.int .u8 a, .int .i64 4, .int .i64 1] 76, .cells [.int .u8 b, .int .i64 5, .int .i64 2] 76, .cells [.int .u16 d, .int .i64 9, .int .i64 4] 81] fun v H => v = .tuple #[] ∧ H = [.cells [.int .u8 3, .int .u8 r, .int .u8 w, .pointer (some ⟨1, 0, none⟩), .pointer (some ⟨2, 0, none⟩), .pointer (some ⟨3, 0, none⟩), .int .i64 (VT.beatG 3 ⟨a, b, d, k, h⟩).k, .bool (VT.beatG 3 ⟨a, b, d, k, h⟩).h] 87, .cells [.int .u8 (VT.beatG 3 ⟨a, b, d, k, h⟩).a, .int .i64 4, .int .i64 1] 76, .cells [.int .u8 (VT.beatG 3 ⟨a, b, d, k, h⟩).b, .int .i64 5, .int .i64 2] 76, .cells [.int .u16 (VT.beatG 3 ⟨a, b, d, k, h⟩).d, .int .i64 9, .int .i64 4] 81] := by
  cases hq : lb8 b
  all_goals rw [show VT.beatG 3 ⟨a, b, d, k, h⟩ = _ from by unfold VT.beatG; rw [hq]]
  · refine ACalls.code tabOk h63 Try.func63 Try.call63 ok63 ?_
    conv => whnf
    refine ACalls.useE (falls8 _ _ _ ?_) [2] rfl (by (conv => whnf); try rfl) (by (conv => whnf); try rfl) ?_
    · decide
    conv => whnf
    refine Bif.knT ?_ fun h0 => ?_
    · (rw [hq]; rfl)
    rw [h0]
    conv => whnf
    exact ⟨rfl, rfl⟩
  · refine ACalls.code tabOk h63 Try.func63 Try.call63 ok63 ?_
    conv => whnf
    refine ACalls.useE (falls8 _ _ _ ?_) [2] rfl (by (conv => whnf); try rfl) (by (conv => whnf); try rfl) ?_
    · decide
    conv => whnf
    refine Bif.knF ?_ fun h0 => ?_
    · (rw [hq]; rfl)
    rw [h0]
    conv => whnf
    refine ACalls.useE (falls8 _ _ _ ?_) [1] rfl (by (conv => whnf); try rfl) (by (conv => whnf); try rfl) ?_
    · decide
    conv => whnf
    exact ⟨rfl, rfl⟩
theorem tone_beat4 (r w a b d k : Int) (h : Bool) : ACalls Try.prog 63 [.pointer (some ⟨0, 0, none⟩)] [.cells [.int .u8 4, .int .u8 r, .int .u8 w, .pointer (some ⟨1, 0, none⟩), .pointer (some ⟨2, 0, none⟩), .pointer (some ⟨3, 0, none⟩), .int .i64 k, .bool h] 87, .cells [.int .u8 a, .int .i64 4, .int .i64 1] 76, .cells [.int .u8 b, .int .i64 5, .int .i64 2] 76, .cells [.int .u16 d, .int .i64 9, .int .i64 4] 81] fun v H => v = .tuple #[] ∧ H = [.cells [.int .u8 4, .int .u8 r, .int .u8 w, .pointer (some ⟨1, 0, none⟩), .pointer (some ⟨2, 0, none⟩), .pointer (some ⟨3, 0, none⟩), .int .i64 (VT.beatG 4 ⟨a, b, d, k, h⟩).k, .bool (VT.beatG 4 ⟨a, b, d, k, h⟩).h] 87, .cells [.int .u8 (VT.beatG 4 ⟨a, b, d, k, h⟩).a, .int .i64 4, .int .i64 1] 76, .cells [.int .u8 (VT.beatG 4 ⟨a, b, d, k, h⟩).b, .int .i64 5, .int .i64 2] 76, .cells [.int .u16 (VT.beatG 4 ⟨a, b, d, k, h⟩).d, .int .i64 9, .int .i64 4] 81] := by
  refine ACalls.code tabOk h63 Try.func63 Try.call63 ok63 ?_
  conv => whnf
  refine ACalls.useE (falls8 _ _ _ ?_) [2] rfl (by (conv => whnf); try rfl) (by (conv => whnf); try rfl) ?_
  · decide
  conv => whnf
  exact ⟨rfl, rfl⟩
theorem tone_beat5 (r w a b d k : Int) (h : Bool) : ACalls Try.prog 63 [.pointer (some ⟨0, 0, none⟩)] [.cells [.int .u8 5, .int .u8 r, .int .u8 w, .pointer (some ⟨1, 0, none⟩), .pointer (some ⟨2, 0, none⟩), .pointer (some ⟨3, 0, none⟩), .int .i64 k, .bool h] 87, .cells [.int .u8 a, .int .i64 4, .int .i64 1] 76, .cells [.int .u8 b, .int .i64 5, .int .i64 2] 76, .cells [.int .u16 d, .int .i64 9, .int .i64 4] 81] fun v H => v = .tuple #[] ∧ H = [.cells [.int .u8 5, .int .u8 r, .int .u8 w, .pointer (some ⟨1, 0, none⟩), .pointer (some ⟨2, 0, none⟩), .pointer (some ⟨3, 0, none⟩), .int .i64 (VT.beatG 5 ⟨a, b, d, k, h⟩).k, .bool (VT.beatG 5 ⟨a, b, d, k, h⟩).h] 87, .cells [.int .u8 (VT.beatG 5 ⟨a, b, d, k, h⟩).a, .int .i64 4, .int .i64 1] 76, .cells [.int .u8 (VT.beatG 5 ⟨a, b, d, k, h⟩).b, .int .i64 5, .int .i64 2] 76, .cells [.int .u16 (VT.beatG 5 ⟨a, b, d, k, h⟩).d, .int .i64 9, .int .i64 4] 81] := by
  refine ACalls.code tabOk h63 Try.func63 Try.call63 ok63 ?_
  conv => whnf
  refine ACalls.useE (falls8 _ _ _ ?_) [2] rfl (by (conv => whnf); try rfl) (by (conv => whnf); try rfl) ?_
  · decide
  conv => whnf
  exact ⟨rfl, rfl⟩
theorem tone_beat6 (r w a b d k : Int) (h : Bool) : ACalls Try.prog 63 [.pointer (some ⟨0, 0, none⟩)] [.cells [.int .u8 6, .int .u8 r, .int .u8 w, .pointer (some ⟨1, 0, none⟩), .pointer (some ⟨2, 0, none⟩), .pointer (some ⟨3, 0, none⟩), .int .i64 k, .bool h] 87, .cells [.int .u8 a, .int .i64 4, .int .i64 1] 76, .cells [.int .u8 b, .int .i64 5, .int .i64 2] 76, .cells [.int .u16 d, .int .i64 9, .int .i64 4] 81] fun v H => v = .tuple #[] ∧ H = [.cells [.int .u8 6, .int .u8 r, .int .u8 w, .pointer (some ⟨1, 0, none⟩), .pointer (some ⟨2, 0, none⟩), .pointer (some ⟨3, 0, none⟩), .int .i64 (VT.beatG 6 ⟨a, b, d, k, h⟩).k, .bool (VT.beatG 6 ⟨a, b, d, k, h⟩).h] 87, .cells [.int .u8 (VT.beatG 6 ⟨a, b, d, k, h⟩).a, .int .i64 4, .int .i64 1] 76, .cells [.int .u8 (VT.beatG 6 ⟨a, b, d, k, h⟩).b, .int .i64 5, .int .i64 2] 76, .cells [.int .u16 (VT.beatG 6 ⟨a, b, d, k, h⟩).d, .int .i64 9, .int .i64 4] 81] := by
  cases hq : slow5 (nx8 5 2 b)
  all_goals rw [show VT.beatG 6 ⟨a, b, d, k, h⟩ = _ from by unfold VT.beatG; rw [hq]]
  · refine ACalls.code tabOk h63 Try.func63 Try.call63 ok63 ?_
    conv => whnf
    refine ACalls.useE (falls8 _ _ _ ?_) [2] rfl (by (conv => whnf); try rfl) (by (conv => whnf); try rfl) ?_
    · decide
    conv => whnf
    refine ACalls.useE (tone_slow _ _ _ _ _ _ _ _) [0, 1, 2, 3] rfl (by (conv => whnf); try rfl) (by (conv => whnf); try rfl) ?_
    conv => whnf
    refine Bif.knT ?_ fun h0 => ?_
    · (rw [hq]; rfl)
    rw [h0]
    conv => whnf
    exact ⟨rfl, rfl⟩
  · refine ACalls.code tabOk h63 Try.func63 Try.call63 ok63 ?_
    conv => whnf
    refine ACalls.useE (falls8 _ _ _ ?_) [2] rfl (by (conv => whnf); try rfl) (by (conv => whnf); try rfl) ?_
    · decide
    conv => whnf
    refine ACalls.useE (tone_slow _ _ _ _ _ _ _ _) [0, 1, 2, 3] rfl (by (conv => whnf); try rfl) (by (conv => whnf); try rfl) ?_
    conv => whnf
    refine Bif.knF ?_ fun h0 => ?_
    · (rw [hq]; rfl)
    rw [h0]
    conv => whnf
    exact ⟨rfl, rfl⟩
theorem tone_beat7 (r w a b d k : Int) (h : Bool) : ACalls Try.prog 63 [.pointer (some ⟨0, 0, none⟩)] [.cells [.int .u8 7, .int .u8 r, .int .u8 w, .pointer (some ⟨1, 0, none⟩), .pointer (some ⟨2, 0, none⟩), .pointer (some ⟨3, 0, none⟩), .int .i64 k, .bool h] 87, .cells [.int .u8 a, .int .i64 4, .int .i64 1] 76, .cells [.int .u8 b, .int .i64 5, .int .i64 2] 76, .cells [.int .u16 d, .int .i64 9, .int .i64 4] 81] fun v H => v = .tuple #[] ∧ H = [.cells [.int .u8 7, .int .u8 r, .int .u8 w, .pointer (some ⟨1, 0, none⟩), .pointer (some ⟨2, 0, none⟩), .pointer (some ⟨3, 0, none⟩), .int .i64 (VT.beatG 7 ⟨a, b, d, k, h⟩).k, .bool (VT.beatG 7 ⟨a, b, d, k, h⟩).h] 87, .cells [.int .u8 (VT.beatG 7 ⟨a, b, d, k, h⟩).a, .int .i64 4, .int .i64 1] 76, .cells [.int .u8 (VT.beatG 7 ⟨a, b, d, k, h⟩).b, .int .i64 5, .int .i64 2] 76, .cells [.int .u16 (VT.beatG 7 ⟨a, b, d, k, h⟩).d, .int .i64 9, .int .i64 4] 81] := by
  cases hq : lb8 b
  all_goals rw [show VT.beatG 7 ⟨a, b, d, k, h⟩ = _ from by unfold VT.beatG; rw [hq]]
  · refine ACalls.code tabOk h63 Try.func63 Try.call63 ok63 ?_
    conv => whnf
    refine ACalls.useE (falls8 _ _ _ ?_) [2] rfl (by (conv => whnf); try rfl) (by (conv => whnf); try rfl) ?_
    · decide
    conv => whnf
    refine Bif.knT ?_ fun h0 => ?_
    · (rw [hq]; rfl)
    rw [h0]
    conv => whnf
    exact ⟨rfl, rfl⟩
  · refine ACalls.code tabOk h63 Try.func63 Try.call63 ok63 ?_
    conv => whnf
    refine ACalls.useE (falls8 _ _ _ ?_) [2] rfl (by (conv => whnf); try rfl) (by (conv => whnf); try rfl) ?_
    · decide
    conv => whnf
    refine Bif.knF ?_ fun h0 => ?_
    · (rw [hq]; rfl)
    rw [h0]
    conv => whnf
    exact ⟨rfl, rfl⟩
theorem tone_beat8 (r w a b d k : Int) (h : Bool) : ACalls Try.prog 63 [.pointer (some ⟨0, 0, none⟩)] [.cells [.int .u8 8, .int .u8 r, .int .u8 w, .pointer (some ⟨1, 0, none⟩), .pointer (some ⟨2, 0, none⟩), .pointer (some ⟨3, 0, none⟩), .int .i64 k, .bool h] 87, .cells [.int .u8 a, .int .i64 4, .int .i64 1] 76, .cells [.int .u8 b, .int .i64 5, .int .i64 2] 76, .cells [.int .u16 d, .int .i64 9, .int .i64 4] 81] fun v H => v = .tuple #[] ∧ H = [.cells [.int .u8 8, .int .u8 r, .int .u8 w, .pointer (some ⟨1, 0, none⟩), .pointer (some ⟨2, 0, none⟩), .pointer (some ⟨3, 0, none⟩), .int .i64 (VT.beatG 8 ⟨a, b, d, k, h⟩).k, .bool (VT.beatG 8 ⟨a, b, d, k, h⟩).h] 87, .cells [.int .u8 (VT.beatG 8 ⟨a, b, d, k, h⟩).a, .int .i64 4, .int .i64 1] 76, .cells [.int .u8 (VT.beatG 8 ⟨a, b, d, k, h⟩).b, .int .i64 5, .int .i64 2] 76, .cells [.int .u16 (VT.beatG 8 ⟨a, b, d, k, h⟩).d, .int .i64 9, .int .i64 4] 81] := by
  refine ACalls.code tabOk h63 Try.func63 Try.call63 ok63 ?_
  conv => whnf
  refine ACalls.useE (falls8 _ _ _ ?_) [2] rfl (by (conv => whnf); try rfl) (by (conv => whnf); try rfl) ?_
  · decide
  conv => whnf
  refine ACalls.useE (falls16 _ _ _ ?_) [3] rfl (by (conv => whnf); try rfl) (by (conv => whnf); try rfl) ?_
  · decide
  conv => whnf
  exact ⟨rfl, rfl⟩
theorem tone_beat9 (r w a b d k : Int) (h : Bool) : ACalls Try.prog 63 [.pointer (some ⟨0, 0, none⟩)] [.cells [.int .u8 9, .int .u8 r, .int .u8 w, .pointer (some ⟨1, 0, none⟩), .pointer (some ⟨2, 0, none⟩), .pointer (some ⟨3, 0, none⟩), .int .i64 k, .bool h] 87, .cells [.int .u8 a, .int .i64 4, .int .i64 1] 76, .cells [.int .u8 b, .int .i64 5, .int .i64 2] 76, .cells [.int .u16 d, .int .i64 9, .int .i64 4] 81] fun v H => v = .tuple #[] ∧ H = [.cells [.int .u8 9, .int .u8 r, .int .u8 w, .pointer (some ⟨1, 0, none⟩), .pointer (some ⟨2, 0, none⟩), .pointer (some ⟨3, 0, none⟩), .int .i64 (VT.beatG 9 ⟨a, b, d, k, h⟩).k, .bool (VT.beatG 9 ⟨a, b, d, k, h⟩).h] 87, .cells [.int .u8 (VT.beatG 9 ⟨a, b, d, k, h⟩).a, .int .i64 4, .int .i64 1] 76, .cells [.int .u8 (VT.beatG 9 ⟨a, b, d, k, h⟩).b, .int .i64 5, .int .i64 2] 76, .cells [.int .u16 (VT.beatG 9 ⟨a, b, d, k, h⟩).d, .int .i64 9, .int .i64 4] 81] := by
  refine ACalls.code tabOk h63 Try.func63 Try.call63 ok63 ?_
  conv => whnf
  refine ACalls.useE (falls8 _ _ _ ?_) [2] rfl (by (conv => whnf); try rfl) (by (conv => whnf); try rfl) ?_
  · decide
  conv => whnf
  exact ⟨rfl, rfl⟩
theorem tone_beat10 (r w a b d k : Int) (h : Bool) : ACalls Try.prog 63 [.pointer (some ⟨0, 0, none⟩)] [.cells [.int .u8 10, .int .u8 r, .int .u8 w, .pointer (some ⟨1, 0, none⟩), .pointer (some ⟨2, 0, none⟩), .pointer (some ⟨3, 0, none⟩), .int .i64 k, .bool h] 87, .cells [.int .u8 a, .int .i64 4, .int .i64 1] 76, .cells [.int .u8 b, .int .i64 5, .int .i64 2] 76, .cells [.int .u16 d, .int .i64 9, .int .i64 4] 81] fun v H => v = .tuple #[] ∧ H = [.cells [.int .u8 10, .int .u8 r, .int .u8 w, .pointer (some ⟨1, 0, none⟩), .pointer (some ⟨2, 0, none⟩), .pointer (some ⟨3, 0, none⟩), .int .i64 (VT.beatG 10 ⟨a, b, d, k, h⟩).k, .bool (VT.beatG 10 ⟨a, b, d, k, h⟩).h] 87, .cells [.int .u8 (VT.beatG 10 ⟨a, b, d, k, h⟩).a, .int .i64 4, .int .i64 1] 76, .cells [.int .u8 (VT.beatG 10 ⟨a, b, d, k, h⟩).b, .int .i64 5, .int .i64 2] 76, .cells [.int .u16 (VT.beatG 10 ⟨a, b, d, k, h⟩).d, .int .i64 9, .int .i64 4] 81] := by
  cases hq : slow5 (nx8 5 2 b)
  all_goals rw [show VT.beatG 10 ⟨a, b, d, k, h⟩ = _ from by unfold VT.beatG; rw [hq]]
  · refine ACalls.code tabOk h63 Try.func63 Try.call63 ok63 ?_
    conv => whnf
    refine ACalls.useE (falls8 _ _ _ ?_) [2] rfl (by (conv => whnf); try rfl) (by (conv => whnf); try rfl) ?_
    · decide
    conv => whnf
    refine ACalls.useE (tone_slow _ _ _ _ _ _ _ _) [0, 1, 2, 3] rfl (by (conv => whnf); try rfl) (by (conv => whnf); try rfl) ?_
    conv => whnf
    refine Bif.knT ?_ fun h0 => ?_
    · (rw [hq]; rfl)
    rw [h0]
    conv => whnf
    exact ⟨rfl, rfl⟩
  · refine ACalls.code tabOk h63 Try.func63 Try.call63 ok63 ?_
    conv => whnf
    refine ACalls.useE (falls8 _ _ _ ?_) [2] rfl (by (conv => whnf); try rfl) (by (conv => whnf); try rfl) ?_
    · decide
    conv => whnf
    refine ACalls.useE (tone_slow _ _ _ _ _ _ _ _) [0, 1, 2, 3] rfl (by (conv => whnf); try rfl) (by (conv => whnf); try rfl) ?_
    conv => whnf
    refine Bif.knF ?_ fun h0 => ?_
    · (rw [hq]; rfl)
    rw [h0]
    conv => whnf
    exact ⟨rfl, rfl⟩
theorem tone_beat11 (r w a b d k : Int) (h : Bool) : ACalls Try.prog 63 [.pointer (some ⟨0, 0, none⟩)] [.cells [.int .u8 11, .int .u8 r, .int .u8 w, .pointer (some ⟨1, 0, none⟩), .pointer (some ⟨2, 0, none⟩), .pointer (some ⟨3, 0, none⟩), .int .i64 k, .bool h] 87, .cells [.int .u8 a, .int .i64 4, .int .i64 1] 76, .cells [.int .u8 b, .int .i64 5, .int .i64 2] 76, .cells [.int .u16 d, .int .i64 9, .int .i64 4] 81] fun v H => v = .tuple #[] ∧ H = [.cells [.int .u8 11, .int .u8 r, .int .u8 w, .pointer (some ⟨1, 0, none⟩), .pointer (some ⟨2, 0, none⟩), .pointer (some ⟨3, 0, none⟩), .int .i64 (VT.beatG 11 ⟨a, b, d, k, h⟩).k, .bool (VT.beatG 11 ⟨a, b, d, k, h⟩).h] 87, .cells [.int .u8 (VT.beatG 11 ⟨a, b, d, k, h⟩).a, .int .i64 4, .int .i64 1] 76, .cells [.int .u8 (VT.beatG 11 ⟨a, b, d, k, h⟩).b, .int .i64 5, .int .i64 2] 76, .cells [.int .u16 (VT.beatG 11 ⟨a, b, d, k, h⟩).d, .int .i64 9, .int .i64 4] 81] := by
  cases hq : lb8 b
  all_goals rw [show VT.beatG 11 ⟨a, b, d, k, h⟩ = _ from by unfold VT.beatG; rw [hq]]
  · refine ACalls.code tabOk h63 Try.func63 Try.call63 ok63 ?_
    conv => whnf
    refine ACalls.useE (falls8 _ _ _ ?_) [2] rfl (by (conv => whnf); try rfl) (by (conv => whnf); try rfl) ?_
    · decide
    conv => whnf
    refine Bif.knT ?_ fun h0 => ?_
    · (rw [hq]; rfl)
    rw [h0]
    conv => whnf
    exact ⟨rfl, rfl⟩
  · refine ACalls.code tabOk h63 Try.func63 Try.call63 ok63 ?_
    conv => whnf
    refine ACalls.useE (falls8 _ _ _ ?_) [2] rfl (by (conv => whnf); try rfl) (by (conv => whnf); try rfl) ?_
    · decide
    conv => whnf
    refine Bif.knF ?_ fun h0 => ?_
    · (rw [hq]; rfl)
    rw [h0]
    conv => whnf
    (rw [hq]; exact ⟨rfl, rfl⟩)
theorem tone_beat12 (r w a b d k : Int) (h : Bool) : ACalls Try.prog 63 [.pointer (some ⟨0, 0, none⟩)] [.cells [.int .u8 12, .int .u8 r, .int .u8 w, .pointer (some ⟨1, 0, none⟩), .pointer (some ⟨2, 0, none⟩), .pointer (some ⟨3, 0, none⟩), .int .i64 k, .bool h] 87, .cells [.int .u8 a, .int .i64 4, .int .i64 1] 76, .cells [.int .u8 b, .int .i64 5, .int .i64 2] 76, .cells [.int .u16 d, .int .i64 9, .int .i64 4] 81] fun v H => v = .tuple #[] ∧ H = [.cells [.int .u8 12, .int .u8 r, .int .u8 w, .pointer (some ⟨1, 0, none⟩), .pointer (some ⟨2, 0, none⟩), .pointer (some ⟨3, 0, none⟩), .int .i64 (VT.beatG 12 ⟨a, b, d, k, h⟩).k, .bool (VT.beatG 12 ⟨a, b, d, k, h⟩).h] 87, .cells [.int .u8 (VT.beatG 12 ⟨a, b, d, k, h⟩).a, .int .i64 4, .int .i64 1] 76, .cells [.int .u8 (VT.beatG 12 ⟨a, b, d, k, h⟩).b, .int .i64 5, .int .i64 2] 76, .cells [.int .u16 (VT.beatG 12 ⟨a, b, d, k, h⟩).d, .int .i64 9, .int .i64 4] 81] := by
  refine ACalls.code tabOk h63 Try.func63 Try.call63 ok63 ?_
  conv => whnf
  refine ACalls.useE (falls8 _ _ _ ?_) [2] rfl (by (conv => whnf); try rfl) (by (conv => whnf); try rfl) ?_
  · decide
  conv => whnf
  exact ⟨rfl, rfl⟩
theorem tone_beat13 (r w a b d k : Int) (h : Bool) : ACalls Try.prog 63 [.pointer (some ⟨0, 0, none⟩)] [.cells [.int .u8 13, .int .u8 r, .int .u8 w, .pointer (some ⟨1, 0, none⟩), .pointer (some ⟨2, 0, none⟩), .pointer (some ⟨3, 0, none⟩), .int .i64 k, .bool h] 87, .cells [.int .u8 a, .int .i64 4, .int .i64 1] 76, .cells [.int .u8 b, .int .i64 5, .int .i64 2] 76, .cells [.int .u16 d, .int .i64 9, .int .i64 4] 81] fun v H => v = .tuple #[] ∧ H = [.cells [.int .u8 13, .int .u8 r, .int .u8 w, .pointer (some ⟨1, 0, none⟩), .pointer (some ⟨2, 0, none⟩), .pointer (some ⟨3, 0, none⟩), .int .i64 (VT.beatG 13 ⟨a, b, d, k, h⟩).k, .bool (VT.beatG 13 ⟨a, b, d, k, h⟩).h] 87, .cells [.int .u8 (VT.beatG 13 ⟨a, b, d, k, h⟩).a, .int .i64 4, .int .i64 1] 76, .cells [.int .u8 (VT.beatG 13 ⟨a, b, d, k, h⟩).b, .int .i64 5, .int .i64 2] 76, .cells [.int .u16 (VT.beatG 13 ⟨a, b, d, k, h⟩).d, .int .i64 9, .int .i64 4] 81] := by
  refine ACalls.code tabOk h63 Try.func63 Try.call63 ok63 ?_
  conv => whnf
  refine ACalls.useE (falls8 _ _ _ ?_) [2] rfl (by (conv => whnf); try rfl) (by (conv => whnf); try rfl) ?_
  · decide
  conv => whnf
  exact ⟨rfl, rfl⟩
theorem tone_beat14 (r w a b d k : Int) (h : Bool) : ACalls Try.prog 63 [.pointer (some ⟨0, 0, none⟩)] [.cells [.int .u8 14, .int .u8 r, .int .u8 w, .pointer (some ⟨1, 0, none⟩), .pointer (some ⟨2, 0, none⟩), .pointer (some ⟨3, 0, none⟩), .int .i64 k, .bool h] 87, .cells [.int .u8 a, .int .i64 4, .int .i64 1] 76, .cells [.int .u8 b, .int .i64 5, .int .i64 2] 76, .cells [.int .u16 d, .int .i64 9, .int .i64 4] 81] fun v H => v = .tuple #[] ∧ H = [.cells [.int .u8 14, .int .u8 r, .int .u8 w, .pointer (some ⟨1, 0, none⟩), .pointer (some ⟨2, 0, none⟩), .pointer (some ⟨3, 0, none⟩), .int .i64 (VT.beatG 14 ⟨a, b, d, k, h⟩).k, .bool (VT.beatG 14 ⟨a, b, d, k, h⟩).h] 87, .cells [.int .u8 (VT.beatG 14 ⟨a, b, d, k, h⟩).a, .int .i64 4, .int .i64 1] 76, .cells [.int .u8 (VT.beatG 14 ⟨a, b, d, k, h⟩).b, .int .i64 5, .int .i64 2] 76, .cells [.int .u16 (VT.beatG 14 ⟨a, b, d, k, h⟩).d, .int .i64 9, .int .i64 4] 81] := by
  cases hq : slow5 (nx8 5 2 b)
  all_goals rw [show VT.beatG 14 ⟨a, b, d, k, h⟩ = _ from by unfold VT.beatG; rw [hq]]
  · refine ACalls.code tabOk h63 Try.func63 Try.call63 ok63 ?_
    conv => whnf
    refine ACalls.useE (falls8 _ _ _ ?_) [2] rfl (by (conv => whnf); try rfl) (by (conv => whnf); try rfl) ?_
    · decide
    conv => whnf
    refine ACalls.useE (tone_slow _ _ _ _ _ _ _ _) [0, 1, 2, 3] rfl (by (conv => whnf); try rfl) (by (conv => whnf); try rfl) ?_
    conv => whnf
    refine Bif.knT ?_ fun h0 => ?_
    · (rw [hq]; rfl)
    rw [h0]
    conv => whnf
    exact ⟨rfl, rfl⟩
  · refine ACalls.code tabOk h63 Try.func63 Try.call63 ok63 ?_
    conv => whnf
    refine ACalls.useE (falls8 _ _ _ ?_) [2] rfl (by (conv => whnf); try rfl) (by (conv => whnf); try rfl) ?_
    · decide
    conv => whnf
    refine ACalls.useE (tone_slow _ _ _ _ _ _ _ _) [0, 1, 2, 3] rfl (by (conv => whnf); try rfl) (by (conv => whnf); try rfl) ?_
    conv => whnf
    refine Bif.knF ?_ fun h0 => ?_
    · (rw [hq]; rfl)
    rw [h0]
    conv => whnf
    exact ⟨rfl, rfl⟩
theorem tone_beat15 (r w a b d k : Int) (h : Bool) : ACalls Try.prog 63 [.pointer (some ⟨0, 0, none⟩)] [.cells [.int .u8 15, .int .u8 r, .int .u8 w, .pointer (some ⟨1, 0, none⟩), .pointer (some ⟨2, 0, none⟩), .pointer (some ⟨3, 0, none⟩), .int .i64 k, .bool h] 87, .cells [.int .u8 a, .int .i64 4, .int .i64 1] 76, .cells [.int .u8 b, .int .i64 5, .int .i64 2] 76, .cells [.int .u16 d, .int .i64 9, .int .i64 4] 81] fun v H => v = .tuple #[] ∧ H = [.cells [.int .u8 15, .int .u8 r, .int .u8 w, .pointer (some ⟨1, 0, none⟩), .pointer (some ⟨2, 0, none⟩), .pointer (some ⟨3, 0, none⟩), .int .i64 (VT.beatG 15 ⟨a, b, d, k, h⟩).k, .bool (VT.beatG 15 ⟨a, b, d, k, h⟩).h] 87, .cells [.int .u8 (VT.beatG 15 ⟨a, b, d, k, h⟩).a, .int .i64 4, .int .i64 1] 76, .cells [.int .u8 (VT.beatG 15 ⟨a, b, d, k, h⟩).b, .int .i64 5, .int .i64 2] 76, .cells [.int .u16 (VT.beatG 15 ⟨a, b, d, k, h⟩).d, .int .i64 9, .int .i64 4] 81] := by
  cases hq : lb8 b
  all_goals rw [show VT.beatG 15 ⟨a, b, d, k, h⟩ = _ from by unfold VT.beatG; rw [hq]]
  · refine ACalls.code tabOk h63 Try.func63 Try.call63 ok63 ?_
    conv => whnf
    refine ACalls.useE (falls8 _ _ _ ?_) [2] rfl (by (conv => whnf); try rfl) (by (conv => whnf); try rfl) ?_
    · decide
    conv => whnf
    refine Bif.knT ?_ fun h0 => ?_
    · (rw [hq]; rfl)
    rw [h0]
    conv => whnf
    exact ⟨rfl, rfl⟩
  · refine ACalls.code tabOk h63 Try.func63 Try.call63 ok63 ?_
    conv => whnf
    refine ACalls.useE (falls8 _ _ _ ?_) [2] rfl (by (conv => whnf); try rfl) (by (conv => whnf); try rfl) ?_
    · decide
    conv => whnf
    refine Bif.knF ?_ fun h0 => ?_
    · (rw [hq]; rfl)
    rw [h0]
    conv => whnf
    exact ⟨rfl, rfl⟩
end Go.Proofs
