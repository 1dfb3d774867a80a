/-
  Walks through the functions of the program, by contract.
-/
import Derived.Test.YtlodkcpaoljdlaaTcopF
import Derived.Test.YtlodkcpaoljdlaaPolyM
set_option linter.all false
set_option linter.unusedVariables false
set_option linter.unusedSimpArgs false
set_option linter.unnecessarySimpa false
namespace Go.Proofs
open Go.Aw
set_option maxRecDepth 100000
set_option maxHeartbeats 8000000
theorem st4 {a : Int} (h : 0 ≤ a ∧ a ≤ 15) : stS (rwB 4 1 a) 1 4 = nx8 4 1 a := by
  have h2 : 0 ≤ a ∧ a < 2 ^ 4 := by omega
  have := nx8_eq (n := 4) (t := 1) (s := a) (by decide) h2
  rw [stS_it (by decide) 1 a h2]; exact this.symm
theorem st5 {a : Int} (h : 0 ≤ a ∧ a ≤ 31) : stS (rwB 5 2 a) 1 5 = nx8 5 2 a := by
  have h2 : 0 ≤ a ∧ a < 2 ^ 5 := by omega
  have := nx8_eq (n := 5) (t := 2) (s := a) (by decide) h2
  rw [stS_it (by decide) 1 a h2]; exact this.symm
theorem st9 {a : Int} (h : 0 ≤ a ∧ a ≤ 511) : stS (rwB 9 4 a) 1 9 = nx16 9 4 a := by
  have h2 : 0 ≤ a ∧ a < 2 ^ 9 := by omega
  have := nx16_eq (n := 9) (t := 4) (s := a) (by decide) h2
  rw [stS_it (by decide) 1 a h2]; exact this.symm
theorem it5_itI : ∀ k : Nat, it5 k = itI 5 2 k 0
  | 0 => rfl
  | k + 1 => by
    show nx8 5 2 (it5 k) = nxI 5 2 (itI 5 2 k 0)
    rw [it5_itI k]
    exact nx8_eq (n := 5) (t := 2) (by decide) (itI_le (by decide) (by decide) k)
theorem st18 : stS (rwB 5 2 0) 18 5 = it5 18 := by rw [stS_it (by decide) 18 0 (by decide), it5_itI]
theorem lb8_eq (s : Int) : (s % 2 == 1) = lb8 s := by
  unfold lb8
  rw [lo8_eq]
  have : s % 2 = 0 ∨ s % 2 = 1 := by omega
  rcases this with e | e <;> rw [e] <;> rfl
theorem lb16_eq (s : Int) : (s % 2 == 1) = lb16 s := by
  unfold lb16
  rw [lo16_eq]
  have : s % 2 = 0 ∨ s % 2 = 1 := by omega
  rcases this with e | e <;> rw [e] <;> rfl
theorem ref_state1 (n t : Nat) (s : Int) (hn : 1 ≤ t ∧ t < n ∧ n ≤ 60) (hs : 0 ≤ s ∧ s ≤ 4294967296) : ACalls Try.prog 73 [.int .i64 n, .int .i64 t, .int .i64 s, .int .i64 1] [] fun v H => v = .int .i64 (stS (rwB n t s) 1 n) ∧ H = [] := ref_state n t s 1 hn hs (by decide)
theorem ref19_falls (n t : Nat) (s : Int) (hn : 1 ≤ t ∧ t < n ∧ n ≤ 60) (hs : 0 ≤ s ∧ s ≤ 65535) : ACalls Try.prog 72 [.int .i64 n, .int .i64 t, .int .i64 s] [] fun v H => v = .tuple #[.bool (s % 2 == 1), .int .i64 (stS (rwB n t s) 1 n)] ∧ H = [] := by
  have e : s.tmod 2 = s % 2 := Int.tmod_eq_emod_of_nonneg hs.1
  refine ACalls.code tabOk h72 Try.func72 Try.call72 ok72 ?_
  conv => whnf
  rw [e]
  refine ACalls.useE (ref_state1 _ _ _ ?_ ?_) [] rfl (by (conv => whnf); try rfl) (by (conv => whnf); try rfl) ?_
  · omega
  · omega
  conv => whnf
  exact ⟨rfl, rfl⟩
theorem ref19_falls4 (s : Int) (hs : 0 ≤ s ∧ s ≤ 15) : ACalls Try.prog 72 [.int .i64 4, .int .i64 1, .int .i64 s] [] fun v H => v = .tuple #[.bool (lb8 s), .int .i64 (nx8 4 1 s)] ∧ H = [] := by
  have := ref19_falls 4 1 s (by decide) (by omega)
  rw [lb8_eq, st4 hs] at this; exact this
theorem ref19_falls5 (s : Int) (hs : 0 ≤ s ∧ s ≤ 31) : ACalls Try.prog 72 [.int .i64 5, .int .i64 2, .int .i64 s] [] fun v H => v = .tuple #[.bool (lb8 s), .int .i64 (nx8 5 2 s)] ∧ H = [] := by
  have := ref19_falls 5 2 s (by decide) (by omega)
  rw [lb8_eq, st5 hs] at this; exact this
theorem ref19_falls9 (s : Int) (hs : 0 ≤ s ∧ s ≤ 511) : ACalls Try.prog 72 [.int .i64 9, .int .i64 4, .int .i64 s] [] fun v H => v = .tuple #[.bool (lb16 s), .int .i64 (nx16 9 4 s)] ∧ H = [] := by
  have := ref19_falls 9 4 s (by decide) (by omega)
  rw [lb16_eq, st9 hs] at this; exact this
theorem ref_state18 : ACalls Try.prog 73 [.int .i64 5, .int .i64 2, .int .i64 0, .int .i64 18] [] fun v H => v = .int .i64 (it5 18) ∧ H = [] := by
  have := ref_state 5 2 0 18 (by decide) (by decide) (by decide)
  rw [st18] at this; exact this
theorem ref19_beat0 (r w a b d k : Int) (h : Bool) (ha : 0 ≤ a ∧ a ≤ 15) (hb : 0 ≤ b ∧ b ≤ 31) (hd : 0 ≤ d ∧ d ≤ 511) : ACalls Try.prog 67 [.agg #[.int .i64 0, .int .i64 r, .int .i64 w, .int .i64 a, .int .i64 b, .int .i64 d, .int .i64 k, .bool h]] [] fun v H => v = .agg #[.int .i64 0, .int .i64 r, .int .i64 w, .int .i64 (VT.beatG 0 ⟨a, b, d, k, h⟩).a, .int .i64 (VT.beatG 0 ⟨a, b, d, k, h⟩).b, .int .i64 (VT.beatG 0 ⟨a, b, d, k, h⟩).d, .int .i64 (VT.beatG 0 ⟨a, b, d, k, h⟩).k, .bool (VT.beatG 0 ⟨a, b, d, k, h⟩).h] ∧ H = [] := by
  refine ACalls.code tabOk h67 Try.func67 Try.call67 ok67 ?_
  conv => whnf
  refine ACalls.useE (ref19_falls5 _ ?_) [] rfl (by (conv => whnf); try rfl) (by (conv => whnf); try rfl) ?_
  · omega
  conv => whnf
  refine ACalls.useE (ref19_falls4 _ ?_) [] rfl (by (conv => whnf); try rfl) (by (conv => whnf); try rfl) ?_
  · omega
  conv => whnf
  exact ⟨rfl, rfl⟩
theorem ref19_beat1 (r w a b d k : Int) (h : Bool) (ha : 0 ≤ a ∧ a ≤ 15) (hb : 0 ≤ b ∧ b ≤ 31) (hd : 0 ≤ d ∧ d ≤ 511) : ACalls Try.prog 67 [.agg #[.int .i64 1, .int .i64 r, .int .i64 w, .int .i64 a, .int .i64 b, .int .i64 d, .int .i64 k, .bool h]] [] fun v H => v = .agg #[.int .i64 1, .int .i64 r, .int .i64 w, .int .i64 (VT.beatG 1 ⟨a, b, d, k, h⟩).a, .int .i64 (VT.beatG 1 ⟨a, b, d, k, h⟩).b, .int .i64 (VT.beatG 1 ⟨a, b, d, k, h⟩).d, .int .i64 (VT.beatG 1 ⟨a, b, d, k, h⟩).k, .bool (VT.beatG 1 ⟨a, b, d, k, h⟩).h] ∧ H = [] := by
  refine ACalls.code tabOk h67 Try.func67 Try.call67 ok67 ?_
  conv => whnf
  refine ACalls.useE (ref19_falls5 _ ?_) [] rfl (by (conv => whnf); try rfl) (by (conv => whnf); try rfl) ?_
  · omega
  conv => whnf
  refine ACalls.useE (ref19_falls4 _ ?_) [] rfl (by (conv => whnf); try rfl) (by (conv => whnf); try rfl) ?_
  · omega
  conv => whnf
  exact ⟨rfl, rfl⟩
theorem ref19_beat2 (r w a b d k : Int) (h : Bool) (ha : 0 ≤ a ∧ a ≤ 15) (hb : 0 ≤ b ∧ b ≤ 31) (hd : 0 ≤ d ∧ d ≤ 511) : ACalls Try.prog 67 [.agg #[.int .i64 2, .int .i64 r, .int .i64 w, .int .i64 a, .int .i64 b, .int .i64 d, .int .i64 k, .bool h]] [] fun v H => v = .agg #[.int .i64 2, .int .i64 r, .int .i64 w, .int .i64 (VT.beatG 2 ⟨a, b, d, k, h⟩).a, .int .i64 (VT.beatG 2 ⟨a, b, d, k, h⟩).b, .int .i64 (VT.beatG 2 ⟨a, b, d, k, h⟩).d, .int .i64 (VT.beatG 2 ⟨a, b, d, k, h⟩).k, .bool (VT.beatG 2 ⟨a, b, d, k, h⟩).h] ∧ H = [] := by
  cases hq : slow5 (nx8 5 2 b)
  all_goals rw [show VT.beatG 2 ⟨a, b, d, k, h⟩ = _ from by unfold VT.beatG; rw [hq]]
  · have q0 : (nx8 5 2 b != 0) = true := by unfold slow5 at hq; simp only [Bool.or_eq_false_iff, beq_eq_false_iff_ne] at hq; exact bne_iff_ne.2 (show nx8 5 2 b ≠ 0 from hq.1)
    have q18 : (nx8 5 2 b != it5 18) = true := by unfold slow5 at hq; simp only [Bool.or_eq_false_iff, beq_eq_false_iff_ne] at hq; exact bne_iff_ne.2 hq.2
    refine ACalls.code tabOk h67 Try.func67 Try.call67 ok67 ?_
    conv => whnf
    refine ACalls.useE (ref19_falls5 _ ?_) [] rfl (by (conv => whnf); try rfl) (by (conv => whnf); try rfl) ?_
    · omega
    conv => whnf
    refine Bif.knT ?_ fun h0 => ?_
    · with_reducible assumption
    rw [h0]
    conv => whnf
    refine ACalls.useE (ref_state18) [] rfl (by (conv => whnf); try rfl) (by (conv => whnf); try rfl) ?_
    conv => whnf
    refine Bif.knT ?_ fun h1 => ?_
    · with_reducible assumption
    rw [h1]
    conv => whnf
    exact ⟨rfl, rfl⟩
  · by_cases hz : nx8 5 2 b = 0
    · have q0 : (nx8 5 2 b != 0) = false := by simp [hz]
      refine ACalls.code tabOk h67 Try.func67 Try.call67 ok67 ?_
      conv => whnf
      refine ACalls.useE (ref19_falls5 _ ?_) [] rfl (by (conv => whnf); try rfl) (by (conv => whnf); try rfl) ?_
      · omega
      conv => whnf
      refine Bif.knF ?_ fun h0 => ?_
      · with_reducible assumption
      rw [h0]
      conv => whnf
      refine ACalls.useE (ref19_falls4 _ ?_) [] rfl (by (conv => whnf); try rfl) (by (conv => whnf); try rfl) ?_
      · omega
      conv => whnf
      exact ⟨rfl, rfl⟩
    · have q0 : (nx8 5 2 b != 0) = true := by simp [hz]
      have q18 : (nx8 5 2 b != it5 18) = false := by unfold slow5 at hq; simp only [Bool.or_eq_true, beq_iff_eq] at hq; have := hq.resolve_left hz; simp [this]
      refine ACalls.code tabOk h67 Try.func67 Try.call67 ok67 ?_
      conv => whnf
      refine ACalls.useE (ref19_falls5 _ ?_) [] rfl (by (conv => whnf); try rfl) (by (conv => whnf); try rfl) ?_
      · omega
      conv => whnf
      refine Bif.knT ?_ fun h0 => ?_
      · with_reducible assumption
      rw [h0]
      conv => whnf
      refine ACalls.useE (ref_state18) [] rfl (by (conv => whnf); try rfl) (by (conv => whnf); try rfl) ?_
      conv => whnf
      refine Bif.knF ?_ fun h1 => ?_
      · with_reducible assumption
      rw [h1]
      conv => whnf
      refine ACalls.useE (ref19_falls4 _ ?_) [] rfl (by (conv => whnf); try rfl) (by (conv => whnf); try rfl) ?_
      · omega
      conv => whnf
      exact ⟨rfl, rfl⟩
theorem ref19_beat3 (r w a b d k : Int) (h : Bool) (ha : 0 ≤ a ∧ a ≤ 15) (hb : 0 ≤ b ∧ b ≤ 31) (hd : 0 ≤ d ∧ d ≤ 511) : ACalls Try.prog 67 [.agg #[.int .i64 3, .int .i64 r, .int .i64 w, .int .i64 a, .int .i64 b, .int .i64 d, .int .i64 k, .bool h]] [] fun v H => v = .agg #[.int .i64 3, .int .i64 r, .int .i64 w, .int .i64 (VT.beatG 3 ⟨a, b, d, k, h⟩).a, .int .i64 (VT.beatG 3 ⟨a, b, d, k, h⟩).b, .int .i64 (VT.beatG 3 ⟨a, b, d, k, h⟩).d, .int .i64 (VT.beatG 3 ⟨a, b, d, k, h⟩).k, .bool (VT.beatG 3 ⟨a, b, d, k, h⟩).h] ∧ H = [] := by
  cases hq : lb8 b
  all_goals rw [show VT.beatG 3 ⟨a, b, d, k, h⟩ = _ from by unfold VT.beatG; rw [hq]]
  · refine ACalls.code tabOk h67 Try.func67 Try.call67 ok67 ?_
    conv => whnf
    refine ACalls.useE (ref19_falls5 _ ?_) [] rfl (by (conv => whnf); try rfl) (by (conv => whnf); try rfl) ?_
    · omega
    conv => whnf
    rw [hq]
    conv => whnf
    exact ⟨rfl, rfl⟩
  · refine ACalls.code tabOk h67 Try.func67 Try.call67 ok67 ?_
    conv => whnf
    refine ACalls.useE (ref19_falls5 _ ?_) [] rfl (by (conv => whnf); try rfl) (by (conv => whnf); try rfl) ?_
    · omega
    conv => whnf
    rw [hq]
    conv => whnf
    refine ACalls.useE (ref19_falls4 _ ?_) [] rfl (by (conv => whnf); try rfl) (by (conv => whnf); try rfl) ?_
    · omega
    conv => whnf
    exact ⟨rfl, rfl⟩
theorem ref19_beat4 (r w a b d k : Int) (h : Bool) (ha : 0 ≤ a ∧ a ≤ 15) (hb : 0 ≤ b ∧ b ≤ 31) (hd : 0 ≤ d ∧ d ≤ 511) : ACalls Try.prog 67 [.agg #[.int .i64 4, .int .i64 r, .int .i64 w, .int .i64 a, .int .i64 b, .int .i64 d, .int .i64 k, .bool h]] [] fun v H => v = .agg #[.int .i64 4, .int .i64 r, .int .i64 w, .int .i64 (VT.beatG 4 ⟨a, b, d, k, h⟩).a, .int .i64 (VT.beatG 4 ⟨a, b, d, k, h⟩).b, .int .i64 (VT.beatG 4 ⟨a, b, d, k, h⟩).d, .int .i64 (VT.beatG 4 ⟨a, b, d, k, h⟩).k, .bool (VT.beatG 4 ⟨a, b, d, k, h⟩).h] ∧ H = [] := by
  refine ACalls.code tabOk h67 Try.func67 Try.call67 ok67 ?_
  conv => whnf
  refine ACalls.useE (ref19_falls5 _ ?_) [] rfl (by (conv => whnf); try rfl) (by (conv => whnf); try rfl) ?_
  · omega
  conv => whnf
  exact ⟨rfl, rfl⟩
theorem ref19_beat5 (r w a b d k : Int) (h : Bool) (ha : 0 ≤ a ∧ a ≤ 15) (hb : 0 ≤ b ∧ b ≤ 31) (hd : 0 ≤ d ∧ d ≤ 511) : ACalls Try.prog 67 [.agg #[.int .i64 5, .int .i64 r, .int .i64 w, .int .i64 a, .int .i64 b, .int .i64 d, .int .i64 k, .bool h]] [] fun v H => v = .agg #[.int .i64 5, .int .i64 r, .int .i64 w, .int .i64 (VT.beatG 5 ⟨a, b, d, k, h⟩).a, .int .i64 (VT.beatG 5 ⟨a, b, d, k, h⟩).b, .int .i64 (VT.beatG 5 ⟨a, b, d, k, h⟩).d, .int .i64 (VT.beatG 5 ⟨a, b, d, k, h⟩).k, .bool (VT.beatG 5 ⟨a, b, d, k, h⟩).h] ∧ H = [] := by
  refine ACalls.code tabOk h67 Try.func67 Try.call67 ok67 ?_
  conv => whnf
  refine ACalls.useE (ref19_falls5 _ ?_) [] rfl (by (conv => whnf); try rfl) (by (conv => whnf); try rfl) ?_
  · omega
  conv => whnf
  exact ⟨rfl, rfl⟩
theorem ref19_beat6 (r w a b d k : Int) (h : Bool) (ha : 0 ≤ a ∧ a ≤ 15) (hb : 0 ≤ b ∧ b ≤ 31) (hd : 0 ≤ d ∧ d ≤ 511) : ACalls Try.prog 67 [.agg #[.int .i64 6, .int .i64 r, .int .i64 w, .int .i64 a, .int .i64 b, .int .i64 d, .int .i64 k, .bool h]] [] fun v H => v = .agg #[.int .i64 6, .int .i64 r, .int .i64 w, .int .i64 (VT.beatG 6 ⟨a, b, d, k, h⟩).a, .int .i64 (VT.beatG 6 ⟨a, b, d, k, h⟩).b, .int .i64 (VT.beatG 6 ⟨a, b, d, k, h⟩).d, .int .i64 (VT.beatG 6 ⟨a, b, d, k, h⟩).k, .bool (VT.beatG 6 ⟨a, b, d, k, h⟩).h] ∧ H = [] := by
  cases hq : slow5 (nx8 5 2 b)
  all_goals rw [show VT.beatG 6 ⟨a, b, d, k, h⟩ = _ from by unfold VT.beatG; rw [hq]]
  · have q0 : (nx8 5 2 b != 0) = true := by unfold slow5 at hq; simp only [Bool.or_eq_false_iff, beq_eq_false_iff_ne] at hq; exact bne_iff_ne.2 (show nx8 5 2 b ≠ 0 from hq.1)
    have q18 : (nx8 5 2 b != it5 18) = true := by unfold slow5 at hq; simp only [Bool.or_eq_false_iff, beq_eq_false_iff_ne] at hq; exact bne_iff_ne.2 hq.2
    refine ACalls.code tabOk h67 Try.func67 Try.call67 ok67 ?_
    conv => whnf
    refine ACalls.useE (ref19_falls5 _ ?_) [] rfl (by (conv => whnf); try rfl) (by (conv => whnf); try rfl) ?_
    · omega
    conv => whnf
    refine Bif.knT ?_ fun h0 => ?_
    · with_reducible assumption
    rw [h0]
    conv => whnf
    refine ACalls.useE (ref_state18) [] rfl (by (conv => whnf); try rfl) (by (conv => whnf); try rfl) ?_
    conv => whnf
    refine Bif.knT ?_ fun h1 => ?_
    · with_reducible assumption
    rw [h1]
    conv => whnf
    exact ⟨rfl, rfl⟩
  · by_cases hz : nx8 5 2 b = 0
    · have q0 : (nx8 5 2 b != 0) = false := by simp [hz]
      refine ACalls.code tabOk h67 Try.func67 Try.call67 ok67 ?_
      conv => whnf
      refine ACalls.useE (ref19_falls5 _ ?_) [] rfl (by (conv => whnf); try rfl) (by (conv => whnf); try rfl) ?_
      · omega
      conv => whnf
      refine Bif.knF ?_ fun h0 => ?_
      · with_reducible assumption
      rw [h0]
      conv => whnf
      exact ⟨rfl, rfl⟩
    · have q0 : (nx8 5 2 b != 0) = true := by simp [hz]
      have q18 : (nx8 5 2 b != it5 18) = false := by unfold slow5 at hq; simp only [Bool.or_eq_true, beq_iff_eq] at hq; have := hq.resolve_left hz; simp [this]
      refine ACalls.code tabOk h67 Try.func67 Try.call67 ok67 ?_
      conv => whnf
      refine ACalls.useE (ref19_falls5 _ ?_) [] rfl (by (conv => whnf); try rfl) (by (conv => whnf); try rfl) ?_
      · omega
      conv => whnf
      refine Bif.knT ?_ fun h0 => ?_
      · with_reducible assumption
      rw [h0]
      conv => whnf
      refine ACalls.useE (ref_state18) [] rfl (by (conv => whnf); try rfl) (by (conv => whnf); try rfl) ?_
      conv => whnf
      refine Bif.knF ?_ fun h1 => ?_
      · with_reducible assumption
      rw [h1]
      conv => whnf
      exact ⟨rfl, rfl⟩
theorem ref19_beat7 (r w a b d k : Int) (h : Bool) (ha : 0 ≤ a ∧ a ≤ 15) (hb : 0 ≤ b ∧ b ≤ 31) (hd : 0 ≤ d ∧ d ≤ 511) : ACalls Try.prog 67 [.agg #[.int .i64 7, .int .i64 r, .int .i64 w, .int .i64 a, .int .i64 b, .int .i64 d, .int .i64 k, .bool h]] [] fun v H => v = .agg #[.int .i64 7, .int .i64 r, .int .i64 w, .int .i64 (VT.beatG 7 ⟨a, b, d, k, h⟩).a, .int .i64 (VT.beatG 7 ⟨a, b, d, k, h⟩).b, .int .i64 (VT.beatG 7 ⟨a, b, d, k, h⟩).d, .int .i64 (VT.beatG 7 ⟨a, b, d, k, h⟩).k, .bool (VT.beatG 7 ⟨a, b, d, k, h⟩).h] ∧ H = [] := by
  cases hq : lb8 b
  all_goals rw [show VT.beatG 7 ⟨a, b, d, k, h⟩ = _ from by unfold VT.beatG; rw [hq]]
  · refine ACalls.code tabOk h67 Try.func67 Try.call67 ok67 ?_
    conv => whnf
    refine ACalls.useE (ref19_falls5 _ ?_) [] rfl (by (conv => whnf); try rfl) (by (conv => whnf); try rfl) ?_
    · omega
    conv => whnf
    rw [hq]
    conv => whnf
    exact ⟨rfl, rfl⟩
  · refine ACalls.code tabOk h67 Try.func67 Try.call67 ok67 ?_
    conv => whnf
    refine ACalls.useE (ref19_falls5 _ ?_) [] rfl (by (conv => whnf); try rfl) (by (conv => whnf); try rfl) ?_
    · omega
    conv => whnf
    rw [hq]
    conv => whnf
    exact ⟨rfl, rfl⟩
theorem ref19_beat8 (r w a b d k : Int) (h : Bool) (ha : 0 ≤ a ∧ a ≤ 15) (hb : 0 ≤ b ∧ b ≤ 31) (hd : 0 ≤ d ∧ d ≤ 511) : ACalls Try.prog 67 [.agg #[.int .i64 8, .int .i64 r, .int .i64 w, .int .i64 a, .int .i64 b, .int .i64 d, .int .i64 k, .bool h]] [] fun v H => v = .agg #[.int .i64 8, .int .i64 r, .int .i64 w, .int .i64 (VT.beatG 8 ⟨a, b, d, k, h⟩).a, .int .i64 (VT.beatG 8 ⟨a, b, d, k, h⟩).b, .int .i64 (VT.beatG 8 ⟨a, b, d, k, h⟩).d, .int .i64 (VT.beatG 8 ⟨a, b, d, k, h⟩).k, .bool (VT.beatG 8 ⟨a, b, d, k, h⟩).h] ∧ H = [] := by
  refine ACalls.code tabOk h67 Try.func67 Try.call67 ok67 ?_
  conv => whnf
  refine ACalls.useE (ref19_falls5 _ ?_) [] rfl (by (conv => whnf); try rfl) (by (conv => whnf); try rfl) ?_
  · omega
  conv => whnf
  refine ACalls.useE (ref19_falls9 _ ?_) [] rfl (by (conv => whnf); try rfl) (by (conv => whnf); try rfl) ?_
  · omega
  conv => whnf
  exact ⟨rfl, rfl⟩
theorem ref19_beat9 (r w a b d k : Int) (h : Bool) (ha : 0 ≤ a ∧ a ≤ 15) (hb : 0 ≤ b ∧ b ≤ 31) (hd : 0 ≤ d ∧ d ≤ 511) : ACalls Try.prog 67 [.agg #[.int .i64 9, .int .i64 r, .int .i64 w, .int .i64 a, .int .i64 b, .int .i64 d, .int .i64 k, .bool h]] [] fun v H => v = .agg #[.int .i64 9, .int .i64 r, .int .i64 w, .int .i64 (VT.beatG 9 ⟨a, b, d, k, h⟩).a, .int .i64 (VT.beatG 9 ⟨a, b, d, k, h⟩).b, .int .i64 (VT.beatG 9 ⟨a, b, d, k, h⟩).d, .int .i64 (VT.beatG 9 ⟨a, b, d, k, h⟩).k, .bool (VT.beatG 9 ⟨a, b, d, k, h⟩).h] ∧ H = [] := by
  refine ACalls.code tabOk h67 Try.func67 Try.call67 ok67 ?_
  conv => whnf
  refine ACalls.useE (ref19_falls5 _ ?_) [] rfl (by (conv => whnf); try rfl) (by (conv => whnf); try rfl) ?_
  · omega
  conv => whnf
  exact ⟨rfl, rfl⟩
theorem ref19_beat10 (r w a b d k : Int) (h : Bool) (ha : 0 ≤ a ∧ a ≤ 15) (hb : 0 ≤ b ∧ b ≤ 31) (hd : 0 ≤ d ∧ d ≤ 511) : ACalls Try.prog 67 [.agg #[.int .i64 10, .int .i64 r, .int .i64 w, .int .i64 a, .int .i64 b, .int .i64 d, .int .i64 k, .bool h]] [] fun v H => v = .agg #[.int .i64 10, .int .i64 r, .int .i64 w, .int .i64 (VT.beatG 10 ⟨a, b, d, k, h⟩).a, .int .i64 (VT.beatG 10 ⟨a, b, d, k, h⟩).b, .int .i64 (VT.beatG 10 ⟨a, b, d, k, h⟩).d, .int .i64 (VT.beatG 10 ⟨a, b, d, k, h⟩).k, .bool (VT.beatG 10 ⟨a, b, d, k, h⟩).h] ∧ H = [] := by
  cases hq : slow5 (nx8 5 2 b)
  all_goals rw [show VT.beatG 10 ⟨a, b, d, k, h⟩ = _ from by unfold VT.beatG; rw [hq]]
  · have q0 : (nx8 5 2 b != 0) = true := by unfold slow5 at hq; simp only [Bool.or_eq_false_iff, beq_eq_false_iff_ne] at hq; exact bne_iff_ne.2 (show nx8 5 2 b ≠ 0 from hq.1)
    have q18 : (nx8 5 2 b != it5 18) = true := by unfold slow5 at hq; simp only [Bool.or_eq_false_iff, beq_eq_false_iff_ne] at hq; exact bne_iff_ne.2 hq.2
    refine ACalls.code tabOk h67 Try.func67 Try.call67 ok67 ?_
    conv => whnf
    refine ACalls.useE (ref19_falls5 _ ?_) [] rfl (by (conv => whnf); try rfl) (by (conv => whnf); try rfl) ?_
    · omega
    conv => whnf
    refine Bif.knT ?_ fun h0 => ?_
    · with_reducible assumption
    rw [h0]
    conv => whnf
    refine ACalls.useE (ref_state18) [] rfl (by (conv => whnf); try rfl) (by (conv => whnf); try rfl) ?_
    conv => whnf
    refine Bif.knT ?_ fun h1 => ?_
    · with_reducible assumption
    rw [h1]
    conv => whnf
    exact ⟨rfl, rfl⟩
  · by_cases hz : nx8 5 2 b = 0
    · have q0 : (nx8 5 2 b != 0) = false := by simp [hz]
      refine ACalls.code tabOk h67 Try.func67 Try.call67 ok67 ?_
      conv => whnf
      refine ACalls.useE (ref19_falls5 _ ?_) [] rfl (by (conv => whnf); try rfl) (by (conv => whnf); try rfl) ?_
      · omega
      conv => whnf
      refine Bif.knF ?_ fun h0 => ?_
      · with_reducible assumption
      rw [h0]
      conv => whnf
      exact ⟨rfl, rfl⟩
    · have q0 : (nx8 5 2 b != 0) = true := by simp [hz]
      have q18 : (nx8 5 2 b != it5 18) = false := by unfold slow5 at hq; simp only [Bool.or_eq_true, beq_iff_eq] at hq; have := hq.resolve_left hz; simp [this]
      refine ACalls.code tabOk h67 Try.func67 Try.call67 ok67 ?_
      conv => whnf
      refine ACalls.useE (ref19_falls5 _ ?_) [] rfl (by (conv => whnf); try rfl) (by (conv => whnf); try rfl) ?_
      · omega
      conv => whnf
      refine Bif.knT ?_ fun h0 => ?_
      · with_reducible assumption
      rw [h0]
      conv => whnf
      refine ACalls.useE (ref_state18) [] rfl (by (conv => whnf); try rfl) (by (conv => whnf); try rfl) ?_
      conv => whnf
      refine Bif.knF ?_ fun h1 => ?_
      · with_reducible assumption
      rw [h1]
      conv => whnf
      exact ⟨rfl, rfl⟩
theorem ref19_beat11 (r w a b d k : Int) (h : Bool) (ha : 0 ≤ a ∧ a ≤ 15) (hb : 0 ≤ b ∧ b ≤ 31) (hd : 0 ≤ d ∧ d ≤ 511) : ACalls Try.prog 67 [.agg #[.int .i64 11, .int .i64 r, .int .i64 w, .int .i64 a, .int .i64 b, .int .i64 d, .int .i64 k, .bool h]] [] fun v H => v = .agg #[.int .i64 11, .int .i64 r, .int .i64 w, .int .i64 (VT.beatG 11 ⟨a, b, d, k, h⟩).a, .int .i64 (VT.beatG 11 ⟨a, b, d, k, h⟩).b, .int .i64 (VT.beatG 11 ⟨a, b, d, k, h⟩).d, .int .i64 (VT.beatG 11 ⟨a, b, d, k, h⟩).k, .bool (VT.beatG 11 ⟨a, b, d, k, h⟩).h] ∧ H = [] := by
  cases hq : lb8 b
  all_goals rw [show VT.beatG 11 ⟨a, b, d, k, h⟩ = _ from by unfold VT.beatG; rw [hq]]
  · refine ACalls.code tabOk h67 Try.func67 Try.call67 ok67 ?_
    conv => whnf
    refine ACalls.useE (ref19_falls5 _ ?_) [] rfl (by (conv => whnf); try rfl) (by (conv => whnf); try rfl) ?_
    · omega
    conv => whnf
    rw [hq]
    conv => whnf
    exact ⟨rfl, rfl⟩
  · refine ACalls.code tabOk h67 Try.func67 Try.call67 ok67 ?_
    conv => whnf
    refine ACalls.useE (ref19_falls5 _ ?_) [] rfl (by (conv => whnf); try rfl) (by (conv => whnf); try rfl) ?_
    · omega
    conv => whnf
    rw [hq]
    conv => whnf
    exact ⟨rfl, rfl⟩
theorem ref19_beat12 (r w a b d k : Int) (h : Bool) (ha : 0 ≤ a ∧ a ≤ 15) (hb : 0 ≤ b ∧ b ≤ 31) (hd : 0 ≤ d ∧ d ≤ 511) : ACalls Try.prog 67 [.agg #[.int .i64 12, .int .i64 r, .int .i64 w, .int .i64 a, .int .i64 b, .int .i64 d, .int .i64 k, .bool h]] [] fun v H => v = .agg #[.int .i64 12, .int .i64 r, .int .i64 w, .int .i64 (VT.beatG 12 ⟨a, b, d, k, h⟩).a, .int .i64 (VT.beatG 12 ⟨a, b, d, k, h⟩).b, .int .i64 (VT.beatG 12 ⟨a, b, d, k, h⟩).d, .int .i64 (VT.beatG 12 ⟨a, b, d, k, h⟩).k, .bool (VT.beatG 12 ⟨a, b, d, k, h⟩).h] ∧ H = [] := by
  refine ACalls.code tabOk h67 Try.func67 Try.call67 ok67 ?_
  conv => whnf
  refine ACalls.useE (ref19_falls5 _ ?_) [] rfl (by (conv => whnf); try rfl) (by (conv => whnf); try rfl) ?_
  · omega
  conv => whnf
  exact ⟨rfl, rfl⟩
theorem ref19_beat13 (r w a b d k : Int) (h : Bool) (ha : 0 ≤ a ∧ a ≤ 15) (hb : 0 ≤ b ∧ b ≤ 31) (hd : 0 ≤ d ∧ d ≤ 511) : ACalls Try.prog 67 [.agg #[.int .i64 13, .int .i64 r, .int .i64 w, .int .i64 a, .int .i64 b, .int .i64 d, .int .i64 k, .bool h]] [] fun v H => v = .agg #[.int .i64 13, .int .i64 r, .int .i64 w, .int .i64 (VT.beatG 13 ⟨a, b, d, k, h⟩).a, .int .i64 (VT.beatG 13 ⟨a, b, d, k, h⟩).b, .int .i64 (VT.beatG 13 ⟨a, b, d, k, h⟩).d, .int .i64 (VT.beatG 13 ⟨a, b, d, k, h⟩).k, .bool (VT.beatG 13 ⟨a, b, d, k, h⟩).h] ∧ H = [] := by
  refine ACalls.code tabOk h67 Try.func67 Try.call67 ok67 ?_
  conv => whnf
  refine ACalls.useE (ref19_falls5 _ ?_) [] rfl (by (conv => whnf); try rfl) (by (conv => whnf); try rfl) ?_
  · omega
  conv => whnf
  exact ⟨rfl, rfl⟩
theorem ref19_beat14 (r w a b d k : Int) (h : Bool) (ha : 0 ≤ a ∧ a ≤ 15) (hb : 0 ≤ b ∧ b ≤ 31) (hd : 0 ≤ d ∧ d ≤ 511) : ACalls Try.prog 67 [.agg #[.int .i64 14, .int .i64 r, .int .i64 w, .int .i64 a, .int .i64 b, .int .i64 d, .int .i64 k, .bool h]] [] fun v H => v = .agg #[.int .i64 14, .int .i64 r, .int .i64 w, .int .i64 (VT.beatG 14 ⟨a, b, d, k, h⟩).a, .int .i64 (VT.beatG 14 ⟨a, b, d, k, h⟩).b, .int .i64 (VT.beatG 14 ⟨a, b, d, k, h⟩).d, .int .i64 (VT.beatG 14 ⟨a, b, d, k, h⟩).k, .bool (VT.beatG 14 ⟨a, b, d, k, h⟩).h] ∧ H = [] := by
  cases hq : slow5 (nx8 5 2 b)
  all_goals rw [show VT.beatG 14 ⟨a, b, d, k, h⟩ = _ from by unfold VT.beatG; rw [hq]]
  · have q0 : (nx8 5 2 b != 0) = true := by unfold slow5 at hq; simp only [Bool.or_eq_false_iff, beq_eq_false_iff_ne] at hq; exact bne_iff_ne.2 (show nx8 5 2 b ≠ 0 from hq.1)
    have q18 : (nx8 5 2 b != it5 18) = true := by unfold slow5 at hq; simp only [Bool.or_eq_false_iff, beq_eq_false_iff_ne] at hq; exact bne_iff_ne.2 hq.2
    refine ACalls.code tabOk h67 Try.func67 Try.call67 ok67 ?_
    conv => whnf
    refine ACalls.useE (ref19_falls5 _ ?_) [] rfl (by (conv => whnf); try rfl) (by (conv => whnf); try rfl) ?_
    · omega
    conv => whnf
    refine Bif.knT ?_ fun h0 => ?_
    · with_reducible assumption
    rw [h0]
    conv => whnf
    refine ACalls.useE (ref_state18) [] rfl (by (conv => whnf); try rfl) (by (conv => whnf); try rfl) ?_
    conv => whnf
    refine Bif.knT ?_ fun h1 => ?_
    · with_reducible assumption
    rw [h1]
    conv => whnf
    exact ⟨rfl, rfl⟩
  · by_cases hz : nx8 5 2 b = 0
    · have q0 : (nx8 5 2 b != 0) = false := by simp [hz]
      refine ACalls.code tabOk h67 Try.func67 Try.call67 ok67 ?_
      conv => whnf
      refine ACalls.useE (ref19_falls5 _ ?_) [] rfl (by (conv => whnf); try rfl) (by (conv => whnf); try rfl) ?_
      · omega
      conv => whnf
      refine Bif.knF ?_ fun h0 => ?_
      · with_reducible assumption
      rw [h0]
      conv => whnf
      exact ⟨rfl, rfl⟩
    · have q0 : (nx8 5 2 b != 0) = true := by simp [hz]
      have q18 : (nx8 5 2 b != it5 18) = false := by unfold slow5 at hq; simp only [Bool.or_eq_true, beq_iff_eq] at hq; have := hq.resolve_left hz; simp [this]
      refine ACalls.code tabOk h67 Try.func67 Try.call67 ok67 ?_
      conv => whnf
      refine ACalls.useE (ref19_falls5 _ ?_) [] rfl (by (conv => whnf); try rfl) (by (conv => whnf); try rfl) ?_
      · omega
      conv => whnf
      refine Bif.knT ?_ fun h0 => ?_
      · with_reducible assumption
      rw [h0]
      conv => whnf
      refine ACalls.useE (ref_state18) [] rfl (by (conv => whnf); try rfl) (by (conv => whnf); try rfl) ?_
      conv => whnf
      refine Bif.knF ?_ fun h1 => ?_
      · with_reducible assumption
      rw [h1]
      conv => whnf
      exact ⟨rfl, rfl⟩
theorem ref19_beat15 (r w a b d k : Int) (h : Bool) (ha : 0 ≤ a ∧ a ≤ 15) (hb : 0 ≤ b ∧ b ≤ 31) (hd : 0 ≤ d ∧ d ≤ 511) : ACalls Try.prog 67 [.agg #[.int .i64 15, .int .i64 r, .int .i64 w, .int .i64 a, .int .i64 b, .int .i64 d, .int .i64 k, .bool h]] [] fun v H => v = .agg #[.int .i64 15, .int .i64 r, .int .i64 w, .int .i64 (VT.beatG 15 ⟨a, b, d, k, h⟩).a, .int .i64 (VT.beatG 15 ⟨a, b, d, k, h⟩).b, .int .i64 (VT.beatG 15 ⟨a, b, d, k, h⟩).d, .int .i64 (VT.beatG 15 ⟨a, b, d, k, h⟩).k, .bool (VT.beatG 15 ⟨a, b, d, k, h⟩).h] ∧ H = [] := by
  cases hq : lb8 b
  all_goals rw [show VT.beatG 15 ⟨a, b, d, k, h⟩ = _ from by unfold VT.beatG; rw [hq]]
  · refine ACalls.code tabOk h67 Try.func67 Try.call67 ok67 ?_
    conv => whnf
    refine ACalls.useE (ref19_falls5 _ ?_) [] rfl (by (conv => whnf); try rfl) (by (conv => whnf); try rfl) ?_
    · omega
    conv => whnf
    rw [hq]
    conv => whnf
    exact ⟨rfl, rfl⟩
  · refine ACalls.code tabOk h67 Try.func67 Try.call67 ok67 ?_
    conv => whnf
    refine ACalls.useE (ref19_falls5 _ ?_) [] rfl (by (conv => whnf); try rfl) (by (conv => whnf); try rfl) ?_
    · omega
    conv => whnf
    rw [hq]
    conv => whnf
    exact ⟨rfl, rfl⟩
@[irreducible] def bA (c a b d k : Int) (h : Bool) : Int := (VT.beatG c ⟨a, b, d, k, h⟩).a
@[irreducible] def bB (c a b d k : Int) (h : Bool) : Int := (VT.beatG c ⟨a, b, d, k, h⟩).b
@[irreducible] def bD (c a b d k : Int) (h : Bool) : Int := (VT.beatG c ⟨a, b, d, k, h⟩).d
@[irreducible] def bK (c a b d k : Int) (h : Bool) : Int := (VT.beatG c ⟨a, b, d, k, h⟩).k
@[irreducible] def bH (c a b d k : Int) (h : Bool) : Bool := (VT.beatG c ⟨a, b, d, k, h⟩).h
theorem ref19_beat (c r w a b d k : Int) (h : Bool) (hc : 0 ≤ c ∧ c ≤ 15) (ha : 0 ≤ a ∧ a ≤ 15) (hb : 0 ≤ b ∧ b ≤ 31) (hd : 0 ≤ d ∧ d ≤ 511) : ACalls Try.prog 67 [.agg #[.int .i64 c, .int .i64 r, .int .i64 w, .int .i64 a, .int .i64 b, .int .i64 d, .int .i64 k, .bool h]] [] fun v H => v = .agg #[.int .i64 c, .int .i64 r, .int .i64 w, .int .i64 (bA c a b d k h), .int .i64 (bB c a b d k h), .int .i64 (bD c a b d k h), .int .i64 (bK c a b d k h), .bool (bH c a b d k h)] ∧ H = [] := by
  have hc' : c = 0 ∨ c = 1 ∨ c = 2 ∨ c = 3 ∨ c = 4 ∨ c = 5 ∨ c = 6 ∨ c = 7 ∨ c = 8 ∨ c = 9 ∨ c = 10 ∨ c = 11 ∨ c = 12 ∨ c = 13 ∨ c = 14 ∨ c = 15 := by omega
  unfold bA bB bD bK bH
  rcases hc' with rfl | rfl | rfl | rfl | rfl | rfl | rfl | rfl | rfl | rfl | rfl | rfl | rfl | rfl | rfl | rfl
  · exact ref19_beat0 r w a b d k h ha hb hd
  · exact ref19_beat1 r w a b d k h ha hb hd
  · exact ref19_beat2 r w a b d k h ha hb hd
  · exact ref19_beat3 r w a b d k h ha hb hd
  · exact ref19_beat4 r w a b d k h ha hb hd
  · exact ref19_beat5 r w a b d k h ha hb hd
  · exact ref19_beat6 r w a b d k h ha hb hd
  · exact ref19_beat7 r w a b d k h ha hb hd
  · exact ref19_beat8 r w a b d k h ha hb hd
  · exact ref19_beat9 r w a b d k h ha hb hd
  · exact ref19_beat10 r w a b d k h ha hb hd
  · exact ref19_beat11 r w a b d k h ha hb hd
  · exact ref19_beat12 r w a b d k h ha hb hd
  · exact ref19_beat13 r w a b d k h ha hb hd
  · exact ref19_beat14 r w a b d k h ha hb hd
  · exact ref19_beat15 r w a b d k h ha hb hd
theorem ref19_length (c r w a b d k : Int) (h : Bool) (hr : 0 ≤ r ∧ r ≤ 31) : ACalls Try.prog 66 [.agg #[.int .i64 c, .int .i64 r, .int .i64 w, .int .i64 a, .int .i64 b, .int .i64 d, .int .i64 k, .bool h]] [] fun v H => v = .int .i64 (lenG c r) ∧ H = [] := by
  have e1 : IntKind.i64.wrap (r + 1) = r + 1 := wrap64 (by omega) (by omega)
  have e2 : IntKind.i64.wrap (3 * (r + 1)) = (r + 1) * 3 := by rw [wrap64 (by omega) (by omega)]; omega
  by_cases hc : c < 12
  · have e : lenG c r = r + 1 := if_pos hc
    rw [e]
    refine ACalls.code tabOk h66 Try.func66 Try.call66 ok66 ?_
    conv => whnf
    refine Bif.knF ?_ fun h0 => ?_
    · (simp; omega)
    rw [h0]
    conv => whnf
    rw [e1]
    conv => whnf
    exact ⟨rfl, rfl⟩
  · have e : lenG c r = (r + 1) * 3 := if_neg hc
    rw [e]
    refine ACalls.code tabOk h66 Try.func66 Try.call66 ok66 ?_
    conv => whnf
    refine Bif.knT ?_ fun h0 => ?_
    · (simp; omega)
    rw [h0]
    conv => whnf
    rw [e1]
    conv => whnf
    rw [e2]
    conv => whnf
    exact ⟨rfl, rfl⟩
theorem ref19_tick (c r w a b d k : Int) (h : Bool) (hc : 0 ≤ c ∧ c ≤ 15) (hr : 0 ≤ r ∧ r ≤ 31) (ha : 0 ≤ a ∧ a ≤ 15) (hb : 0 ≤ b ∧ b ≤ 31) (hd : 0 ≤ d ∧ d ≤ 511) (hk : 0 ≤ k ∧ k ≤ 95) : ACalls Try.prog 61 [.agg #[.int .i64 c, .int .i64 r, .int .i64 w, .int .i64 a, .int .i64 b, .int .i64 d, .int .i64 k, .bool h]] [] fun v H => v = .agg #[.int .i64 c, .int .i64 r, .int .i64 w, .int .i64 (tkA c r a b d k h), .int .i64 (tkB c r a b d k h), .int .i64 (tkD c r a b d k h), .int .i64 (tkK c r a b d k h), .bool (tkH c r a b d k h)] ∧ H = [] := by
  have ek : IntKind.i64.wrap (k + 1) = k + 1 := wrap64 (by omega) (by omega)
  by_cases hc2 : lenG c r ≤ k + 1
  · have eA : tkA c r a b d k h = bA c a b d 0 h := by unfold tkA bA VT.tickG; rw [if_pos hc2]
    have eB : tkB c r a b d k h = bB c a b d 0 h := by unfold tkB bB VT.tickG; rw [if_pos hc2]
    have eD : tkD c r a b d k h = bD c a b d 0 h := by unfold tkD bD VT.tickG; rw [if_pos hc2]
    have eK : tkK c r a b d k h = bK c a b d 0 h := by unfold tkK bK VT.tickG; rw [if_pos hc2]
    have eH : tkH c r a b d k h = bH c a b d 0 h := by unfold tkH bH VT.tickG; rw [if_pos hc2]
    rw [eA, eB, eD, eK, eH]
    refine ACalls.code tabOk h61 Try.func61 Try.call61 ok61 ?_
    conv => whnf
    refine ACalls.useE (ref19_length _ _ _ _ _ _ _ _ ?_) [] rfl (by (conv => whnf); try rfl) (by (conv => whnf); try rfl) ?_
    · omega
    conv => whnf
    rw [ek]
    conv => whnf
    refine ⟨rfl, ?_⟩
    conv => whnf
    refine Bif.knF ?_ fun h0 => ?_
    · (simp; omega)
    rw [h0]
    conv => whnf
    refine ACalls.useE (ref19_beat _ _ _ _ _ _ _ _ ?_ ?_ ?_ ?_) [] rfl (by (conv => whnf); try rfl) (by (conv => whnf); try rfl) ?_
    · omega
    · omega
    · omega
    · omega
    conv => whnf
    exact ⟨rfl, rfl⟩
  · have eA : tkA c r a b d k h = a := by unfold tkA VT.tickG; rw [if_neg hc2]
    have eB : tkB c r a b d k h = b := by unfold tkB VT.tickG; rw [if_neg hc2]
    have eD : tkD c r a b d k h = d := by unfold tkD VT.tickG; rw [if_neg hc2]
    have eK : tkK c r a b d k h = k + 1 := by unfold tkK VT.tickG; rw [if_neg hc2]
    have eH : tkH c r a b d k h = h := by unfold tkH VT.tickG; rw [if_neg hc2]
    rw [eA, eB, eD, eK, eH]
    refine ACalls.code tabOk h61 Try.func61 Try.call61 ok61 ?_
    conv => whnf
    refine ACalls.useE (ref19_length _ _ _ _ _ _ _ _ ?_) [] rfl (by (conv => whnf); try rfl) (by (conv => whnf); try rfl) ?_
    · omega
    conv => whnf
    rw [ek]
    conv => whnf
    refine ⟨rfl, ?_⟩
    conv => whnf
    refine Bif.knT ?_ fun h0 => ?_
    · (simp; omega)
    rw [h0]
    conv => whnf
    rw [ek]
    conv => whnf
    exact ⟨rfl, rfl⟩
theorem ref19_level (c r w a b d k : Int) (h : Bool) : ACalls Try.prog 43 [.agg #[.int .i64 c, .int .i64 r, .int .i64 w, .int .i64 a, .int .i64 b, .int .i64 d, .int .i64 k, .bool h]] [] fun v H => v = .int .i64 (levG c w h) ∧ H = [] := by
  cases h with
  | true =>
    have e : levG c w true = w := by unfold levG; rw [if_pos (.inr (.inr rfl))]
    rw [e]
    refine ACalls.code tabOk h43 Try.func43 Try.call43 ok43 ?_
    conv => whnf
    exact ⟨rfl, rfl⟩
  | false =>
    by_cases h0 : c = 0
    · have e : levG c w false = w := by unfold levG; rw [if_pos (.inl h0)]
      rw [e]
      subst h0
      refine ACalls.code tabOk h43 Try.func43 Try.call43 ok43 ?_
      conv => whnf
      exact ⟨rfl, rfl⟩
    · by_cases h11 : c = 11
      · have e : levG c w false = w := by unfold levG; rw [if_pos (.inr (.inl h11))]
        rw [e]
        subst h11
        refine ACalls.code tabOk h43 Try.func43 Try.call43 ok43 ?_
        conv => whnf
        exact ⟨rfl, rfl⟩
      · have e : levG c w false = 0 := by unfold levG; rw [if_neg (by simp [h0, h11])]
        rw [e]
        refine ACalls.code tabOk h43 Try.func43 Try.call43 ok43 ?_
        conv => whnf
        refine Bif.knF ?_ fun h0 => ?_
        · (simp [h0]; done)
        rw [h0]
        conv => whnf
        refine Bif.knF ?_ fun h1 => ?_
        · (simp [h11]; done)
        rw [h1]
        conv => whnf
        exact ⟨rfl, rfl⟩
theorem ref19_words (c r w a b d k : Int) (h : Bool) : ACalls Try.prog 42 [.agg #[.int .i64 c, .int .i64 r, .int .i64 w, .int .i64 a, .int .i64 b, .int .i64 d, .int .i64 k, .bool h]] [] fun v H => v = .agg #[.int .i64 c, .int .i64 r, .int .i64 w, .int .i64 a, .int .i64 b, .int .i64 d, .int .i64 k, .int .i64 (one2 h)] ∧ H = [] := by
  cases h <;> refine ACalls.code tabOk h42 Try.func42 Try.call42 ok42 ?_ <;> (conv => whnf)
  · exact ⟨rfl, rfl⟩
  · exact ⟨rfl, rfl⟩
theorem ref19_of (w0 w1 w2 w3 w4 w5 w6 w7 : Int) : ACalls Try.prog 60 [.agg #[.int .i64 w0, .int .i64 w1, .int .i64 w2, .int .i64 w3, .int .i64 w4, .int .i64 w5, .int .i64 w6, .int .i64 w7]] [] fun v H => v = .agg #[.int .i64 w0, .int .i64 w1, .int .i64 w2, .int .i64 w3, .int .i64 w4, .int .i64 w5, .int .i64 w6, .bool (w7 == 1)] ∧ H = [] := by
  refine ACalls.code tabOk h60 Try.func60 Try.call60 ok60 ?_
  conv => whnf
  exact ⟨rfl, rfl⟩
theorem ref19_right (w0 w1 w2 w3 w4 w5 w6 w7 : Int) : ACalls Try.prog 59 [.agg #[.int .i64 w0, .int .i64 w1, .int .i64 w2, .int .i64 w3, .int .i64 w4, .int .i64 w5, .int .i64 w6, .int .i64 w7]] [] fun v H => v = .bool (okW w0 w1 w2 w3 w4 w5 w6 w7) ∧ H = [] := by
  cases hW : okW w0 w1 w2 w3 w4 w5 w6 w7 with
  | true =>
    have h' := (okW_iff ..).1 hW
    refine ACalls.code tabOk h59 Try.func59 Try.call59 ok59 ?_
    conv => whnf
    refine ALoop.run 9 ?_
    conv => whnf
    refine Bif.of (fun h0 => ?_) fun h0 => ?_
    · rw [h0]
      conv => whnf
      (exfalso; clear hW; simp only [beq_iff_eq, beq_eq_false_iff_ne, ne_eq, decide_eq_true_eq, decide_eq_false_iff_not] at *; omega)
    · rw [h0]
      conv => whnf
      refine Bif.of (fun h1 => ?_) fun h1 => ?_
      · rw [h1]
        conv => whnf
        (exfalso; clear hW; simp only [beq_iff_eq, beq_eq_false_iff_ne, ne_eq, decide_eq_true_eq, decide_eq_false_iff_not] at *; omega)
      · rw [h1]
        conv => whnf
        refine Bif.of (fun h2 => ?_) fun h2 => ?_
        · rw [h2]
          conv => whnf
          (exfalso; clear hW; simp only [beq_iff_eq, beq_eq_false_iff_ne, ne_eq, decide_eq_true_eq, decide_eq_false_iff_not] at *; omega)
        · rw [h2]
          conv => whnf
          refine Bif.of (fun h3 => ?_) fun h3 => ?_
          · rw [h3]
            conv => whnf
            (exfalso; clear hW; simp only [beq_iff_eq, beq_eq_false_iff_ne, ne_eq, decide_eq_true_eq, decide_eq_false_iff_not] at *; omega)
          · rw [h3]
            conv => whnf
            refine Bif.of (fun h4 => ?_) fun h4 => ?_
            · rw [h4]
              conv => whnf
              (exfalso; clear hW; simp only [beq_iff_eq, beq_eq_false_iff_ne, ne_eq, decide_eq_true_eq, decide_eq_false_iff_not] at *; omega)
            · rw [h4]
              conv => whnf
              refine Bif.of (fun h5 => ?_) fun h5 => ?_
              · rw [h5]
                conv => whnf
                (exfalso; clear hW; simp only [beq_iff_eq, beq_eq_false_iff_ne, ne_eq, decide_eq_true_eq, decide_eq_false_iff_not] at *; omega)
              · rw [h5]
                conv => whnf
                refine Bif.of (fun h6 => ?_) fun h6 => ?_
                · rw [h6]
                  conv => whnf
                  (exfalso; clear hW; simp only [beq_iff_eq, beq_eq_false_iff_ne, ne_eq, decide_eq_true_eq, decide_eq_false_iff_not] at *; omega)
                · rw [h6]
                  conv => whnf
                  refine Bif.of (fun h7 => ?_) fun h7 => ?_
                  · rw [h7]
                    conv => whnf
                    (exfalso; clear hW; simp only [beq_iff_eq, beq_eq_false_iff_ne, ne_eq, decide_eq_true_eq, decide_eq_false_iff_not] at *; omega)
                  · rw [h7]
                    conv => whnf
                    refine Bif.of (fun h8 => ?_) fun h8 => ?_
                    · rw [h8]
                      conv => whnf
                      (exfalso; clear hW; simp only [beq_iff_eq, beq_eq_false_iff_ne, ne_eq, decide_eq_true_eq, decide_eq_false_iff_not] at *; omega)
                    · rw [h8]
                      conv => whnf
                      refine Bif.of (fun h9 => ?_) fun h9 => ?_
                      · rw [h9]
                        conv => whnf
                        (exfalso; clear hW; simp only [beq_iff_eq, beq_eq_false_iff_ne, ne_eq, decide_eq_true_eq, decide_eq_false_iff_not] at *; omega)
                      · rw [h9]
                        conv => whnf
                        refine Bif.of (fun h10 => ?_) fun h10 => ?_
                        · rw [h10]
                          conv => whnf
                          (exfalso; clear hW; simp only [beq_iff_eq, beq_eq_false_iff_ne, ne_eq, decide_eq_true_eq, decide_eq_false_iff_not] at *; omega)
                        · rw [h10]
                          conv => whnf
                          refine Bif.of (fun h11 => ?_) fun h11 => ?_
                          · rw [h11]
                            conv => whnf
                            (exfalso; clear hW; simp only [beq_iff_eq, beq_eq_false_iff_ne, ne_eq, decide_eq_true_eq, decide_eq_false_iff_not] at *; omega)
                          · rw [h11]
                            conv => whnf
                            refine Bif.of (fun h12 => ?_) fun h12 => ?_
                            · rw [h12]
                              conv => whnf
                              (exfalso; clear hW; simp only [beq_iff_eq, beq_eq_false_iff_ne, ne_eq, decide_eq_true_eq, decide_eq_false_iff_not] at *; omega)
                            · rw [h12]
                              conv => whnf
                              refine Bif.of (fun h13 => ?_) fun h13 => ?_
                              · rw [h13]
                                conv => whnf
                                (exfalso; clear hW; simp only [beq_iff_eq, beq_eq_false_iff_ne, ne_eq, decide_eq_true_eq, decide_eq_false_iff_not] at *; omega)
                              · rw [h13]
                                conv => whnf
                                refine Bif.of (fun h14 => ?_) fun h14 => ?_
                                · rw [h14]
                                  conv => whnf
                                  (exfalso; clear hW; simp only [beq_iff_eq, beq_eq_false_iff_ne, ne_eq, decide_eq_true_eq, decide_eq_false_iff_not] at *; omega)
                                · rw [h14]
                                  conv => whnf
                                  refine Bif.of (fun h15 => ?_) fun h15 => ?_
                                  · rw [h15]
                                    conv => whnf
                                    (exfalso; clear hW; simp only [beq_iff_eq, beq_eq_false_iff_ne, ne_eq, decide_eq_true_eq, decide_eq_false_iff_not] at *; omega)
                                  · rw [h15]
                                    conv => whnf
                                    exact ⟨rfl, rfl⟩
  | false =>
    have h' := okW_not hW
    refine ACalls.code tabOk h59 Try.func59 Try.call59 ok59 ?_
    conv => whnf
    refine ALoop.run 9 ?_
    conv => whnf
    refine Bif.of (fun h0 => ?_) fun h0 => ?_
    · rw [h0]
      conv => whnf
      exact ⟨rfl, rfl⟩
    · rw [h0]
      conv => whnf
      refine Bif.of (fun h1 => ?_) fun h1 => ?_
      · rw [h1]
        conv => whnf
        exact ⟨rfl, rfl⟩
      · rw [h1]
        conv => whnf
        refine Bif.of (fun h2 => ?_) fun h2 => ?_
        · rw [h2]
          conv => whnf
          exact ⟨rfl, rfl⟩
        · rw [h2]
          conv => whnf
          refine Bif.of (fun h3 => ?_) fun h3 => ?_
          · rw [h3]
            conv => whnf
            exact ⟨rfl, rfl⟩
          · rw [h3]
            conv => whnf
            refine Bif.of (fun h4 => ?_) fun h4 => ?_
            · rw [h4]
              conv => whnf
              exact ⟨rfl, rfl⟩
            · rw [h4]
              conv => whnf
              refine Bif.of (fun h5 => ?_) fun h5 => ?_
              · rw [h5]
                conv => whnf
                exact ⟨rfl, rfl⟩
              · rw [h5]
                conv => whnf
                refine Bif.of (fun h6 => ?_) fun h6 => ?_
                · rw [h6]
                  conv => whnf
                  exact ⟨rfl, rfl⟩
                · rw [h6]
                  conv => whnf
                  refine Bif.of (fun h7 => ?_) fun h7 => ?_
                  · rw [h7]
                    conv => whnf
                    exact ⟨rfl, rfl⟩
                  · rw [h7]
                    conv => whnf
                    refine Bif.of (fun h8 => ?_) fun h8 => ?_
                    · rw [h8]
                      conv => whnf
                      exact ⟨rfl, rfl⟩
                    · rw [h8]
                      conv => whnf
                      refine Bif.of (fun h9 => ?_) fun h9 => ?_
                      · rw [h9]
                        conv => whnf
                        exact ⟨rfl, rfl⟩
                      · rw [h9]
                        conv => whnf
                        refine Bif.of (fun h10 => ?_) fun h10 => ?_
                        · rw [h10]
                          conv => whnf
                          exact ⟨rfl, rfl⟩
                        · rw [h10]
                          conv => whnf
                          refine Bif.of (fun h11 => ?_) fun h11 => ?_
                          · rw [h11]
                            conv => whnf
                            exact ⟨rfl, rfl⟩
                          · rw [h11]
                            conv => whnf
                            refine Bif.of (fun h12 => ?_) fun h12 => ?_
                            · rw [h12]
                              conv => whnf
                              exact ⟨rfl, rfl⟩
                            · rw [h12]
                              conv => whnf
                              refine Bif.of (fun h13 => ?_) fun h13 => ?_
                              · rw [h13]
                                conv => whnf
                                exact ⟨rfl, rfl⟩
                              · rw [h13]
                                conv => whnf
                                refine Bif.of (fun h14 => ?_) fun h14 => ?_
                                · rw [h14]
                                  conv => whnf
                                  exact ⟨rfl, rfl⟩
                                · rw [h14]
                                  conv => whnf
                                  refine Bif.of (fun h15 => ?_) fun h15 => ?_
                                  · rw [h15]
                                    conv => whnf
                                    exact ⟨rfl, rfl⟩
                                  · rw [h15]
                                    conv => whnf
                                    (exfalso; clear hW; simp only [beq_iff_eq, beq_eq_false_iff_ne, ne_eq, decide_eq_true_eq, decide_eq_false_iff_not] at *; omega)
end Go.Proofs
