/-
  Walks through the functions of the program, by contract.
-/
import Derived.Test.YtmdiokmkokjpiaaGreatZpF
set_option linter.all false
set_option linter.unusedVariables false
set_option linter.unusedSimpArgs false
set_option linter.unnecessarySimpa false
namespace Go.Proofs
open Go.Aw
set_option maxRecDepth 100000
set_option maxHeartbeats 8000000
theorem revI_zero : revI 0 = 0 := by unfold revI; decide +kernel
theorem graphI_zero (m : Bool) (w d : Int) : graphI 0 m w d = false := by
  unfold graphI bitN
  rw [revI_zero, Int.zero_ediv]
  split
  · rfl
  · split
    · rfl
    · split <;> rfl
theorem plB0_zero {s : TS} (h : s.g00 = 0) : plB0 s = false := by unfold plB0; rw [h]; exact graphI_zero _ _ _
theorem plB1_zero {s : TS} (h : s.g10 = 0) : plB1 s = false := by unfold plB1; rw [h]; exact graphI_zero _ _ _
@[irreducible] def dr2 : TS := stp dr1
@[irreducible] def dr3 : TS := stp dr2
theorem dr2_top : dr2.Top := by unfold dr2; exact stp_top dr1_top
theorem dr1_c : dr1.c = 67 := by unfold dr1 dr0; rfl
theorem dr2_c : dr2.c = 68 := by unfold dr2; rw [stp_cc, dr1_c]
theorem dr2_g00 : dr2.g00 = 0 := by unfold dr2; rw [stp_g00]; unfold dr1 dr0; rfl
theorem dr2_g10 : dr2.g10 = 0 := by unfold dr2; rw [stp_g10]; unfold dr1 dr0; rfl
theorem dr2_rg (j : Nat) (hj : j < 64) : rg dr2.L j = if j = 9 then 30 else 0 := by
  have e : dr2.L = wrg zeros 9 30 := by unfold dr2; rw [stp_L]; unfold dr1 dr0; rfl
  rw [e, rg_wr (show Rg zeros from Rg.zero) hj, rg_zeros]
theorem dr_px : pxV dr2 = 30 := by
  unfold pxV
  rw [dr2_c, if_neg (by decide)]
  have hp : pfB dr2 ((68 - 68 : Nat) : Int) = false := by
    unfold pfB
    rw [dr2_rg 13 (by decide), dr2_rg 14 (by decide), dr2_rg 15 (by decide), dr2_rg 10 (by decide)]
    unfold litI fldI
    rw [if_neg (show ¬ (13 = 9) by decide), if_neg (show ¬ (14 = 9) by decide), if_neg (show ¬ (15 = 9) by decide), revI_zero]
    decide
  have hs : snB dr2 ((68 - 68 : Nat) : Int) = 3 := by
    unfold snB
    rw [hp, plB0_zero dr2_g00, plB1_zero dr2_g10, dr2_rg 10 (by decide)]
    decide
  unfold pxI
  rw [hs, dr2_rg _ (by decide)]
  decide
theorem step67 : ACalls Tryz.prog 12 [.pointer (some ⟨0, 0, none⟩)] (tsH dr1) fun v H => v = .agg #[.int .i64 67, .int .u8 (pxV dr1), .bool true, .bool (decide (20 ≤ dr1.c ∧ dr1.c < 36)), .int .u8 0, .bool (decide (dr1.c = 0))] ∧ H = tsH dr2 := by
  have := t_step dr1 dr1_top
  rw [show ((dr1.c : Nat) : Int) = 67 from by rw [dr1_c]; rfl, decide_eq_true (show dr1.c < 68 by rw [dr1_c]; decide)] at this
  unfold dr2; exact this
theorem step68 : ACalls Tryz.prog 12 [.pointer (some ⟨0, 0, none⟩)] (tsH dr2) fun v H => v = .agg #[.int .i64 68, .int .u8 30, .bool false, .bool (decide (20 ≤ dr2.c ∧ dr2.c < 36)), .int .u8 0, .bool (decide (dr2.c = 0))] ∧ H = tsH dr3 := by
  have := t_step dr2 dr2_top
  rw [show ((dr2.c : Nat) : Int) = 68 from by rw [dr2_c]; rfl, decide_eq_false (show ¬ dr2.c < 68 by rw [dr2_c]; decide), dr_px] at this
  unfold dr3; exact this
theorem t_drawsG (d0 d1 d2 d3 : TS) (s0 : d0.Top) (s1 : d1.Top) (s2 : d2.Top) (s3 : d3.Top) (b1 b2 b3 b4 : Bool) (p1 : Int)
    (k0 : ACalls Tryz.prog 7 [.int .i64 67] [] fun v H => v = .pointer (some ⟨0, 0, none⟩) ∧ H = tsH d0)
    (k1 : ACalls Tryz.prog 8 [.pointer (some ⟨0, 0, none⟩), .int .u16 9, .int .u8 30] (tsH d0) fun r H => r = .tuple #[] ∧ H = tsH d1)
    (k2 : ACalls Tryz.prog 12 [.pointer (some ⟨0, 0, none⟩)] (tsH d1) fun v H => v = .agg #[.int .i64 67, .int .u8 p1, .bool true, .bool b1, .int .u8 0, .bool b2] ∧ H = tsH d2)
    (k3 : ACalls Tryz.prog 12 [.pointer (some ⟨0, 0, none⟩)] (tsH d2) fun v H => v = .agg #[.int .i64 68, .int .u8 30, .bool false, .bool b3, .int .u8 0, .bool b4] ∧ H = tsH d3) :
    ACalls Tryz.prog 6 [] [] fun v H => v = .bool true ∧ H = [] := by
  have hL0 := s0.L
  have hL1 := s1.L
  have hL2 := s2.L
  have hL3 := s3.L
  refine ACalls.code tabOk h6 Tryz.func6 Tryz.call6 ok6 ?_
  conv => whnf
  refine ACalls.useE (k0) [] rfl (by (conv => whnf); first | done | rfl | (refine renL_rec hL0.flat ?_; (conv => whnf); first | done | rfl) | (refine renL_rec hL1.flat ?_; (conv => whnf); first | done | rfl) | (refine renL_rec hL2.flat ?_; (conv => whnf); first | done | rfl)) (by (conv => whnf); try rfl) ?_
  conv => whnf
  refine renL_rec hL0.flat ?_
  conv => whnf
  refine ACalls.useE (k1) [0, 1, 2, 3, 4, 5, 6, 7, 8, 9, 10, 11, 12, 13, 14, 15, 16, 17, 18, 19, 20, 21, 22, 23, 24, 25, 26, 27, 28, 29, 30, 31, 32, 33, 34, 35, 36, 37, 38, 39] rfl (by (conv => whnf); first | done | rfl | (refine renL_rec hL0.flat ?_; (conv => whnf); first | done | rfl) | (refine renL_rec hL1.flat ?_; (conv => whnf); first | done | rfl) | (refine renL_rec hL2.flat ?_; (conv => whnf); first | done | rfl)) (by (conv => whnf); try rfl) ?_
  conv => whnf
  refine renL_rec hL1.flat ?_
  conv => whnf
  refine ACalls.useE (k2) [0, 1, 2, 3, 4, 5, 6, 7, 8, 9, 10, 11, 12, 13, 14, 15, 16, 17, 18, 19, 20, 21, 22, 23, 24, 25, 26, 27, 28, 29, 30, 31, 32, 33, 34, 35, 36, 37, 38, 39] rfl (by (conv => whnf); first | done | rfl | (refine renL_rec hL0.flat ?_; (conv => whnf); first | done | rfl) | (refine renL_rec hL1.flat ?_; (conv => whnf); first | done | rfl) | (refine renL_rec hL2.flat ?_; (conv => whnf); first | done | rfl)) (by (conv => whnf); try rfl) ?_
  conv => whnf
  refine renL_rec hL2.flat ?_
  conv => whnf
  refine ACalls.useE (k3) [0, 1, 2, 3, 4, 5, 6, 7, 8, 9, 10, 11, 12, 13, 14, 15, 16, 17, 18, 19, 20, 21, 22, 23, 24, 25, 26, 27, 28, 29, 30, 31, 32, 33, 34, 35, 36, 37, 38, 39] rfl (by (conv => whnf); first | done | rfl | (refine renL_rec hL0.flat ?_; (conv => whnf); first | done | rfl) | (refine renL_rec hL1.flat ?_; (conv => whnf); first | done | rfl) | (refine renL_rec hL2.flat ?_; (conv => whnf); first | done | rfl)) (by (conv => whnf); try rfl) ?_
  conv => whnf
  refine renL_rec hL3.flat ?_
  conv => whnf
  exact ⟨rfl, rfl⟩
theorem t_draws : ACalls Tryz.prog 6 [] [] fun v H => v = .bool true ∧ H = [] :=
  t_drawsG dr0 dr1 dr2 dr3 dr0_top dr1_top dr2_top (by unfold dr3; exact stp_top dr2_top) _ _ _ _ _ new67 sto67 step67 step68
end Go.Proofs
