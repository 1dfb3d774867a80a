/-
  Walks through the functions of the program, by contract.
-/
import Derived.Test.YtmdiokmkokjpiaaGreatZlF
set_option linter.all false
set_option linter.unusedVariables false
set_option linter.unusedSimpArgs false
set_option linter.unnecessarySimpa false
namespace Go.Proofs
open Go.Aw
set_option maxRecDepth 100000
set_option maxHeartbeats 8000000
def VC.tk (v : VC) : VC := ⟨nx8 4 1 v.a, nx8 5 2 v.b, lb8 v.a⟩
theorem mo_idleS (s : TS) (hm : s.m = ⟨16, 0, false, false, false, false, false⟩) (k n0 n1 n2 n3 n4 : Int) : ACalls Tryz.prog 38 [.pointer (some ⟨0, 0, none⟩), .int .i64 k, .agg #[.int .u8 n0, .int .u8 n1, .int .u8 n2, .int .u8 n3, .int .u8 n4]] [s.m.blk] fun v H => v = .agg #[.bool false, .bool false, .bool false, .bool false, .bool false] ∧ H = [s.m.blk] := by rw [hm]; exact mo_idle k n0 n1 n2 n3 n4
theorem TS.Top.line {s : TS} (h : s.Top) : TS.Top { s with wait := false, q := min (s.q + 1) 511 } := ⟨⟨h.c, h.mc, h.mg, h.t0, h.t1, h.t2, h.t3, h.t4, Nat.min_le_right _ _, h.L, h.g00, h.g01, h.g10, h.g11, h.met⟩, h.late, h.m, h.b0, h.b1, h.z⟩
theorem mtI_bd {s : TS} (h : 0 ≤ s.met ∧ s.met ≤ 65535) (x : Int) : 0 ≤ mtI s x ∧ mtI s x ≤ 65535 := by
  have hm := meetN_bd (plB0 s) (plB1 s) false false false (pfB s x) 15
  rw [show (2 : Int) ^ 15 = 32768 from by decide] at hm
  unfold mtI
  obtain ⟨a, ha⟩ : ∃ a : Nat, s.met = a := ⟨s.met.toNat, by omega⟩
  obtain ⟨b, hb⟩ : ∃ b : Nat, meetN (plB0 s) (plB1 s) false false false (pfB s x) 15 = b := ⟨(meetN (plB0 s) (plB1 s) false false false (pfB s x) 15).toNat, by omega⟩
  have hb2 : b < 65536 := by omega
  have ha2 : a < 65536 := by omega
  rw [hb, ha, or_nat .u16 rfl a b ha2 hb2]
  have := Nat.or_lt_two_pow (n := 16) ha2 hb2
  omega
theorem TS.Top.drawn {s : TS} (h : s.Top) (x : Int) : TS.Top { s with met := mtI s x } := ⟨⟨h.c, h.mc, h.mg, h.t0, h.t1, h.t2, h.t3, h.t4, h.q, h.L, h.g00, h.g01, h.g10, h.g11, mtI_bd h.met x⟩, h.late, h.m, h.b0, h.b1, h.z⟩
theorem stp_a (s : TS) (hs : s.Top) (hc0 : s.c = 0) : ACalls Tryz.prog 12 [.pointer (some ⟨0, 0, none⟩)] (tsH s) fun v H => v = .agg #[.int .i64 (s.c : Nat), .int .u8 0, .bool true, .bool (decide (20 ≤ s.c ∧ s.c < 36)), .int .u8 0, .bool true] ∧ H = tsH { s with c := (s.c + 1) % 228, wait := false, q := min (s.q + 1) 511 } := by
  have hL := hs.L
  have hc := hs.c
  have hq := hs.q
  have z0 := hs.z 0 (by decide)
  have z1 := hs.z 1 (by decide)
  have hs1 := hs.line
  have hsm := hs.drawn ((s.c - 68 : Nat) : Int)
  have hidle := hs.m
  have elate : (s.late && !decide (s.c = 0)) = s.late := by rw [hs.late]; rfl
  have edark : decide (s.c < if s.late = true then 76 else 68) = true := by rw [hs.late]; simp; omega
  have ebeg : decide (s.c = 0) = true := by simp; omega
  have e57 : ((s.c : Int) == 57) = false := by simp; omega
  have e171 : ((s.c : Int) == 171) = false := by simp; omega
  refine ACalls.code tabOk h12 Tryz.func12 Tryz.call12 ok12 ?_
  conv => whnf
  refine getF_pre rfl ?_
  conv => whnf
  refine ACalls.useE (bm_begin _ _ ?_) [1, 11, 12, 24] rfl (by (conv => whnf); first | done | rfl | (refine renL_rec hL.flat ?_; (conv => whnf); first | done | rfl)) (by (conv => whnf); try rfl) ?_
  · omega
  conv => whnf
  rw [elate]
  conv => whnf
  rw [ebeg]
  conv => whnf
  refine putF_sufR hL.len 7 rfl ?_
  conv => whnf
  refine getF_pre rfl ?_
  conv => whnf
  refine ACalls.useE (pt_line _ ?_) [10] rfl (by (conv => whnf); first | done | rfl | (refine renL_rec hL.flat ?_; (conv => whnf); first | done | rfl)) (by (conv => whnf); try rfl) ?_
  · omega
  conv => whnf
  refine getF_pre rfl ?_
  conv => whnf
  refine ACalls.useE (bm_clock _ _ ?_) [1, 11, 12, 24] rfl (by (conv => whnf); first | done | rfl | (refine renL_rec hL.flat ?_; (conv => whnf); first | done | rfl)) (by (conv => whnf); try rfl) ?_
  · omega
  conv => whnf
  refine getF_pre rfl ?_
  conv => whnf
  refine ACalls.useE (bm_dark _ _ ?_) [1, 11, 12, 24] rfl (by (conv => whnf); first | done | rfl | (refine renL_rec hL.flat ?_; (conv => whnf); first | done | rfl)) (by (conv => whnf); try rfl) ?_
  · omega
  conv => whnf
  rw [edark]
  conv => whnf
  refine getF_pre rfl ?_
  conv => whnf
  refine ACalls.useE (tnib _ hs1) [0, 1, 2, 3, 4, 5, 6, 7, 8, 9, 10, 11, 12, 13, 14, 15, 16, 17, 18, 19, 20, 21, 22, 23, 24, 25, 26, 27, 28, 29, 30, 31, 32, 33, 34, 35, 36, 37, 38, 39] rfl (by (conv => whnf); first | done | rfl | (refine renL_rec hL.flat ?_; (conv => whnf); first | done | rfl)) (by (conv => whnf); try rfl) ?_
  conv => whnf
  refine renL_rec hL.flat ?_
  conv => whnf
  refine ⟨rfl, ?_⟩
  conv => whnf
  refine getF_pre rfl ?_
  conv => whnf
  refine ⟨rfl, ?_⟩
  conv => whnf
  refine ACalls.useE (mo_idleS s hidle _ _ _ _ _ _) [2] rfl (by (conv => whnf); first | done | rfl | (refine renL_rec hL.flat ?_; (conv => whnf); first | done | rfl)) (by (conv => whnf); try rfl) ?_
  conv => whnf
  refine getF_pre rfl ?_
  conv => whnf
  refine ACalls.useE (bm_pulse _ _ ?_) [1, 11, 12, 24] rfl (by (conv => whnf); first | done | rfl | (refine renL_rec hL.flat ?_; (conv => whnf); first | done | rfl)) (by (conv => whnf); try rfl) ?_
  · omega
  conv => whnf
  refine Bif.of (fun h0 => ?_) fun h0 => ?_
  · rw [h0]
    conv => whnf
    refine ACalls.useE (tk_none _ hs1) [0, 1, 2, 3, 4, 5, 6, 7, 8, 9, 10, 11, 12, 13, 14, 15, 16, 17, 18, 19, 20, 21, 22, 23, 24, 25, 26, 27, 28, 29, 30, 31, 32, 33, 34, 35, 36, 37, 38, 39] rfl (by (conv => whnf); first | done | rfl | (refine renL_rec hL.flat ?_; (conv => whnf); first | done | rfl)) (by (conv => whnf); try rfl) ?_
    conv => whnf
    refine renL_rec hL.flat ?_
    conv => whnf
    refine dropF_pre rfl ?_
    conv => whnf
    refine takeF_preR rfl ?_
    conv => whnf
    refine ALoop.run 3 ?_
    conv => whnf
    rw [e57]
    conv => whnf
    rw [e171]
    conv => whnf
    refine ACalls.useE (vc_level _ _ _) [8, 18, 19, 20] rfl (by (conv => whnf); first | done | rfl | (refine renL_rec hL.flat ?_; (conv => whnf); first | done | rfl)) (by (conv => whnf); try rfl) ?_
    conv => whnf
    refine ⟨rfl, ?_⟩
    conv => whnf
    rw [e57]
    conv => whnf
    rw [e171]
    conv => whnf
    refine ACalls.useE (vc_level _ _ _) [9, 21, 22, 23] rfl (by (conv => whnf); first | done | rfl | (refine renL_rec hL.flat ?_; (conv => whnf); first | done | rfl)) (by (conv => whnf); try rfl) ?_
    conv => whnf
    refine ⟨rfl, ?_⟩
    conv => whnf
    refine getF_pre rfl ?_
    conv => whnf
    refine ACalls.useE (bm_next _ _ ?_) [1, 11, 12, 24] rfl (by (conv => whnf); first | done | rfl | (refine renL_rec hL.flat ?_; (conv => whnf); first | done | rfl)) (by (conv => whnf); try rfl) ?_
    · omega
    conv => whnf
    refine Req.of ?_ ?_
    · exact recC_all rfl (hL.all fun _ => rfl) rfl
    conv => whnf
    exact ⟨rfl, rfl⟩
  · rw [h0]
    conv => whnf
    refine ACalls.code tabOk h40 Tryz.func40 Tryz.call40 ok40 ?_
    conv => whnf
    refine getF_rg hL 0 rfl (by decide) ?_
    conv => whnf
    rw [z0]
    conv => whnf
    refine Req.of ?_ ?_
    · exact recC_all rfl (hL.all fun _ => rfl) rfl
    conv => whnf
    refine ACalls.useE (tk_none _ hs1) [0, 1, 2, 3, 4, 5, 6, 7, 8, 9, 10, 11, 12, 13, 14, 15, 16, 17, 18, 19, 20, 21, 22, 23, 24, 25, 26, 27, 28, 29, 30, 31, 32, 33, 34, 35, 36, 37, 38, 39] rfl (by (conv => whnf); first | done | rfl | (refine renL_rec hL.flat ?_; (conv => whnf); first | done | rfl)) (by (conv => whnf); try rfl) ?_
    conv => whnf
    refine renL_rec hL.flat ?_
    conv => whnf
    refine dropF_pre rfl ?_
    conv => whnf
    refine takeF_preR rfl ?_
    conv => whnf
    refine ALoop.run 3 ?_
    conv => whnf
    rw [e57]
    conv => whnf
    rw [e171]
    conv => whnf
    refine ACalls.useE (vc_level _ _ _) [8, 18, 19, 20] rfl (by (conv => whnf); first | done | rfl | (refine renL_rec hL.flat ?_; (conv => whnf); first | done | rfl)) (by (conv => whnf); try rfl) ?_
    conv => whnf
    refine ⟨rfl, ?_⟩
    conv => whnf
    rw [e57]
    conv => whnf
    rw [e171]
    conv => whnf
    refine ACalls.useE (vc_level _ _ _) [9, 21, 22, 23] rfl (by (conv => whnf); first | done | rfl | (refine renL_rec hL.flat ?_; (conv => whnf); first | done | rfl)) (by (conv => whnf); try rfl) ?_
    conv => whnf
    refine ⟨rfl, ?_⟩
    conv => whnf
    refine getF_pre rfl ?_
    conv => whnf
    refine ACalls.useE (bm_next _ _ ?_) [1, 11, 12, 24] rfl (by (conv => whnf); first | done | rfl | (refine renL_rec hL.flat ?_; (conv => whnf); first | done | rfl)) (by (conv => whnf); try rfl) ?_
    · omega
    conv => whnf
    refine Req.of ?_ ?_
    · exact recC_all rfl (hL.all fun _ => rfl) rfl
    conv => whnf
    exact ⟨rfl, rfl⟩
theorem stp_b (s : TS) (hs : s.Top) (hc0 : ¬ s.c = 0) (hc1 : s.c < 68) (hc2 : ¬ s.c = 57) : ACalls Tryz.prog 12 [.pointer (some ⟨0, 0, none⟩)] (tsH s) fun v H => v = .agg #[.int .i64 (s.c : Nat), .int .u8 0, .bool true, .bool (decide (20 ≤ s.c ∧ s.c < 36)), .int .u8 0, .bool false] ∧ H = tsH { s with c := (s.c + 1) % 228 } := by
  have hL := hs.L
  have hc := hs.c
  have hq := hs.q
  have z0 := hs.z 0 (by decide)
  have z1 := hs.z 1 (by decide)
  have hs1 := hs.line
  have hsm := hs.drawn ((s.c - 68 : Nat) : Int)
  have hidle := hs.m
  have elate : (s.late && !decide (s.c = 0)) = s.late := by rw [hs.late]; rfl
  have edark : decide (s.c < if s.late = true then 76 else 68) = true := by rw [hs.late]; simp; omega
  have ebeg : decide (s.c = 0) = false := by simp; omega
  have e57 : ((s.c : Int) == 57) = false := by simp; omega
  have e171 : ((s.c : Int) == 171) = false := by simp; omega
  refine ACalls.code tabOk h12 Tryz.func12 Tryz.call12 ok12 ?_
  conv => whnf
  refine getF_pre rfl ?_
  conv => whnf
  refine ACalls.useE (bm_begin _ _ ?_) [1, 11, 12, 24] rfl (by (conv => whnf); first | done | rfl | (refine renL_rec hL.flat ?_; (conv => whnf); first | done | rfl)) (by (conv => whnf); try rfl) ?_
  · omega
  conv => whnf
  rw [elate]
  conv => whnf
  rw [ebeg]
  conv => whnf
  refine getF_pre rfl ?_
  conv => whnf
  refine ACalls.useE (bm_clock _ _ ?_) [1, 11, 12, 24] rfl (by (conv => whnf); first | done | rfl | (refine renL_rec hL.flat ?_; (conv => whnf); first | done | rfl)) (by (conv => whnf); try rfl) ?_
  · omega
  conv => whnf
  refine getF_pre rfl ?_
  conv => whnf
  refine ACalls.useE (bm_dark _ _ ?_) [1, 11, 12, 24] rfl (by (conv => whnf); first | done | rfl | (refine renL_rec hL.flat ?_; (conv => whnf); first | done | rfl)) (by (conv => whnf); try rfl) ?_
  · omega
  conv => whnf
  rw [edark]
  conv => whnf
  refine getF_pre rfl ?_
  conv => whnf
  refine ACalls.useE (tnib s hs) [0, 1, 2, 3, 4, 5, 6, 7, 8, 9, 10, 11, 12, 13, 14, 15, 16, 17, 18, 19, 20, 21, 22, 23, 24, 25, 26, 27, 28, 29, 30, 31, 32, 33, 34, 35, 36, 37, 38, 39] rfl (by (conv => whnf); first | done | rfl | (refine renL_rec hL.flat ?_; (conv => whnf); first | done | rfl)) (by (conv => whnf); try rfl) ?_
  conv => whnf
  refine renL_rec hL.flat ?_
  conv => whnf
  refine ⟨rfl, ?_⟩
  conv => whnf
  refine getF_pre rfl ?_
  conv => whnf
  refine ⟨rfl, ?_⟩
  conv => whnf
  refine ACalls.useE (mo_idleS s hidle _ _ _ _ _ _) [2] rfl (by (conv => whnf); first | done | rfl | (refine renL_rec hL.flat ?_; (conv => whnf); first | done | rfl)) (by (conv => whnf); try rfl) ?_
  conv => whnf
  refine getF_pre rfl ?_
  conv => whnf
  refine ACalls.useE (bm_pulse _ _ ?_) [1, 11, 12, 24] rfl (by (conv => whnf); first | done | rfl | (refine renL_rec hL.flat ?_; (conv => whnf); first | done | rfl)) (by (conv => whnf); try rfl) ?_
  · omega
  conv => whnf
  refine Bif.of (fun h0 => ?_) fun h0 => ?_
  · rw [h0]
    conv => whnf
    refine ACalls.useE (tk_none s hs) [0, 1, 2, 3, 4, 5, 6, 7, 8, 9, 10, 11, 12, 13, 14, 15, 16, 17, 18, 19, 20, 21, 22, 23, 24, 25, 26, 27, 28, 29, 30, 31, 32, 33, 34, 35, 36, 37, 38, 39] rfl (by (conv => whnf); first | done | rfl | (refine renL_rec hL.flat ?_; (conv => whnf); first | done | rfl)) (by (conv => whnf); try rfl) ?_
    conv => whnf
    refine renL_rec hL.flat ?_
    conv => whnf
    refine dropF_pre rfl ?_
    conv => whnf
    refine takeF_preR rfl ?_
    conv => whnf
    refine ALoop.run 3 ?_
    conv => whnf
    rw [e57]
    conv => whnf
    rw [e171]
    conv => whnf
    refine ACalls.useE (vc_level _ _ _) [8, 18, 19, 20] rfl (by (conv => whnf); first | done | rfl | (refine renL_rec hL.flat ?_; (conv => whnf); first | done | rfl)) (by (conv => whnf); try rfl) ?_
    conv => whnf
    refine ⟨rfl, ?_⟩
    conv => whnf
    rw [e57]
    conv => whnf
    rw [e171]
    conv => whnf
    refine ACalls.useE (vc_level _ _ _) [9, 21, 22, 23] rfl (by (conv => whnf); first | done | rfl | (refine renL_rec hL.flat ?_; (conv => whnf); first | done | rfl)) (by (conv => whnf); try rfl) ?_
    conv => whnf
    refine ⟨rfl, ?_⟩
    conv => whnf
    refine getF_pre rfl ?_
    conv => whnf
    refine ACalls.useE (bm_next _ _ ?_) [1, 11, 12, 24] rfl (by (conv => whnf); first | done | rfl | (refine renL_rec hL.flat ?_; (conv => whnf); first | done | rfl)) (by (conv => whnf); try rfl) ?_
    · omega
    conv => whnf
    refine Req.of ?_ ?_
    · exact recC_all rfl (hL.all fun _ => rfl) rfl
    conv => whnf
    exact ⟨rfl, rfl⟩
  · rw [h0]
    conv => whnf
    refine ACalls.code tabOk h40 Tryz.func40 Tryz.call40 ok40 ?_
    conv => whnf
    refine getF_rg hL 0 rfl (by decide) ?_
    conv => whnf
    rw [z0]
    conv => whnf
    refine Req.of ?_ ?_
    · exact recC_all rfl (hL.all fun _ => rfl) rfl
    conv => whnf
    refine ACalls.useE (tk_none s hs) [0, 1, 2, 3, 4, 5, 6, 7, 8, 9, 10, 11, 12, 13, 14, 15, 16, 17, 18, 19, 20, 21, 22, 23, 24, 25, 26, 27, 28, 29, 30, 31, 32, 33, 34, 35, 36, 37, 38, 39] rfl (by (conv => whnf); first | done | rfl | (refine renL_rec hL.flat ?_; (conv => whnf); first | done | rfl)) (by (conv => whnf); try rfl) ?_
    conv => whnf
    refine renL_rec hL.flat ?_
    conv => whnf
    refine dropF_pre rfl ?_
    conv => whnf
    refine takeF_preR rfl ?_
    conv => whnf
    refine ALoop.run 3 ?_
    conv => whnf
    rw [e57]
    conv => whnf
    rw [e171]
    conv => whnf
    refine ACalls.useE (vc_level _ _ _) [8, 18, 19, 20] rfl (by (conv => whnf); first | done | rfl | (refine renL_rec hL.flat ?_; (conv => whnf); first | done | rfl)) (by (conv => whnf); try rfl) ?_
    conv => whnf
    refine ⟨rfl, ?_⟩
    conv => whnf
    rw [e57]
    conv => whnf
    rw [e171]
    conv => whnf
    refine ACalls.useE (vc_level _ _ _) [9, 21, 22, 23] rfl (by (conv => whnf); first | done | rfl | (refine renL_rec hL.flat ?_; (conv => whnf); first | done | rfl)) (by (conv => whnf); try rfl) ?_
    conv => whnf
    refine ⟨rfl, ?_⟩
    conv => whnf
    refine getF_pre rfl ?_
    conv => whnf
    refine ACalls.useE (bm_next _ _ ?_) [1, 11, 12, 24] rfl (by (conv => whnf); first | done | rfl | (refine renL_rec hL.flat ?_; (conv => whnf); first | done | rfl)) (by (conv => whnf); try rfl) ?_
    · omega
    conv => whnf
    refine Req.of ?_ ?_
    · exact recC_all rfl (hL.all fun _ => rfl) rfl
    conv => whnf
    exact ⟨rfl, rfl⟩
theorem stp_c (s : TS) (hs : s.Top) (hc2 : s.c = 57) : ACalls Tryz.prog 12 [.pointer (some ⟨0, 0, none⟩)] (tsH s) fun v H => v = .agg #[.int .i64 (s.c : Nat), .int .u8 0, .bool true, .bool (decide (20 ≤ s.c ∧ s.c < 36)), .int .u8 0, .bool false] ∧ H = tsH { s with c := (s.c + 1) % 228, v0 := s.v0.tk, v1 := s.v1.tk } := by
  have hL := hs.L
  have hc := hs.c
  have hq := hs.q
  have z0 := hs.z 0 (by decide)
  have z1 := hs.z 1 (by decide)
  have hs1 := hs.line
  have hsm := hs.drawn ((s.c - 68 : Nat) : Int)
  have hidle := hs.m
  have elate : (s.late && !decide (s.c = 0)) = s.late := by rw [hs.late]; rfl
  have edark : decide (s.c < if s.late = true then 76 else 68) = true := by rw [hs.late]; simp; omega
  have ebeg : decide (s.c = 0) = false := by simp; omega
  have e57 : ((s.c : Int) == 57) = true := by simp; omega
  have e171 : ((s.c : Int) == 171) = false := by simp; omega
  refine ACalls.code tabOk h12 Tryz.func12 Tryz.call12 ok12 ?_
  conv => whnf
  refine getF_pre rfl ?_
  conv => whnf
  refine ACalls.useE (bm_begin _ _ ?_) [1, 11, 12, 24] rfl (by (conv => whnf); first | done | rfl | (refine renL_rec hL.flat ?_; (conv => whnf); first | done | rfl)) (by (conv => whnf); try rfl) ?_
  · omega
  conv => whnf
  rw [elate]
  conv => whnf
  rw [ebeg]
  conv => whnf
  refine getF_pre rfl ?_
  conv => whnf
  refine ACalls.useE (bm_clock _ _ ?_) [1, 11, 12, 24] rfl (by (conv => whnf); first | done | rfl | (refine renL_rec hL.flat ?_; (conv => whnf); first | done | rfl)) (by (conv => whnf); try rfl) ?_
  · omega
  conv => whnf
  refine getF_pre rfl ?_
  conv => whnf
  refine ACalls.useE (bm_dark _ _ ?_) [1, 11, 12, 24] rfl (by (conv => whnf); first | done | rfl | (refine renL_rec hL.flat ?_; (conv => whnf); first | done | rfl)) (by (conv => whnf); try rfl) ?_
  · omega
  conv => whnf
  rw [edark]
  conv => whnf
  refine getF_pre rfl ?_
  conv => whnf
  refine ACalls.useE (tnib s hs) [0, 1, 2, 3, 4, 5, 6, 7, 8, 9, 10, 11, 12, 13, 14, 15, 16, 17, 18, 19, 20, 21, 22, 23, 24, 25, 26, 27, 28, 29, 30, 31, 32, 33, 34, 35, 36, 37, 38, 39] rfl (by (conv => whnf); first | done | rfl | (refine renL_rec hL.flat ?_; (conv => whnf); first | done | rfl)) (by (conv => whnf); try rfl) ?_
  conv => whnf
  refine renL_rec hL.flat ?_
  conv => whnf
  refine ⟨rfl, ?_⟩
  conv => whnf
  refine getF_pre rfl ?_
  conv => whnf
  refine ⟨rfl, ?_⟩
  conv => whnf
  refine ACalls.useE (mo_idleS s hidle _ _ _ _ _ _) [2] rfl (by (conv => whnf); first | done | rfl | (refine renL_rec hL.flat ?_; (conv => whnf); first | done | rfl)) (by (conv => whnf); try rfl) ?_
  conv => whnf
  refine getF_pre rfl ?_
  conv => whnf
  refine ACalls.useE (bm_pulse _ _ ?_) [1, 11, 12, 24] rfl (by (conv => whnf); first | done | rfl | (refine renL_rec hL.flat ?_; (conv => whnf); first | done | rfl)) (by (conv => whnf); try rfl) ?_
  · omega
  conv => whnf
  refine Bif.of (fun h0 => ?_) fun h0 => ?_
  · rw [h0]
    conv => whnf
    refine ACalls.useE (tk_none s hs) [0, 1, 2, 3, 4, 5, 6, 7, 8, 9, 10, 11, 12, 13, 14, 15, 16, 17, 18, 19, 20, 21, 22, 23, 24, 25, 26, 27, 28, 29, 30, 31, 32, 33, 34, 35, 36, 37, 38, 39] rfl (by (conv => whnf); first | done | rfl | (refine renL_rec hL.flat ?_; (conv => whnf); first | done | rfl)) (by (conv => whnf); try rfl) ?_
    conv => whnf
    refine renL_rec hL.flat ?_
    conv => whnf
    refine dropF_pre rfl ?_
    conv => whnf
    refine takeF_preR rfl ?_
    conv => whnf
    refine ALoop.run 3 ?_
    conv => whnf
    rw [e57]
    conv => whnf
    refine ACalls.useE (vc_tick _ _ _) [8, 18, 19, 20] rfl (by (conv => whnf); first | done | rfl | (refine renL_rec hL.flat ?_; (conv => whnf); first | done | rfl)) (by (conv => whnf); try rfl) ?_
    conv => whnf
    refine ACalls.useE (vc_level _ _ _) [8, 18, 19, 20] rfl (by (conv => whnf); first | done | rfl | (refine renL_rec hL.flat ?_; (conv => whnf); first | done | rfl)) (by (conv => whnf); try rfl) ?_
    conv => whnf
    refine ⟨rfl, ?_⟩
    conv => whnf
    rw [e57]
    conv => whnf
    refine ACalls.useE (vc_tick _ _ _) [9, 21, 22, 23] rfl (by (conv => whnf); first | done | rfl | (refine renL_rec hL.flat ?_; (conv => whnf); first | done | rfl)) (by (conv => whnf); try rfl) ?_
    conv => whnf
    refine ACalls.useE (vc_level _ _ _) [9, 21, 22, 23] rfl (by (conv => whnf); first | done | rfl | (refine renL_rec hL.flat ?_; (conv => whnf); first | done | rfl)) (by (conv => whnf); try rfl) ?_
    conv => whnf
    refine ⟨rfl, ?_⟩
    conv => whnf
    refine getF_pre rfl ?_
    conv => whnf
    refine ACalls.useE (bm_next _ _ ?_) [1, 11, 12, 24] rfl (by (conv => whnf); first | done | rfl | (refine renL_rec hL.flat ?_; (conv => whnf); first | done | rfl)) (by (conv => whnf); try rfl) ?_
    · omega
    conv => whnf
    refine Req.of ?_ ?_
    · exact recC_all rfl (hL.all fun _ => rfl) rfl
    conv => whnf
    exact ⟨rfl, rfl⟩
  · rw [h0]
    conv => whnf
    refine ACalls.code tabOk h40 Tryz.func40 Tryz.call40 ok40 ?_
    conv => whnf
    refine getF_rg hL 0 rfl (by decide) ?_
    conv => whnf
    rw [z0]
    conv => whnf
    refine Req.of ?_ ?_
    · exact recC_all rfl (hL.all fun _ => rfl) rfl
    conv => whnf
    refine ACalls.useE (tk_none s hs) [0, 1, 2, 3, 4, 5, 6, 7, 8, 9, 10, 11, 12, 13, 14, 15, 16, 17, 18, 19, 20, 21, 22, 23, 24, 25, 26, 27, 28, 29, 30, 31, 32, 33, 34, 35, 36, 37, 38, 39] rfl (by (conv => whnf); first | done | rfl | (refine renL_rec hL.flat ?_; (conv => whnf); first | done | rfl)) (by (conv => whnf); try rfl) ?_
    conv => whnf
    refine renL_rec hL.flat ?_
    conv => whnf
    refine dropF_pre rfl ?_
    conv => whnf
    refine takeF_preR rfl ?_
    conv => whnf
    refine ALoop.run 3 ?_
    conv => whnf
    rw [e57]
    conv => whnf
    refine ACalls.useE (vc_tick _ _ _) [8, 18, 19, 20] rfl (by (conv => whnf); first | done | rfl | (refine renL_rec hL.flat ?_; (conv => whnf); first | done | rfl)) (by (conv => whnf); try rfl) ?_
    conv => whnf
    refine ACalls.useE (vc_level _ _ _) [8, 18, 19, 20] rfl (by (conv => whnf); first | done | rfl | (refine renL_rec hL.flat ?_; (conv => whnf); first | done | rfl)) (by (conv => whnf); try rfl) ?_
    conv => whnf
    refine ⟨rfl, ?_⟩
    conv => whnf
    rw [e57]
    conv => whnf
    refine ACalls.useE (vc_tick _ _ _) [9, 21, 22, 23] rfl (by (conv => whnf); first | done | rfl | (refine renL_rec hL.flat ?_; (conv => whnf); first | done | rfl)) (by (conv => whnf); try rfl) ?_
    conv => whnf
    refine ACalls.useE (vc_level _ _ _) [9, 21, 22, 23] rfl (by (conv => whnf); first | done | rfl | (refine renL_rec hL.flat ?_; (conv => whnf); first | done | rfl)) (by (conv => whnf); try rfl) ?_
    conv => whnf
    refine ⟨rfl, ?_⟩
    conv => whnf
    refine getF_pre rfl ?_
    conv => whnf
    refine ACalls.useE (bm_next _ _ ?_) [1, 11, 12, 24] rfl (by (conv => whnf); first | done | rfl | (refine renL_rec hL.flat ?_; (conv => whnf); first | done | rfl)) (by (conv => whnf); try rfl) ?_
    · omega
    conv => whnf
    refine Req.of ?_ ?_
    · exact recC_all rfl (hL.all fun _ => rfl) rfl
    conv => whnf
    exact ⟨rfl, rfl⟩
theorem stp_d (s : TS) (hs : s.Top) (hc1 : ¬ s.c < 68) (hc2 : ¬ s.c = 171) : ACalls Tryz.prog 12 [.pointer (some ⟨0, 0, none⟩)] (tsH s) fun v H => v = .agg #[.int .i64 (s.c : Nat), .int .u8 (pxI s ((s.c - 68 : Nat) : Int)), .bool false, .bool (decide (20 ≤ s.c ∧ s.c < 36)), .int .u8 0, .bool false] ∧ H = tsH { s with c := (s.c + 1) % 228, met := mtI s ((s.c - 68 : Nat) : Int), t0 := s.t0.tk (rg s.L 4), t1 := s.t1.tk (rg s.L 5), t2 := s.t2.tk (rg s.L 4), t3 := s.t3.tk (rg s.L 5), t4 := s.t4.tk 0 } := by
  have hL := hs.L
  have hc := hs.c
  have hq := hs.q
  have z0 := hs.z 0 (by decide)
  have z1 := hs.z 1 (by decide)
  have hs1 := hs.line
  have hsm := hs.drawn ((s.c - 68 : Nat) : Int)
  have hidle := hs.m
  have elate : (s.late && !decide (s.c = 0)) = s.late := by rw [hs.late]; rfl
  have edark : decide (s.c < if s.late = true then 76 else 68) = false := by rw [hs.late]; simp; omega
  have ebeg : decide (s.c = 0) = false := by simp; omega
  have e57 : ((s.c : Int) == 57) = false := by simp; omega
  have e171 : ((s.c : Int) == 171) = false := by simp; omega
  have ex : IntKind.i64.wrap ((s.c : Int) - 68) = ((s.c - 68 : Nat) : Int) := by rw [wrap64 (by omega) (by omega)]; omega
  refine ACalls.code tabOk h12 Tryz.func12 Tryz.call12 ok12 ?_
  conv => whnf
  refine getF_pre rfl ?_
  conv => whnf
  refine ACalls.useE (bm_begin _ _ ?_) [1, 11, 12, 24] rfl (by (conv => whnf); first | done | rfl | (refine renL_rec hL.flat ?_; (conv => whnf); first | done | rfl)) (by (conv => whnf); try rfl) ?_
  · omega
  conv => whnf
  rw [elate]
  conv => whnf
  rw [ebeg]
  conv => whnf
  refine getF_pre rfl ?_
  conv => whnf
  refine ACalls.useE (bm_clock _ _ ?_) [1, 11, 12, 24] rfl (by (conv => whnf); first | done | rfl | (refine renL_rec hL.flat ?_; (conv => whnf); first | done | rfl)) (by (conv => whnf); try rfl) ?_
  · omega
  conv => whnf
  refine getF_pre rfl ?_
  conv => whnf
  refine ACalls.useE (bm_dark _ _ ?_) [1, 11, 12, 24] rfl (by (conv => whnf); first | done | rfl | (refine renL_rec hL.flat ?_; (conv => whnf); first | done | rfl)) (by (conv => whnf); try rfl) ?_
  · omega
  conv => whnf
  rw [edark]
  conv => whnf
  refine getF_pre rfl ?_
  conv => whnf
  refine ACalls.useE (tnib s hs) [0, 1, 2, 3, 4, 5, 6, 7, 8, 9, 10, 11, 12, 13, 14, 15, 16, 17, 18, 19, 20, 21, 22, 23, 24, 25, 26, 27, 28, 29, 30, 31, 32, 33, 34, 35, 36, 37, 38, 39] rfl (by (conv => whnf); first | done | rfl | (refine renL_rec hL.flat ?_; (conv => whnf); first | done | rfl)) (by (conv => whnf); try rfl) ?_
  conv => whnf
  refine renL_rec hL.flat ?_
  conv => whnf
  refine ⟨rfl, ?_⟩
  conv => whnf
  refine getF_pre rfl ?_
  conv => whnf
  refine ⟨rfl, ?_⟩
  conv => whnf
  refine ACalls.useE (mo_idleS s hidle _ _ _ _ _ _) [2] rfl (by (conv => whnf); first | done | rfl | (refine renL_rec hL.flat ?_; (conv => whnf); first | done | rfl)) (by (conv => whnf); try rfl) ?_
  conv => whnf
  refine ACalls.code tabOk h40 Tryz.func40 Tryz.call40 ok40 ?_
  conv => whnf
  refine getF_rg hL 1 rfl (by decide) ?_
  conv => whnf
  rw [z1]
  conv => whnf
  refine Req.of ?_ ?_
  · exact recC_all rfl (hL.all fun _ => rfl) rfl
  conv => whnf
  refine getF_pre rfl ?_
  conv => whnf
  refine ACalls.useE (bm_pulse _ _ ?_) [1, 11, 12, 24] rfl (by (conv => whnf); first | done | rfl | (refine renL_rec hL.flat ?_; (conv => whnf); first | done | rfl)) (by (conv => whnf); try rfl) ?_
  · omega
  conv => whnf
  refine Bif.of (fun h0 => ?_) fun h0 => ?_
  · rw [h0]
    conv => whnf
    rw [ex]
    refine ACalls.useE (tdraw s hs _) [0, 1, 2, 3, 4, 5, 6, 7, 8, 9, 10, 11, 12, 13, 14, 15, 16, 17, 18, 19, 20, 21, 22, 23, 24, 25, 26, 27, 28, 29, 30, 31, 32, 33, 34, 35, 36, 37, 38, 39] rfl (by (conv => whnf); first | done | rfl | (refine renL_rec hL.flat ?_; (conv => whnf); first | done | rfl)) (by (conv => whnf); try rfl) ?_
    conv => whnf
    refine renL_rec hL.flat ?_
    conv => whnf
    refine ACalls.useE (tk_all _ hsm) [0, 1, 2, 3, 4, 5, 6, 7, 8, 9, 10, 11, 12, 13, 14, 15, 16, 17, 18, 19, 20, 21, 22, 23, 24, 25, 26, 27, 28, 29, 30, 31, 32, 33, 34, 35, 36, 37, 38, 39] rfl (by (conv => whnf); first | done | rfl | (refine renL_rec hL.flat ?_; (conv => whnf); first | done | rfl)) (by (conv => whnf); try rfl) ?_
    conv => whnf
    refine renL_rec hL.flat ?_
    conv => whnf
    refine dropF_pre rfl ?_
    conv => whnf
    refine takeF_preR rfl ?_
    conv => whnf
    refine ALoop.run 3 ?_
    conv => whnf
    rw [e57]
    conv => whnf
    rw [e171]
    conv => whnf
    refine ACalls.useE (vc_level _ _ _) [8, 18, 19, 20] rfl (by (conv => whnf); first | done | rfl | (refine renL_rec hL.flat ?_; (conv => whnf); first | done | rfl)) (by (conv => whnf); try rfl) ?_
    conv => whnf
    refine ⟨rfl, ?_⟩
    conv => whnf
    rw [e57]
    conv => whnf
    rw [e171]
    conv => whnf
    refine ACalls.useE (vc_level _ _ _) [9, 21, 22, 23] rfl (by (conv => whnf); first | done | rfl | (refine renL_rec hL.flat ?_; (conv => whnf); first | done | rfl)) (by (conv => whnf); try rfl) ?_
    conv => whnf
    refine ⟨rfl, ?_⟩
    conv => whnf
    refine getF_pre rfl ?_
    conv => whnf
    refine ACalls.useE (bm_next _ _ ?_) [1, 11, 12, 24] rfl (by (conv => whnf); first | done | rfl | (refine renL_rec hL.flat ?_; (conv => whnf); first | done | rfl)) (by (conv => whnf); try rfl) ?_
    · omega
    conv => whnf
    refine Req.of ?_ ?_
    · exact recC_all rfl (hL.all fun _ => rfl) rfl
    conv => whnf
    exact ⟨rfl, rfl⟩
  · rw [h0]
    conv => whnf
    refine ACalls.code tabOk h40 Tryz.func40 Tryz.call40 ok40 ?_
    conv => whnf
    refine getF_rg hL 0 rfl (by decide) ?_
    conv => whnf
    rw [z0]
    conv => whnf
    refine Req.of ?_ ?_
    · exact recC_all rfl (hL.all fun _ => rfl) rfl
    conv => whnf
    rw [ex]
    refine ACalls.useE (tdraw s hs _) [0, 1, 2, 3, 4, 5, 6, 7, 8, 9, 10, 11, 12, 13, 14, 15, 16, 17, 18, 19, 20, 21, 22, 23, 24, 25, 26, 27, 28, 29, 30, 31, 32, 33, 34, 35, 36, 37, 38, 39] rfl (by (conv => whnf); first | done | rfl | (refine renL_rec hL.flat ?_; (conv => whnf); first | done | rfl)) (by (conv => whnf); try rfl) ?_
    conv => whnf
    refine renL_rec hL.flat ?_
    conv => whnf
    refine ACalls.useE (tk_all _ hsm) [0, 1, 2, 3, 4, 5, 6, 7, 8, 9, 10, 11, 12, 13, 14, 15, 16, 17, 18, 19, 20, 21, 22, 23, 24, 25, 26, 27, 28, 29, 30, 31, 32, 33, 34, 35, 36, 37, 38, 39] rfl (by (conv => whnf); first | done | rfl | (refine renL_rec hL.flat ?_; (conv => whnf); first | done | rfl)) (by (conv => whnf); try rfl) ?_
    conv => whnf
    refine renL_rec hL.flat ?_
    conv => whnf
    refine dropF_pre rfl ?_
    conv => whnf
    refine takeF_preR rfl ?_
    conv => whnf
    refine ALoop.run 3 ?_
    conv => whnf
    rw [e57]
    conv => whnf
    rw [e171]
    conv => whnf
    refine ACalls.useE (vc_level _ _ _) [8, 18, 19, 20] rfl (by (conv => whnf); first | done | rfl | (refine renL_rec hL.flat ?_; (conv => whnf); first | done | rfl)) (by (conv => whnf); try rfl) ?_
    conv => whnf
    refine ⟨rfl, ?_⟩
    conv => whnf
    rw [e57]
    conv => whnf
    rw [e171]
    conv => whnf
    refine ACalls.useE (vc_level _ _ _) [9, 21, 22, 23] rfl (by (conv => whnf); first | done | rfl | (refine renL_rec hL.flat ?_; (conv => whnf); first | done | rfl)) (by (conv => whnf); try rfl) ?_
    conv => whnf
    refine ⟨rfl, ?_⟩
    conv => whnf
    refine getF_pre rfl ?_
    conv => whnf
    refine ACalls.useE (bm_next _ _ ?_) [1, 11, 12, 24] rfl (by (conv => whnf); first | done | rfl | (refine renL_rec hL.flat ?_; (conv => whnf); first | done | rfl)) (by (conv => whnf); try rfl) ?_
    · omega
    conv => whnf
    refine Req.of ?_ ?_
    · exact recC_all rfl (hL.all fun _ => rfl) rfl
    conv => whnf
    exact ⟨rfl, rfl⟩
theorem stp_e (s : TS) (hs : s.Top) (hc2 : s.c = 171) : ACalls Tryz.prog 12 [.pointer (some ⟨0, 0, none⟩)] (tsH s) fun v H => v = .agg #[.int .i64 (s.c : Nat), .int .u8 (pxI s ((s.c - 68 : Nat) : Int)), .bool false, .bool (decide (20 ≤ s.c ∧ s.c < 36)), .int .u8 0, .bool false] ∧ H = tsH { s with c := (s.c + 1) % 228, met := mtI s ((s.c - 68 : Nat) : Int), t0 := s.t0.tk (rg s.L 4), t1 := s.t1.tk (rg s.L 5), t2 := s.t2.tk (rg s.L 4), t3 := s.t3.tk (rg s.L 5), t4 := s.t4.tk 0, v0 := s.v0.tk, v1 := s.v1.tk } := by
  have hL := hs.L
  have hc := hs.c
  have hq := hs.q
  have z0 := hs.z 0 (by decide)
  have z1 := hs.z 1 (by decide)
  have hs1 := hs.line
  have hsm := hs.drawn ((s.c - 68 : Nat) : Int)
  have hidle := hs.m
  have elate : (s.late && !decide (s.c = 0)) = s.late := by rw [hs.late]; rfl
  have edark : decide (s.c < if s.late = true then 76 else 68) = false := by rw [hs.late]; simp; omega
  have ebeg : decide (s.c = 0) = false := by simp; omega
  have e57 : ((s.c : Int) == 57) = false := by simp; omega
  have e171 : ((s.c : Int) == 171) = true := by simp; omega
  have ex : IntKind.i64.wrap ((s.c : Int) - 68) = ((s.c - 68 : Nat) : Int) := by rw [wrap64 (by omega) (by omega)]; omega
  refine ACalls.code tabOk h12 Tryz.func12 Tryz.call12 ok12 ?_
  conv => whnf
  refine getF_pre rfl ?_
  conv => whnf
  refine ACalls.useE (bm_begin _ _ ?_) [1, 11, 12, 24] rfl (by (conv => whnf); first | done | rfl | (refine renL_rec hL.flat ?_; (conv => whnf); first | done | rfl)) (by (conv => whnf); try rfl) ?_
  · omega
  conv => whnf
  rw [elate]
  conv => whnf
  rw [ebeg]
  conv => whnf
  refine getF_pre rfl ?_
  conv => whnf
  refine ACalls.useE (bm_clock _ _ ?_) [1, 11, 12, 24] rfl (by (conv => whnf); first | done | rfl | (refine renL_rec hL.flat ?_; (conv => whnf); first | done | rfl)) (by (conv => whnf); try rfl) ?_
  · omega
  conv => whnf
  refine getF_pre rfl ?_
  conv => whnf
  refine ACalls.useE (bm_dark _ _ ?_) [1, 11, 12, 24] rfl (by (conv => whnf); first | done | rfl | (refine renL_rec hL.flat ?_; (conv => whnf); first | done | rfl)) (by (conv => whnf); try rfl) ?_
  · omega
  conv => whnf
  rw [edark]
  conv => whnf
  refine getF_pre rfl ?_
  conv => whnf
  refine ACalls.useE (tnib s hs) [0, 1, 2, 3, 4, 5, 6, 7, 8, 9, 10, 11, 12, 13, 14, 15, 16, 17, 18, 19, 20, 21, 22, 23, 24, 25, 26, 27, 28, 29, 30, 31, 32, 33, 34, 35, 36, 37, 38, 39] rfl (by (conv => whnf); first | done | rfl | (refine renL_rec hL.flat ?_; (conv => whnf); first | done | rfl)) (by (conv => whnf); try rfl) ?_
  conv => whnf
  refine renL_rec hL.flat ?_
  conv => whnf
  refine ⟨rfl, ?_⟩
  conv => whnf
  refine getF_pre rfl ?_
  conv => whnf
  refine ⟨rfl, ?_⟩
  conv => whnf
  refine ACalls.useE (mo_idleS s hidle _ _ _ _ _ _) [2] rfl (by (conv => whnf); first | done | rfl | (refine renL_rec hL.flat ?_; (conv => whnf); first | done | rfl)) (by (conv => whnf); try rfl) ?_
  conv => whnf
  refine ACalls.code tabOk h40 Tryz.func40 Tryz.call40 ok40 ?_
  conv => whnf
  refine getF_rg hL 1 rfl (by decide) ?_
  conv => whnf
  rw [z1]
  conv => whnf
  refine Req.of ?_ ?_
  · exact recC_all rfl (hL.all fun _ => rfl) rfl
  conv => whnf
  refine getF_pre rfl ?_
  conv => whnf
  refine ACalls.useE (bm_pulse _ _ ?_) [1, 11, 12, 24] rfl (by (conv => whnf); first | done | rfl | (refine renL_rec hL.flat ?_; (conv => whnf); first | done | rfl)) (by (conv => whnf); try rfl) ?_
  · omega
  conv => whnf
  refine Bif.of (fun h0 => ?_) fun h0 => ?_
  · rw [h0]
    conv => whnf
    rw [ex]
    refine ACalls.useE (tdraw s hs _) [0, 1, 2, 3, 4, 5, 6, 7, 8, 9, 10, 11, 12, 13, 14, 15, 16, 17, 18, 19, 20, 21, 22, 23, 24, 25, 26, 27, 28, 29, 30, 31, 32, 33, 34, 35, 36, 37, 38, 39] rfl (by (conv => whnf); first | done | rfl | (refine renL_rec hL.flat ?_; (conv => whnf); first | done | rfl)) (by (conv => whnf); try rfl) ?_
    conv => whnf
    refine renL_rec hL.flat ?_
    conv => whnf
    refine ACalls.useE (tk_all _ hsm) [0, 1, 2, 3, 4, 5, 6, 7, 8, 9, 10, 11, 12, 13, 14, 15, 16, 17, 18, 19, 20, 21, 22, 23, 24, 25, 26, 27, 28, 29, 30, 31, 32, 33, 34, 35, 36, 37, 38, 39] rfl (by (conv => whnf); first | done | rfl | (refine renL_rec hL.flat ?_; (conv => whnf); first | done | rfl)) (by (conv => whnf); try rfl) ?_
    conv => whnf
    refine renL_rec hL.flat ?_
    conv => whnf
    refine dropF_pre rfl ?_
    conv => whnf
    refine takeF_preR rfl ?_
    conv => whnf
    refine ALoop.run 3 ?_
    conv => whnf
    rw [e57]
    conv => whnf
    rw [e171]
    conv => whnf
    refine ACalls.useE (vc_tick _ _ _) [8, 18, 19, 20] rfl (by (conv => whnf); first | done | rfl | (refine renL_rec hL.flat ?_; (conv => whnf); first | done | rfl)) (by (conv => whnf); try rfl) ?_
    conv => whnf
    refine ACalls.useE (vc_level _ _ _) [8, 18, 19, 20] rfl (by (conv => whnf); first | done | rfl | (refine renL_rec hL.flat ?_; (conv => whnf); first | done | rfl)) (by (conv => whnf); try rfl) ?_
    conv => whnf
    refine ⟨rfl, ?_⟩
    conv => whnf
    rw [e57]
    conv => whnf
    rw [e171]
    conv => whnf
    refine ACalls.useE (vc_tick _ _ _) [9, 21, 22, 23] rfl (by (conv => whnf); first | done | rfl | (refine renL_rec hL.flat ?_; (conv => whnf); first | done | rfl)) (by (conv => whnf); try rfl) ?_
    conv => whnf
    refine ACalls.useE (vc_level _ _ _) [9, 21, 22, 23] rfl (by (conv => whnf); first | done | rfl | (refine renL_rec hL.flat ?_; (conv => whnf); first | done | rfl)) (by (conv => whnf); try rfl) ?_
    conv => whnf
    refine ⟨rfl, ?_⟩
    conv => whnf
    refine getF_pre rfl ?_
    conv => whnf
    refine ACalls.useE (bm_next _ _ ?_) [1, 11, 12, 24] rfl (by (conv => whnf); first | done | rfl | (refine renL_rec hL.flat ?_; (conv => whnf); first | done | rfl)) (by (conv => whnf); try rfl) ?_
    · omega
    conv => whnf
    refine Req.of ?_ ?_
    · exact recC_all rfl (hL.all fun _ => rfl) rfl
    conv => whnf
    exact ⟨rfl, rfl⟩
  · rw [h0]
    conv => whnf
    refine ACalls.code tabOk h40 Tryz.func40 Tryz.call40 ok40 ?_
    conv => whnf
    refine getF_rg hL 0 rfl (by decide) ?_
    conv => whnf
    rw [z0]
    conv => whnf
    refine Req.of ?_ ?_
    · exact recC_all rfl (hL.all fun _ => rfl) rfl
    conv => whnf
    rw [ex]
    refine ACalls.useE (tdraw s hs _) [0, 1, 2, 3, 4, 5, 6, 7, 8, 9, 10, 11, 12, 13, 14, 15, 16, 17, 18, 19, 20, 21, 22, 23, 24, 25, 26, 27, 28, 29, 30, 31, 32, 33, 34, 35, 36, 37, 38, 39] rfl (by (conv => whnf); first | done | rfl | (refine renL_rec hL.flat ?_; (conv => whnf); first | done | rfl)) (by (conv => whnf); try rfl) ?_
    conv => whnf
    refine renL_rec hL.flat ?_
    conv => whnf
    refine ACalls.useE (tk_all _ hsm) [0, 1, 2, 3, 4, 5, 6, 7, 8, 9, 10, 11, 12, 13, 14, 15, 16, 17, 18, 19, 20, 21, 22, 23, 24, 25, 26, 27, 28, 29, 30, 31, 32, 33, 34, 35, 36, 37, 38, 39] rfl (by (conv => whnf); first | done | rfl | (refine renL_rec hL.flat ?_; (conv => whnf); first | done | rfl)) (by (conv => whnf); try rfl) ?_
    conv => whnf
    refine renL_rec hL.flat ?_
    conv => whnf
    refine dropF_pre rfl ?_
    conv => whnf
    refine takeF_preR rfl ?_
    conv => whnf
    refine ALoop.run 3 ?_
    conv => whnf
    rw [e57]
    conv => whnf
    rw [e171]
    conv => whnf
    refine ACalls.useE (vc_tick _ _ _) [8, 18, 19, 20] rfl (by (conv => whnf); first | done | rfl | (refine renL_rec hL.flat ?_; (conv => whnf); first | done | rfl)) (by (conv => whnf); try rfl) ?_
    conv => whnf
    refine ACalls.useE (vc_level _ _ _) [8, 18, 19, 20] rfl (by (conv => whnf); first | done | rfl | (refine renL_rec hL.flat ?_; (conv => whnf); first | done | rfl)) (by (conv => whnf); try rfl) ?_
    conv => whnf
    refine ⟨rfl, ?_⟩
    conv => whnf
    rw [e57]
    conv => whnf
    rw [e171]
    conv => whnf
    refine ACalls.useE (vc_tick _ _ _) [9, 21, 22, 23] rfl (by (conv => whnf); first | done | rfl | (refine renL_rec hL.flat ?_; (conv => whnf); first | done | rfl)) (by (conv => whnf); try rfl) ?_
    conv => whnf
    refine ACalls.useE (vc_level _ _ _) [9, 21, 22, 23] rfl (by (conv => whnf); first | done | rfl | (refine renL_rec hL.flat ?_; (conv => whnf); first | done | rfl)) (by (conv => whnf); try rfl) ?_
    conv => whnf
    refine ⟨rfl, ?_⟩
    conv => whnf
    refine getF_pre rfl ?_
    conv => whnf
    refine ACalls.useE (bm_next _ _ ?_) [1, 11, 12, 24] rfl (by (conv => whnf); first | done | rfl | (refine renL_rec hL.flat ?_; (conv => whnf); first | done | rfl)) (by (conv => whnf); try rfl) ?_
    · omega
    conv => whnf
    refine Req.of ?_ ?_
    · exact recC_all rfl (hL.all fun _ => rfl) rfl
    conv => whnf
    exact ⟨rfl, rfl⟩
/-- A chip behind a clock. -/
@[irreducible] def stp (s : TS) : TS :=
  if s.c = 0 then { s with c := (s.c + 1) % 228, wait := false, q := min (s.q + 1) 511 } else if s.c = 57 then { s with c := (s.c + 1) % 228, v0 := s.v0.tk, v1 := s.v1.tk } else if s.c < 68 then { s with c := (s.c + 1) % 228 } else if s.c = 171 then { s with c := (s.c + 1) % 228, met := mtI s ((s.c - 68 : Nat) : Int), t0 := s.t0.tk (rg s.L 4), t1 := s.t1.tk (rg s.L 5), t2 := s.t2.tk (rg s.L 4), t3 := s.t3.tk (rg s.L 5), t4 := s.t4.tk 0, v0 := s.v0.tk, v1 := s.v1.tk } else { s with c := (s.c + 1) % 228, met := mtI s ((s.c - 68 : Nat) : Int), t0 := s.t0.tk (rg s.L 4), t1 := s.t1.tk (rg s.L 5), t2 := s.t2.tk (rg s.L 4), t3 := s.t3.tk (rg s.L 5), t4 := s.t4.tk 0 }
/-- What a step tells of the pixel. -/
@[irreducible] def pxV (s : TS) : Int := if s.c < 68 then 0 else pxI s ((s.c - 68 : Nat) : Int)
theorem t_step (s : TS) (hs : s.Top) : ACalls Tryz.prog 12 [.pointer (some ⟨0, 0, none⟩)] (tsH s) fun v H => v = .agg #[.int .i64 (s.c : Nat), .int .u8 (pxV s), .bool (decide (s.c < 68)), .bool (decide (20 ≤ s.c ∧ s.c < 36)), .int .u8 0, .bool (decide (s.c = 0))] ∧ H = tsH (stp s) := by
  unfold stp pxV
  by_cases h0 : s.c = 0
  · rw [if_pos h0, if_pos (show s.c < 68 by omega), decide_eq_true (show s.c < 68 by omega), decide_eq_true h0]
    exact stp_a s hs h0
  · rw [if_neg h0, decide_eq_false h0]
    by_cases h1 : s.c = 57
    · rw [if_pos h1, if_pos (show s.c < 68 by omega), decide_eq_true (show s.c < 68 by omega)]
      exact stp_c s hs h1
    · rw [if_neg h1]
      by_cases h2 : s.c < 68
      · rw [if_pos h2, if_pos h2, decide_eq_true h2]
        exact stp_b s hs h0 h2 h1
      · rw [if_neg h2, if_neg h2, decide_eq_false h2]
        by_cases h3 : s.c = 171
        · rw [if_pos h3]
          exact stp_e s hs h3
        · rw [if_neg h3]
          exact stp_d s hs h2 h3
end Go.Proofs
