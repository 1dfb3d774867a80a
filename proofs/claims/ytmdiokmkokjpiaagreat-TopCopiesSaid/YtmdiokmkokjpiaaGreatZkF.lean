/-
  Walks through the functions of the program, by contract.
-/
import Derived.Test.YtmdiokmkokjpiaaGreatZjF
set_option linter.all false
set_option linter.unusedVariables false
set_option linter.unusedSimpArgs false
set_option linter.unnecessarySimpa false
namespace Go.Proofs
open Go.Aw
set_option maxRecDepth 100000
set_option maxHeartbeats 8000000
/-- What all three programs keep: no motion, no comb, no delay, no mirror, no missiles, no ball, neither blank nor sync. -/
structure TS.Top (s : TS) : Prop extends s.Ok where
  late : s.late = false
  m : s.m = ⟨16, 0, false, false, false, false, false⟩
  b0 : s.b0 = false
  b1 : s.b1 = false
  z : ∀ j, j = 0 ∨ j = 1 ∨ j = 11 ∨ j = 12 ∨ j = 29 ∨ j = 30 ∨ j = 32 ∨ j = 33 ∨ j = 34 ∨ j = 35 ∨ j = 36 ∨ j = 37 ∨ j = 38 ∨ j = 39 ∨ j = 40 ∨ j = 41 → rg s.L j = 0
theorem and7 (x : Int) : bits .and .u8 x 7 = x % 8 := and_mask .u8 x 3 (by decide)
/-- A player's width. -/
@[irreducible] def wd (x : Int) : Int := if x % 8 = 5 then 2 else if x % 8 = 7 then 4 else 1
theorem wd_cases (x : Int) : wd x = 1 ∨ wd x = 2 ∨ wd x = 4 := by unfold wd; split; (right; left; rfl); split; (right; right; rfl); (left; rfl)
theorem tw0 (s : TS) (hs : s.Ok) : ACalls Tryz.prog 63 [.pointer (some ⟨0, 0, none⟩), .int .i64 0] (tsH s) fun v H => v = .int .i64 (wd (rg s.L 4)) ∧ H = tsH s := by
  have hL := hs.L
  have e := and7 (rg s.L 4)
  by_cases h5 : rg s.L 4 % 8 = 5
  · have ew : wd (rg s.L 4) = 2 := by unfold wd; rw [if_pos h5]
    rw [ew]
    refine ACalls.code tabOk h63 Tryz.func63 Tryz.call63 ok63 ?_
    conv => whnf
    refine getF_rg hL 4 rfl (by decide) ?_
    conv => whnf
    rw [e]
    conv => whnf
    rw [h5]
    conv => whnf
    refine Req.of ?_ ?_
    · exact recC_all rfl (hL.all fun _ => rfl) rfl
    conv => whnf
    exact ⟨rfl, rfl⟩
  · by_cases h7 : rg s.L 4 % 8 = 7
    · have ew : wd (rg s.L 4) = 4 := by unfold wd; rw [if_neg h5, if_pos h7]
      rw [ew]
      refine ACalls.code tabOk h63 Tryz.func63 Tryz.call63 ok63 ?_
      conv => whnf
      refine getF_rg hL 4 rfl (by decide) ?_
      conv => whnf
      rw [e]
      conv => whnf
      rw [h7]
      conv => whnf
      refine Req.of ?_ ?_
      · exact recC_all rfl (hL.all fun _ => rfl) rfl
      conv => whnf
      exact ⟨rfl, rfl⟩
    · have ew : wd (rg s.L 4) = 1 := by unfold wd; rw [if_neg h5, if_neg h7]
      rw [ew]
      refine ACalls.code tabOk h63 Tryz.func63 Tryz.call63 ok63 ?_
      conv => whnf
      refine getF_rg hL 4 rfl (by decide) ?_
      conv => whnf
      rw [e]
      conv => whnf
      refine Bif.knF ?_ fun h0 => ?_
      · (simp; omega)
      rw [h0]
      conv => whnf
      refine Bif.knF ?_ fun h1 => ?_
      · (simp; omega)
      rw [h1]
      conv => whnf
      refine Req.of ?_ ?_
      · exact recC_all rfl (hL.all fun _ => rfl) rfl
      conv => whnf
      exact ⟨rfl, rfl⟩
theorem tw1 (s : TS) (hs : s.Ok) : ACalls Tryz.prog 63 [.pointer (some ⟨0, 0, none⟩), .int .i64 1] (tsH s) fun v H => v = .int .i64 (wd (rg s.L 5)) ∧ H = tsH s := by
  have hL := hs.L
  have e := and7 (rg s.L 5)
  by_cases h5 : rg s.L 5 % 8 = 5
  · have ew : wd (rg s.L 5) = 2 := by unfold wd; rw [if_pos h5]
    rw [ew]
    refine ACalls.code tabOk h63 Tryz.func63 Tryz.call63 ok63 ?_
    conv => whnf
    refine getF_rg hL 5 rfl (by decide) ?_
    conv => whnf
    rw [e]
    conv => whnf
    rw [h5]
    conv => whnf
    refine Req.of ?_ ?_
    · exact recC_all rfl (hL.all fun _ => rfl) rfl
    conv => whnf
    exact ⟨rfl, rfl⟩
  · by_cases h7 : rg s.L 5 % 8 = 7
    · have ew : wd (rg s.L 5) = 4 := by unfold wd; rw [if_neg h5, if_pos h7]
      rw [ew]
      refine ACalls.code tabOk h63 Tryz.func63 Tryz.call63 ok63 ?_
      conv => whnf
      refine getF_rg hL 5 rfl (by decide) ?_
      conv => whnf
      rw [e]
      conv => whnf
      rw [h7]
      conv => whnf
      refine Req.of ?_ ?_
      · exact recC_all rfl (hL.all fun _ => rfl) rfl
      conv => whnf
      exact ⟨rfl, rfl⟩
    · have ew : wd (rg s.L 5) = 1 := by unfold wd; rw [if_neg h5, if_neg h7]
      rw [ew]
      refine ACalls.code tabOk h63 Tryz.func63 Tryz.call63 ok63 ?_
      conv => whnf
      refine getF_rg hL 5 rfl (by decide) ?_
      conv => whnf
      rw [e]
      conv => whnf
      refine Bif.knF ?_ fun h0 => ?_
      · (simp; omega)
      rw [h0]
      conv => whnf
      refine Bif.knF ?_ fun h1 => ?_
      · (simp; omega)
      rw [h1]
      conv => whnf
      refine Req.of ?_ ?_
      · exact recC_all rfl (hL.all fun _ => rfl) rfl
      conv => whnf
      exact ⟨rfl, rfl⟩
/-- Is player 0 there? -/
@[irreducible] def plB0 (s : TS) : Bool := graphI s.g00 false (wd (rg s.L 4)) (dotF (ag1 s.t0.ln s.t0.sc) (ag2 s.t0.ln s.t0.sc) (if wd (rg s.L 4) = 1 then 5 else 6))
theorem tp0 (s : TS) (hs : s.Top) : ACalls Tryz.prog 88 [.pointer (some ⟨0, 0, none⟩), .int .i64 0] (tsH s) fun v H => v = .bool (plB0 s) ∧ H = tsH s := by
  have hL := hs.L
  have z1 := hs.z 37 (by decide)
  have z2 := hs.z 11 (by decide)
  have hln := hs.t0.ln
  have hsc := hs.t0.sc
  have hg := hs.g00
  have hdl : ∀ q : Int, 0 ≤ q → dotF (ag1 s.t0.ln s.t0.sc) (ag2 s.t0.ln s.t0.sc) q ≤ 9223372036854775807 := fun q hq => by
    have := ag_le s.t0.ln hsc
    unfold dotF; split; (omega); split <;> omega
  have h5 := hdl 5 (by decide)
  have h6 := hdl 6 (by decide)
  unfold plB0
  rcases wd_cases (rg s.L 4) with hw | hw | hw
  · rw [hw, if_pos rfl]
    refine ACalls.code tabOk h88 Tryz.func88 Tryz.call88 ok88 ?_
    conv => whnf
    refine ACalls.useE (tw0 s ?_) [0, 1, 2, 3, 4, 5, 6, 7, 8, 9, 10, 11, 12, 13, 14, 15, 16, 17, 18, 19, 20, 21, 22, 23, 24, 25, 26, 27, 28, 29, 30, 31, 32, 33, 34, 35, 36, 37, 38, 39] rfl (by (conv => whnf); first | done | rfl | (refine renL_rec hL.flat ?_; (conv => whnf); first | done | rfl)) (by (conv => whnf); try rfl) ?_
    · exact hs.toOk
    conv => whnf
    rw [hw]
    conv => whnf
    refine renL_rec hL.flat ?_
    conv => whnf
    refine getF_pre rfl ?_
    conv => whnf
    refine ACalls.code tabOk h90 Tryz.func90 Tryz.call90 ok90 ?_
    conv => whnf
    refine getF_rg hL 37 rfl (by decide) ?_
    conv => whnf
    rw [z1]
    conv => whnf
    refine Req.of ?_ ?_
    · exact recC_all rfl (hL.all fun _ => rfl) rfl
    conv => whnf
    refine getF_pre rfl ?_
    conv => whnf
    refine ⟨rfl, ?_⟩
    conv => whnf
    refine getF_suf hL.len 0 rfl ?_
    conv => whnf
    refine ACalls.code tabOk h40 Tryz.func40 Tryz.call40 ok40 ?_
    conv => whnf
    refine getF_rg hL 11 rfl (by decide) ?_
    conv => whnf
    rw [z2]
    conv => whnf
    refine Req.of ?_ ?_
    · exact recC_all rfl (hL.all fun _ => rfl) rfl
    conv => whnf
    refine getF_suf hL.len 0 rfl ?_
    conv => whnf
    refine ⟨rfl, ?_⟩
    conv => whnf
    refine getF_pre rfl ?_
    conv => whnf
    refine ⟨rfl, ?_⟩
    conv => whnf
    refine ACalls.useE (th_dot5 _ _ _ ?_ ?_) [3, 13, 25, 26, 35] rfl (by (conv => whnf); first | done | rfl | (refine renL_rec hL.flat ?_; (conv => whnf); first | done | rfl)) (by (conv => whnf); try rfl) ?_
    · omega
    · omega
    conv => whnf
    refine getF_suf hL.len 0 rfl ?_
    conv => whnf
    refine ⟨rfl, ?_⟩
    conv => whnf
    refine ACalls.useE (field_graph _ _ _ _ ?_ ?_) [] rfl (by (conv => whnf); first | done | rfl | (refine renL_rec hL.flat ?_; (conv => whnf); first | done | rfl)) (by (conv => whnf); try rfl) ?_
    · omega
    · omega
    conv => whnf
    refine Req.of ?_ ?_
    · exact recC_all rfl (hL.all fun _ => rfl) rfl
    conv => whnf
    exact ⟨rfl, rfl⟩
  · rw [hw, if_neg (by decide)]
    refine ACalls.code tabOk h88 Tryz.func88 Tryz.call88 ok88 ?_
    conv => whnf
    refine ACalls.useE (tw0 s ?_) [0, 1, 2, 3, 4, 5, 6, 7, 8, 9, 10, 11, 12, 13, 14, 15, 16, 17, 18, 19, 20, 21, 22, 23, 24, 25, 26, 27, 28, 29, 30, 31, 32, 33, 34, 35, 36, 37, 38, 39] rfl (by (conv => whnf); first | done | rfl | (refine renL_rec hL.flat ?_; (conv => whnf); first | done | rfl)) (by (conv => whnf); try rfl) ?_
    · exact hs.toOk
    conv => whnf
    rw [hw]
    conv => whnf
    refine renL_rec hL.flat ?_
    conv => whnf
    refine getF_pre rfl ?_
    conv => whnf
    refine ACalls.code tabOk h90 Tryz.func90 Tryz.call90 ok90 ?_
    conv => whnf
    refine getF_rg hL 37 rfl (by decide) ?_
    conv => whnf
    rw [z1]
    conv => whnf
    refine Req.of ?_ ?_
    · exact recC_all rfl (hL.all fun _ => rfl) rfl
    conv => whnf
    refine getF_pre rfl ?_
    conv => whnf
    refine ⟨rfl, ?_⟩
    conv => whnf
    refine getF_suf hL.len 0 rfl ?_
    conv => whnf
    refine ACalls.code tabOk h40 Tryz.func40 Tryz.call40 ok40 ?_
    conv => whnf
    refine getF_rg hL 11 rfl (by decide) ?_
    conv => whnf
    rw [z2]
    conv => whnf
    refine Req.of ?_ ?_
    · exact recC_all rfl (hL.all fun _ => rfl) rfl
    conv => whnf
    refine getF_suf hL.len 0 rfl ?_
    conv => whnf
    refine ⟨rfl, ?_⟩
    conv => whnf
    refine getF_pre rfl ?_
    conv => whnf
    refine ⟨rfl, ?_⟩
    conv => whnf
    refine ACalls.useE (th_dot6 _ _ _ ?_ ?_) [3, 13, 25, 26, 35] rfl (by (conv => whnf); first | done | rfl | (refine renL_rec hL.flat ?_; (conv => whnf); first | done | rfl)) (by (conv => whnf); try rfl) ?_
    · omega
    · omega
    conv => whnf
    refine getF_suf hL.len 0 rfl ?_
    conv => whnf
    refine ⟨rfl, ?_⟩
    conv => whnf
    refine ACalls.useE (field_graph _ _ _ _ ?_ ?_) [] rfl (by (conv => whnf); first | done | rfl | (refine renL_rec hL.flat ?_; (conv => whnf); first | done | rfl)) (by (conv => whnf); try rfl) ?_
    · omega
    · omega
    conv => whnf
    refine Req.of ?_ ?_
    · exact recC_all rfl (hL.all fun _ => rfl) rfl
    conv => whnf
    exact ⟨rfl, rfl⟩
  · rw [hw, if_neg (by decide)]
    refine ACalls.code tabOk h88 Tryz.func88 Tryz.call88 ok88 ?_
    conv => whnf
    refine ACalls.useE (tw0 s ?_) [0, 1, 2, 3, 4, 5, 6, 7, 8, 9, 10, 11, 12, 13, 14, 15, 16, 17, 18, 19, 20, 21, 22, 23, 24, 25, 26, 27, 28, 29, 30, 31, 32, 33, 34, 35, 36, 37, 38, 39] rfl (by (conv => whnf); first | done | rfl | (refine renL_rec hL.flat ?_; (conv => whnf); first | done | rfl)) (by (conv => whnf); try rfl) ?_
    · exact hs.toOk
    conv => whnf
    rw [hw]
    conv => whnf
    refine renL_rec hL.flat ?_
    conv => whnf
    refine getF_pre rfl ?_
    conv => whnf
    refine ACalls.code tabOk h90 Tryz.func90 Tryz.call90 ok90 ?_
    conv => whnf
    refine getF_rg hL 37 rfl (by decide) ?_
    conv => whnf
    rw [z1]
    conv => whnf
    refine Req.of ?_ ?_
    · exact recC_all rfl (hL.all fun _ => rfl) rfl
    conv => whnf
    refine getF_pre rfl ?_
    conv => whnf
    refine ⟨rfl, ?_⟩
    conv => whnf
    refine getF_suf hL.len 0 rfl ?_
    conv => whnf
    refine ACalls.code tabOk h40 Tryz.func40 Tryz.call40 ok40 ?_
    conv => whnf
    refine getF_rg hL 11 rfl (by decide) ?_
    conv => whnf
    rw [z2]
    conv => whnf
    refine Req.of ?_ ?_
    · exact recC_all rfl (hL.all fun _ => rfl) rfl
    conv => whnf
    refine getF_suf hL.len 0 rfl ?_
    conv => whnf
    refine ⟨rfl, ?_⟩
    conv => whnf
    refine getF_pre rfl ?_
    conv => whnf
    refine ⟨rfl, ?_⟩
    conv => whnf
    refine ACalls.useE (th_dot6 _ _ _ ?_ ?_) [3, 13, 25, 26, 35] rfl (by (conv => whnf); first | done | rfl | (refine renL_rec hL.flat ?_; (conv => whnf); first | done | rfl)) (by (conv => whnf); try rfl) ?_
    · omega
    · omega
    conv => whnf
    refine getF_suf hL.len 0 rfl ?_
    conv => whnf
    refine ⟨rfl, ?_⟩
    conv => whnf
    refine ACalls.useE (field_graph _ _ _ _ ?_ ?_) [] rfl (by (conv => whnf); first | done | rfl | (refine renL_rec hL.flat ?_; (conv => whnf); first | done | rfl)) (by (conv => whnf); try rfl) ?_
    · omega
    · omega
    conv => whnf
    refine Req.of ?_ ?_
    · exact recC_all rfl (hL.all fun _ => rfl) rfl
    conv => whnf
    exact ⟨rfl, rfl⟩
theorem tm0 (s : TS) (hs : s.Top) : ACalls Tryz.prog 89 [.pointer (some ⟨0, 0, none⟩), .int .i64 0] (tsH s) fun v H => v = .bool false ∧ H = tsH s := by
  have hL := hs.L
  have z1 := hs.z 29 (by decide)
  refine ACalls.code tabOk h89 Tryz.func89 Tryz.call89 ok89 ?_
  conv => whnf
  refine ACalls.code tabOk h40 Tryz.func40 Tryz.call40 ok40 ?_
  conv => whnf
  refine getF_rg hL 29 rfl (by decide) ?_
  conv => whnf
  rw [z1]
  conv => whnf
  refine Req.of ?_ ?_
  · exact recC_all rfl (hL.all fun _ => rfl) rfl
  conv => whnf
  refine Req.of ?_ ?_
  · exact recC_all rfl (hL.all fun _ => rfl) rfl
  conv => whnf
  exact ⟨rfl, rfl⟩
/-- Is player 1 there? -/
@[irreducible] def plB1 (s : TS) : Bool := graphI s.g10 false (wd (rg s.L 5)) (dotF (ag1 s.t1.ln s.t1.sc) (ag2 s.t1.ln s.t1.sc) (if wd (rg s.L 5) = 1 then 5 else 6))
theorem tp1 (s : TS) (hs : s.Top) : ACalls Tryz.prog 88 [.pointer (some ⟨0, 0, none⟩), .int .i64 1] (tsH s) fun v H => v = .bool (plB1 s) ∧ H = tsH s := by
  have hL := hs.L
  have z1 := hs.z 38 (by decide)
  have z2 := hs.z 12 (by decide)
  have hln := hs.t1.ln
  have hsc := hs.t1.sc
  have hg := hs.g10
  have hdl : ∀ q : Int, 0 ≤ q → dotF (ag1 s.t1.ln s.t1.sc) (ag2 s.t1.ln s.t1.sc) q ≤ 9223372036854775807 := fun q hq => by
    have := ag_le s.t1.ln hsc
    unfold dotF; split; (omega); split <;> omega
  have h5 := hdl 5 (by decide)
  have h6 := hdl 6 (by decide)
  unfold plB1
  rcases wd_cases (rg s.L 5) with hw | hw | hw
  · rw [hw, if_pos rfl]
    refine ACalls.code tabOk h88 Tryz.func88 Tryz.call88 ok88 ?_
    conv => whnf
    refine ACalls.useE (tw1 s ?_) [0, 1, 2, 3, 4, 5, 6, 7, 8, 9, 10, 11, 12, 13, 14, 15, 16, 17, 18, 19, 20, 21, 22, 23, 24, 25, 26, 27, 28, 29, 30, 31, 32, 33, 34, 35, 36, 37, 38, 39] rfl (by (conv => whnf); first | done | rfl | (refine renL_rec hL.flat ?_; (conv => whnf); first | done | rfl)) (by (conv => whnf); try rfl) ?_
    · exact hs.toOk
    conv => whnf
    rw [hw]
    conv => whnf
    refine renL_rec hL.flat ?_
    conv => whnf
    refine getF_pre rfl ?_
    conv => whnf
    refine ACalls.code tabOk h90 Tryz.func90 Tryz.call90 ok90 ?_
    conv => whnf
    refine getF_rg hL 38 rfl (by decide) ?_
    conv => whnf
    rw [z1]
    conv => whnf
    refine Req.of ?_ ?_
    · exact recC_all rfl (hL.all fun _ => rfl) rfl
    conv => whnf
    refine getF_pre rfl ?_
    conv => whnf
    refine ⟨rfl, ?_⟩
    conv => whnf
    refine getF_suf hL.len 2 rfl ?_
    conv => whnf
    refine ACalls.code tabOk h40 Tryz.func40 Tryz.call40 ok40 ?_
    conv => whnf
    refine getF_rg hL 12 rfl (by decide) ?_
    conv => whnf
    rw [z2]
    conv => whnf
    refine Req.of ?_ ?_
    · exact recC_all rfl (hL.all fun _ => rfl) rfl
    conv => whnf
    refine getF_suf hL.len 2 rfl ?_
    conv => whnf
    refine ⟨rfl, ?_⟩
    conv => whnf
    refine getF_pre rfl ?_
    conv => whnf
    refine ⟨rfl, ?_⟩
    conv => whnf
    refine ACalls.useE (th_dot5 _ _ _ ?_ ?_) [4, 14, 27, 28, 36] rfl (by (conv => whnf); first | done | rfl | (refine renL_rec hL.flat ?_; (conv => whnf); first | done | rfl)) (by (conv => whnf); try rfl) ?_
    · omega
    · omega
    conv => whnf
    refine getF_suf hL.len 2 rfl ?_
    conv => whnf
    refine ⟨rfl, ?_⟩
    conv => whnf
    refine ACalls.useE (field_graph _ _ _ _ ?_ ?_) [] rfl (by (conv => whnf); first | done | rfl | (refine renL_rec hL.flat ?_; (conv => whnf); first | done | rfl)) (by (conv => whnf); try rfl) ?_
    · omega
    · omega
    conv => whnf
    refine Req.of ?_ ?_
    · exact recC_all rfl (hL.all fun _ => rfl) rfl
    conv => whnf
    exact ⟨rfl, rfl⟩
  · rw [hw, if_neg (by decide)]
    refine ACalls.code tabOk h88 Tryz.func88 Tryz.call88 ok88 ?_
    conv => whnf
    refine ACalls.useE (tw1 s ?_) [0, 1, 2, 3, 4, 5, 6, 7, 8, 9, 10, 11, 12, 13, 14, 15, 16, 17, 18, 19, 20, 21, 22, 23, 24, 25, 26, 27, 28, 29, 30, 31, 32, 33, 34, 35, 36, 37, 38, 39] rfl (by (conv => whnf); first | done | rfl | (refine renL_rec hL.flat ?_; (conv => whnf); first | done | rfl)) (by (conv => whnf); try rfl) ?_
    · exact hs.toOk
    conv => whnf
    rw [hw]
    conv => whnf
    refine renL_rec hL.flat ?_
    conv => whnf
    refine getF_pre rfl ?_
    conv => whnf
    refine ACalls.code tabOk h90 Tryz.func90 Tryz.call90 ok90 ?_
    conv => whnf
    refine getF_rg hL 38 rfl (by decide) ?_
    conv => whnf
    rw [z1]
    conv => whnf
    refine Req.of ?_ ?_
    · exact recC_all rfl (hL.all fun _ => rfl) rfl
    conv => whnf
    refine getF_pre rfl ?_
    conv => whnf
    refine ⟨rfl, ?_⟩
    conv => whnf
    refine getF_suf hL.len 2 rfl ?_
    conv => whnf
    refine ACalls.code tabOk h40 Tryz.func40 Tryz.call40 ok40 ?_
    conv => whnf
    refine getF_rg hL 12 rfl (by decide) ?_
    conv => whnf
    rw [z2]
    conv => whnf
    refine Req.of ?_ ?_
    · exact recC_all rfl (hL.all fun _ => rfl) rfl
    conv => whnf
    refine getF_suf hL.len 2 rfl ?_
    conv => whnf
    refine ⟨rfl, ?_⟩
    conv => whnf
    refine getF_pre rfl ?_
    conv => whnf
    refine ⟨rfl, ?_⟩
    conv => whnf
    refine ACalls.useE (th_dot6 _ _ _ ?_ ?_) [4, 14, 27, 28, 36] rfl (by (conv => whnf); first | done | rfl | (refine renL_rec hL.flat ?_; (conv => whnf); first | done | rfl)) (by (conv => whnf); try rfl) ?_
    · omega
    · omega
    conv => whnf
    refine getF_suf hL.len 2 rfl ?_
    conv => whnf
    refine ⟨rfl, ?_⟩
    conv => whnf
    refine ACalls.useE (field_graph _ _ _ _ ?_ ?_) [] rfl (by (conv => whnf); first | done | rfl | (refine renL_rec hL.flat ?_; (conv => whnf); first | done | rfl)) (by (conv => whnf); try rfl) ?_
    · omega
    · omega
    conv => whnf
    refine Req.of ?_ ?_
    · exact recC_all rfl (hL.all fun _ => rfl) rfl
    conv => whnf
    exact ⟨rfl, rfl⟩
  · rw [hw, if_neg (by decide)]
    refine ACalls.code tabOk h88 Tryz.func88 Tryz.call88 ok88 ?_
    conv => whnf
    refine ACalls.useE (tw1 s ?_) [0, 1, 2, 3, 4, 5, 6, 7, 8, 9, 10, 11, 12, 13, 14, 15, 16, 17, 18, 19, 20, 21, 22, 23, 24, 25, 26, 27, 28, 29, 30, 31, 32, 33, 34, 35, 36, 37, 38, 39] rfl (by (conv => whnf); first | done | rfl | (refine renL_rec hL.flat ?_; (conv => whnf); first | done | rfl)) (by (conv => whnf); try rfl) ?_
    · exact hs.toOk
    conv => whnf
    rw [hw]
    conv => whnf
    refine renL_rec hL.flat ?_
    conv => whnf
    refine getF_pre rfl ?_
    conv => whnf
    refine ACalls.code tabOk h90 Tryz.func90 Tryz.call90 ok90 ?_
    conv => whnf
    refine getF_rg hL 38 rfl (by decide) ?_
    conv => whnf
    rw [z1]
    conv => whnf
    refine Req.of ?_ ?_
    · exact recC_all rfl (hL.all fun _ => rfl) rfl
    conv => whnf
    refine getF_pre rfl ?_
    conv => whnf
    refine ⟨rfl, ?_⟩
    conv => whnf
    refine getF_suf hL.len 2 rfl ?_
    conv => whnf
    refine ACalls.code tabOk h40 Tryz.func40 Tryz.call40 ok40 ?_
    conv => whnf
    refine getF_rg hL 12 rfl (by decide) ?_
    conv => whnf
    rw [z2]
    conv => whnf
    refine Req.of ?_ ?_
    · exact recC_all rfl (hL.all fun _ => rfl) rfl
    conv => whnf
    refine getF_suf hL.len 2 rfl ?_
    conv => whnf
    refine ⟨rfl, ?_⟩
    conv => whnf
    refine getF_pre rfl ?_
    conv => whnf
    refine ⟨rfl, ?_⟩
    conv => whnf
    refine ACalls.useE (th_dot6 _ _ _ ?_ ?_) [4, 14, 27, 28, 36] rfl (by (conv => whnf); first | done | rfl | (refine renL_rec hL.flat ?_; (conv => whnf); first | done | rfl)) (by (conv => whnf); try rfl) ?_
    · omega
    · omega
    conv => whnf
    refine getF_suf hL.len 2 rfl ?_
    conv => whnf
    refine ⟨rfl, ?_⟩
    conv => whnf
    refine ACalls.useE (field_graph _ _ _ _ ?_ ?_) [] rfl (by (conv => whnf); first | done | rfl | (refine renL_rec hL.flat ?_; (conv => whnf); first | done | rfl)) (by (conv => whnf); try rfl) ?_
    · omega
    · omega
    conv => whnf
    refine Req.of ?_ ?_
    · exact recC_all rfl (hL.all fun _ => rfl) rfl
    conv => whnf
    exact ⟨rfl, rfl⟩
theorem tm1 (s : TS) (hs : s.Top) : ACalls Tryz.prog 89 [.pointer (some ⟨0, 0, none⟩), .int .i64 1] (tsH s) fun v H => v = .bool false ∧ H = tsH s := by
  have hL := hs.L
  have z1 := hs.z 30 (by decide)
  refine ACalls.code tabOk h89 Tryz.func89 Tryz.call89 ok89 ?_
  conv => whnf
  refine ACalls.code tabOk h40 Tryz.func40 Tryz.call40 ok40 ?_
  conv => whnf
  refine getF_rg hL 30 rfl (by decide) ?_
  conv => whnf
  rw [z1]
  conv => whnf
  refine Req.of ?_ ?_
  · exact recC_all rfl (hL.all fun _ => rfl) rfl
  conv => whnf
  refine Req.of ?_ ?_
  · exact recC_all rfl (hL.all fun _ => rfl) rfl
  conv => whnf
  exact ⟨rfl, rfl⟩
end Go.Proofs
