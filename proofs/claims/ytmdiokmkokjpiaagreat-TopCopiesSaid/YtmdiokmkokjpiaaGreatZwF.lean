/-
  Walks through the functions of the program, by contract.
-/
import Derived.Test.YtmdiokmkokjpiaaGreatZvF
set_option linter.all false
set_option linter.unusedVariables false
set_option linter.unusedSimpArgs false
set_option linter.unnecessarySimpa false
namespace Go.Proofs
open Go.Aw
set_option maxRecDepth 100000
set_option maxHeartbeats 8000000
/-- Two dots of two things meet: the dots ahead of the k-th pair. -/
def cmN (P0 P1 : Nat) (g0 g1 : Int) : Nat → Bool
  | 0 => false
  | k + 1 => cmN P0 P1 g0 g1 k || (decide ((P0 + k / 8) % 160 = (P1 + k % 8) % 160) && (graphI g0 false 1 (k / 8 : Nat) && graphI g1 false 1 (k % 8 : Nat)))
@[irreducible] def cmI (P0 P1 : Nat) (g0 g1 : Int) (k : Nat) : Bool := cmN P0 P1 g0 g1 k
theorem cmI_step (P0 P1 : Nat) (g0 g1 : Int) (a b : Nat) (hb : b < 8) : cmI P0 P1 g0 g1 (8 * a + (b + 1)) = (cmI P0 P1 g0 g1 (8 * a + b) || (decide ((P0 + a) % 160 = (P1 + b) % 160) && (graphI g0 false 1 (a : Nat) && graphI g1 false 1 (b : Nat)))) := by
  unfold cmI
  rw [← Nat.add_assoc, cmN, show (8 * a + b) / 8 = a from by omega, show (8 * a + b) % 8 = b from by omega]
theorem cm_zero (P0 P1 : Nat) (g0 g1 : Int) : cmI P0 P1 g0 g1 (8 * 0) = false := by unfold cmI; rfl
theorem tmeetG (g0 g1 y0 y1 : Int) (hg0 : 0 ≤ g0 ∧ g0 ≤ 255) (hg1 : 0 ≤ g1 ∧ g1 ≤ 255) (P0 P1 : Nat) (hP0 : P0 < 160) (hP1 : P1 < 160) (hy0 : (IntKind.i64.wrap y0).tmod 160 = (P0 : Int)) (hy1 : (IntKind.i64.wrap y1).tmod 160 = (P1 : Int))
    (q0 q1 q2 : Nat → TS) (b1 b2 b4 : TS) (s0 : ∀ x, (q0 x).Top) (s1 : ∀ x, (q1 x).Top) (s2 : ∀ x, (q2 x).Top) (sb1 : b1.Top) (sb2 : b2.Top) (sb4 : b4.Top) (R : Int)
    (k0 : ACalls Tryz.prog 7 [.int .i64 68] [] fun v H => v = .pointer (some ⟨0, 0, none⟩) ∧ H = tsH (q0 0))
    (kA : ∀ x, P0 = x → ACalls Tryz.prog 8 [.pointer (some ⟨0, 0, none⟩), .int .u16 16, .int .u8 0] (tsH (q0 x)) fun r H => r = .tuple #[] ∧ H = tsH (q1 x))
    (eA : ∀ x, P0 ≠ x → q1 x = q0 x)
    (kB : ∀ x, P1 = x → ACalls Tryz.prog 8 [.pointer (some ⟨0, 0, none⟩), .int .u16 17, .int .u8 0] (tsH (q1 x)) fun r H => r = .tuple #[] ∧ H = tsH (q2 x))
    (eB : ∀ x, P1 ≠ x → q2 x = q1 x)
    (eS : ∀ x, stp (q2 x) = q0 (x + 1))
    (kC : ACalls Tryz.prog 8 [.pointer (some ⟨0, 0, none⟩), .int .u16 27, .int .u8 g0] (tsH (q0 160)) fun r H => r = .tuple #[] ∧ H = tsH b1)
    (kD : ACalls Tryz.prog 8 [.pointer (some ⟨0, 0, none⟩), .int .u16 28, .int .u8 g1] (tsH b1) fun r H => r = .tuple #[] ∧ H = tsH b2)
    (kE : ACalls Tryz.prog 8 [.pointer (some ⟨0, 0, none⟩), .int .u16 44, .int .u8 0] (tsH (stpI 456 b2)) fun r H => r = .tuple #[] ∧ H = tsH b4)
    (kR : ACalls Tryz.prog 14 [.pointer (some ⟨0, 0, none⟩), .int .u16 7, .int .u8 0] (tsH (stpI 456 b4)) fun v H => v = .int .u8 R ∧ H = tsH (stpI 456 b4))
    (hfin : (bits .and .u8 R 128 != 0) = cmI P0 P1 g0 g1 64) :
    ACalls Tryz.prog 5 [.agg #[.int .u8 g0, .int .u8 g1], .agg #[.int .u8 y0, .int .u8 y1]] [] fun v _ => v = .bool true := by
  have hL0 := (s0 0).L
  refine ACalls.code tabOk h5 Tryz.func5 Tryz.call5 ok5 ?_
  conv => whnf
  refine ACalls.useE (t_draws) [] rfl (by (conv => whnf); first | done | rfl | (refine renL_rec hL0.flat ?_; (conv => whnf); first | done | rfl)) (by (conv => whnf); try rfl) ?_
  conv => whnf
  refine ACalls.useE (k0) [] rfl (by (conv => whnf); first | done | rfl | (refine renL_rec hL0.flat ?_; (conv => whnf); first | done | rfl)) (by (conv => whnf); try rfl) ?_
  conv => whnf
  refine renL_rec hL0.flat ?_
  conv => whnf
  refine ALoop.fd (σ := Nat) (fun n => [.chan none, .chan none, .pointer (some ⟨0, 0, none⟩), .pointer (some ⟨1, 0, none⟩), .chan none, .pointer (some ⟨2, 0, none⟩), .int .i64 n, .chan none, .chan none, .chan none, .chan none, .chan none, .chan none, .chan none, .chan none, .chan none, .chan none, .chan none, .chan none, .chan none, .chan none, .chan none, .chan none, .chan none, .chan none, .chan none, .chan none, .chan none, .chan none, .chan none, .chan none, .chan none, .chan none, .chan none, .chan none, .chan none, .chan none, .chan none, .chan none, .chan none, .chan none, .chan none, .chan none, .chan none, .chan none, .chan none, .chan none, .chan none, .chan none, .chan none, .chan none, .chan none, .chan none, .chan none, .chan none, .chan none, .chan none, .chan none, .chan none, .chan none, .chan none, .chan none, .chan none, .chan none, .chan none, .chan none, .chan none, .chan none, .chan none, .chan none, .chan none, .chan none, .chan none, .chan none, .chan none, .chan none, .chan none, .chan none, .chan none, .chan none, .chan none, .chan none, .chan none, .chan none, .chan none, .chan none, .chan none, .chan none, .chan none, .chan none, .chan none, .chan none, .chan none, .chan none, .chan none, .chan none, .chan none, .chan none, .chan none, .chan none, .chan none, .chan none, .chan none, .chan none, .chan none, .chan none]) (fun n => [.cells [.int .u8 g0, .int .u8 g1] 44, .cells [.int .u8 y0, .int .u8 y1] 44] ++ tsH2 (q0 n)) (fun n => n ≤ 160) (fun n => 160 - n) 0 [] rfl rfl (by omega) (fun n => ⟨rfl, rfl, ?hok, rfl⟩) ?_
  case hok =>
    simp only [tsH2, List.cons_append, List.nil_append, List.all_cons, List.all_nil, Bool.and_true, Bool.and_eq_true]
    exact ⟨rfl, rfl, recC_all rfl ((s0 n).L.all fun _ => rfl) rfl, rfl, rfl, rfl, rfl, rfl, rfl, rfl, rfl, rfl, rfl, rfl, rfl, rfl, rfl, rfl, rfl, rfl, rfl, rfl, rfl, rfl, rfl, rfl, rfl, rfl, rfl, rfl, rfl, rfl, rfl, rfl, rfl, rfl, rfl, rfl, rfl, rfl, rfl, rfl⟩
  clear k0 hL0
  intro n hn RR hR
  have hLa := (s0 n).L
  have hLb := (s1 n).L
  have hLc := (s2 n).L
  have hLd := (s0 (n + 1)).L
  have ei : IntKind.i64.wrap ((n : Int) + 1) = ((n + 1 : Nat) : Int) := by rw [wrap64 (by omega) (by omega)]; rfl
  conv => whnf
  refine Bif.of (fun hc => ?_) fun hc => ?_
  · have hlt : n < 160 := by have := of_decide_eq_true hc; omega
    rw [hc]
    clear kC kD kE kR hfin
    have est := eS n
    by_cases hA : P0 = n
    · have ca := kA n hA
      have hbA : ((IntKind.i64.wrap y0).tmod 160 == (n : Int)) = true := by rw [hy0]; simp [hA]
      by_cases hB : P1 = n
      · have cb := kB n hB
        have hbB : ((IntKind.i64.wrap y1).tmod 160 == (n : Int)) = true := by rw [hy1]; simp [hB]
        conv => whnf
        refine ALoop.run 3 ?_
        conv => whnf
        rw [hbA]
        conv => whnf
        refine ACalls.useE (ca) [2, 3, 4, 5, 6, 7, 8, 9, 10, 11, 12, 13, 14, 15, 16, 17, 18, 19, 20, 21, 22, 23, 24, 25, 26, 27, 28, 29, 30, 31, 32, 33, 34, 35, 36, 37, 38, 39, 40, 41] rfl (by (conv => whnf); first | done | rfl | (refine renL_rec hLa.flat ?_; (conv => whnf); first | done | rfl) | (refine renL_rec hLb.flat ?_; (conv => whnf); first | done | rfl) | (refine renL_rec hLc.flat ?_; (conv => whnf); first | done | rfl)) (by (conv => whnf); try rfl) ?_
        conv => whnf
        refine renL_rec hLb.flat ?_
        conv => whnf
        rw [hbB]
        conv => whnf
        refine ACalls.useE (cb) [2, 3, 4, 5, 6, 7, 8, 9, 10, 11, 12, 13, 14, 15, 16, 17, 18, 19, 20, 21, 22, 23, 24, 25, 26, 27, 28, 29, 30, 31, 32, 33, 34, 35, 36, 37, 38, 39, 40, 41] rfl (by (conv => whnf); first | done | rfl | (refine renL_rec hLa.flat ?_; (conv => whnf); first | done | rfl) | (refine renL_rec hLb.flat ?_; (conv => whnf); first | done | rfl) | (refine renL_rec hLc.flat ?_; (conv => whnf); first | done | rfl)) (by (conv => whnf); try rfl) ?_
        conv => whnf
        refine renL_rec hLc.flat ?_
        conv => whnf
        refine ACalls.useE (t_stepQ _ (s2 n)) [2, 3, 4, 5, 6, 7, 8, 9, 10, 11, 12, 13, 14, 15, 16, 17, 18, 19, 20, 21, 22, 23, 24, 25, 26, 27, 28, 29, 30, 31, 32, 33, 34, 35, 36, 37, 38, 39, 40, 41] rfl (by (conv => whnf); first | done | rfl | (refine renL_rec hLa.flat ?_; (conv => whnf); first | done | rfl) | (refine renL_rec hLb.flat ?_; (conv => whnf); first | done | rfl) | (refine renL_rec hLc.flat ?_; (conv => whnf); first | done | rfl)) (by (conv => whnf); try rfl) ?_
        conv => whnf
        rw [est]
        conv => whnf
        refine renL_rec hLd.flat ?_
        conv => whnf
        (rw [ei]; exact hR (n + 1) _ _ [] rfl rfl (by omega) (by omega))
      · have eb := eB n hB
        have hbB : ((IntKind.i64.wrap y1).tmod 160 == (n : Int)) = false := by rw [hy1]; simp; omega
        rw [eb] at est
        have ksS := t_stepQ _ (s1 n)
        conv => whnf
        refine ALoop.run 3 ?_
        conv => whnf
        rw [hbA]
        conv => whnf
        refine ACalls.useE (ca) [2, 3, 4, 5, 6, 7, 8, 9, 10, 11, 12, 13, 14, 15, 16, 17, 18, 19, 20, 21, 22, 23, 24, 25, 26, 27, 28, 29, 30, 31, 32, 33, 34, 35, 36, 37, 38, 39, 40, 41] rfl (by (conv => whnf); first | done | rfl | (refine renL_rec hLa.flat ?_; (conv => whnf); first | done | rfl) | (refine renL_rec hLb.flat ?_; (conv => whnf); first | done | rfl) | (refine renL_rec hLc.flat ?_; (conv => whnf); first | done | rfl)) (by (conv => whnf); try rfl) ?_
        conv => whnf
        refine renL_rec hLb.flat ?_
        conv => whnf
        rw [hbB]
        conv => whnf
        refine ACalls.useE (ksS) [2, 3, 4, 5, 6, 7, 8, 9, 10, 11, 12, 13, 14, 15, 16, 17, 18, 19, 20, 21, 22, 23, 24, 25, 26, 27, 28, 29, 30, 31, 32, 33, 34, 35, 36, 37, 38, 39, 40, 41] rfl (by (conv => whnf); first | done | rfl | (refine renL_rec hLa.flat ?_; (conv => whnf); first | done | rfl) | (refine renL_rec hLb.flat ?_; (conv => whnf); first | done | rfl) | (refine renL_rec hLc.flat ?_; (conv => whnf); first | done | rfl)) (by (conv => whnf); try rfl) ?_
        conv => whnf
        rw [est]
        conv => whnf
        refine renL_rec hLd.flat ?_
        conv => whnf
        (rw [ei]; exact hR (n + 1) _ _ [] rfl rfl (by omega) (by omega))
    · have ea := eA n hA
      have hbA : ((IntKind.i64.wrap y0).tmod 160 == (n : Int)) = false := by rw [hy0]; simp; omega
      by_cases hB : P1 = n
      · have cb := kB n hB
        rw [ea] at cb
        have hbB : ((IntKind.i64.wrap y1).tmod 160 == (n : Int)) = true := by rw [hy1]; simp [hB]
        conv => whnf
        refine ALoop.run 3 ?_
        conv => whnf
        rw [hbA]
        conv => whnf
        rw [hbB]
        conv => whnf
        refine ACalls.useE (cb) [2, 3, 4, 5, 6, 7, 8, 9, 10, 11, 12, 13, 14, 15, 16, 17, 18, 19, 20, 21, 22, 23, 24, 25, 26, 27, 28, 29, 30, 31, 32, 33, 34, 35, 36, 37, 38, 39, 40, 41] rfl (by (conv => whnf); first | done | rfl | (refine renL_rec hLa.flat ?_; (conv => whnf); first | done | rfl) | (refine renL_rec hLb.flat ?_; (conv => whnf); first | done | rfl) | (refine renL_rec hLc.flat ?_; (conv => whnf); first | done | rfl)) (by (conv => whnf); try rfl) ?_
        conv => whnf
        refine renL_rec hLc.flat ?_
        conv => whnf
        refine ACalls.useE (t_stepQ _ (s2 n)) [2, 3, 4, 5, 6, 7, 8, 9, 10, 11, 12, 13, 14, 15, 16, 17, 18, 19, 20, 21, 22, 23, 24, 25, 26, 27, 28, 29, 30, 31, 32, 33, 34, 35, 36, 37, 38, 39, 40, 41] rfl (by (conv => whnf); first | done | rfl | (refine renL_rec hLa.flat ?_; (conv => whnf); first | done | rfl) | (refine renL_rec hLb.flat ?_; (conv => whnf); first | done | rfl) | (refine renL_rec hLc.flat ?_; (conv => whnf); first | done | rfl)) (by (conv => whnf); try rfl) ?_
        conv => whnf
        rw [est]
        conv => whnf
        refine renL_rec hLd.flat ?_
        conv => whnf
        (rw [ei]; exact hR (n + 1) _ _ [] rfl rfl (by omega) (by omega))
      · have eb := eB n hB
        have hbB : ((IntKind.i64.wrap y1).tmod 160 == (n : Int)) = false := by rw [hy1]; simp; omega
        rw [eb, ea] at est
        have ksS := t_stepQ _ (s0 n)
        conv => whnf
        refine ALoop.run 3 ?_
        conv => whnf
        rw [hbA]
        conv => whnf
        rw [hbB]
        conv => whnf
        refine ACalls.useE (ksS) [2, 3, 4, 5, 6, 7, 8, 9, 10, 11, 12, 13, 14, 15, 16, 17, 18, 19, 20, 21, 22, 23, 24, 25, 26, 27, 28, 29, 30, 31, 32, 33, 34, 35, 36, 37, 38, 39, 40, 41] rfl (by (conv => whnf); first | done | rfl | (refine renL_rec hLa.flat ?_; (conv => whnf); first | done | rfl) | (refine renL_rec hLb.flat ?_; (conv => whnf); first | done | rfl) | (refine renL_rec hLc.flat ?_; (conv => whnf); first | done | rfl)) (by (conv => whnf); try rfl) ?_
        conv => whnf
        rw [est]
        conv => whnf
        refine renL_rec hLd.flat ?_
        conv => whnf
        (rw [ei]; exact hR (n + 1) _ _ [] rfl rfl (by omega) (by omega))
  · have hn0 : n = 160 := by have := of_decide_eq_false hc; omega
    rw [hc]
    subst hn0
    clear hR ei kA kB eA eB eS hLb hLc hLd s1 s2
    have hLb := sb1.L
    have hLc := sb2.L
    conv => whnf
    refine ACalls.useE (kC) [2, 3, 4, 5, 6, 7, 8, 9, 10, 11, 12, 13, 14, 15, 16, 17, 18, 19, 20, 21, 22, 23, 24, 25, 26, 27, 28, 29, 30, 31, 32, 33, 34, 35, 36, 37, 38, 39, 40, 41] rfl (by (conv => whnf); first | done | rfl | (refine renL_rec hLa.flat ?_; (conv => whnf); first | done | rfl) | (refine renL_rec hLb.flat ?_; (conv => whnf); first | done | rfl) | (refine renL_rec hLc.flat ?_; (conv => whnf); first | done | rfl)) (by (conv => whnf); try rfl) ?_
    conv => whnf
    refine renL_rec hLb.flat ?_
    conv => whnf
    refine ACalls.useE (kD) [2, 3, 4, 5, 6, 7, 8, 9, 10, 11, 12, 13, 14, 15, 16, 17, 18, 19, 20, 21, 22, 23, 24, 25, 26, 27, 28, 29, 30, 31, 32, 33, 34, 35, 36, 37, 38, 39, 40, 41] rfl (by (conv => whnf); first | done | rfl | (refine renL_rec hLa.flat ?_; (conv => whnf); first | done | rfl) | (refine renL_rec hLb.flat ?_; (conv => whnf); first | done | rfl) | (refine renL_rec hLc.flat ?_; (conv => whnf); first | done | rfl)) (by (conv => whnf); try rfl) ?_
    conv => whnf
    refine renL_rec hLc.flat ?_
    conv => whnf
    refine ALoop.fd (σ := Nat) (fun i => [.chan none, .chan none, .pointer (some ⟨0, 0, none⟩), .pointer (some ⟨1, 0, none⟩), .chan none, .pointer (some ⟨2, 0, none⟩), .chan none, .chan none, .int .i64 i, .chan none, .chan none, .chan none, .chan none, .chan none, .chan none, .chan none, .chan none, .chan none, .chan none, .chan none, .chan none, .chan none, .chan none, .chan none, .chan none, .chan none, .chan none, .chan none, .chan none, .chan none, .chan none, .chan none, .chan none, .chan none, .chan none, .chan none, .chan none, .chan none, .chan none, .chan none, .chan none, .chan none, .chan none, .chan none, .chan none, .chan none, .chan none, .chan none, .chan none, .chan none, .chan none, .chan none, .chan none, .chan none, .chan none, .chan none, .chan none, .chan none, .chan none, .chan none, .chan none, .chan none, .chan none, .chan none, .chan none, .chan none, .chan none, .chan none, .chan none, .chan none, .chan none, .chan none, .chan none, .chan none, .chan none, .chan none, .chan none, .chan none, .chan none, .chan none, .chan none, .chan none, .chan none, .chan none, .chan none, .chan none, .chan none, .chan none, .chan none, .chan none, .chan none, .chan none, .chan none, .chan none, .chan none, .chan none, .chan none, .chan none, .chan none, .chan none, .chan none, .chan none, .chan none, .chan none, .chan none, .chan none]) (fun i => [.cells [.int .u8 g0, .int .u8 g1] 44, .cells [.int .u8 y0, .int .u8 y1] 44] ++ tsH2 (stpI i b2)) (fun i => i ≤ 456) (fun i => 456 - i) 0 [] rfl (by rw [stpI_zero]; rfl) (by omega) (fun i => ⟨rfl, rfl, ?hok2, rfl⟩) ?_
    case hok2 =>
      simp only [tsH2, List.cons_append, List.nil_append, List.all_cons, List.all_nil, Bool.and_true, Bool.and_eq_true]
      exact ⟨rfl, rfl, recC_all rfl ((stpI_top sb2 i).L.all fun _ => rfl) rfl, rfl, rfl, rfl, rfl, rfl, rfl, rfl, rfl, rfl, rfl, rfl, rfl, rfl, rfl, rfl, rfl, rfl, rfl, rfl, rfl, rfl, rfl, rfl, rfl, rfl, rfl, rfl, rfl, rfl, rfl, rfl, rfl, rfl, rfl, rfl, rfl, rfl, rfl, rfl⟩
    clear kC kD hLa hLb hLc
    intro i hi R2 hR2
    have hsi := stpI_top sb2 i
    have hLi := hsi.L
    have hLn := (stpI_top sb2 (i + 1)).L
    have ei : IntKind.i64.wrap ((i : Int) + 1) = ((i + 1 : Nat) : Int) := by rw [wrap64 (by omega) (by omega)]; rfl
    conv => whnf
    refine Bif.of (fun hc2 => ?_) fun hc2 => ?_
    · have hlt : i < 456 := by have := of_decide_eq_true hc2; omega
      have hs2 : stp (stpI i b2) = stpI (i + 1) b2 := stpI_succ rfl
      rw [hc2]
      conv => whnf
      refine ACalls.useE (t_stepQ _ hsi) [2, 3, 4, 5, 6, 7, 8, 9, 10, 11, 12, 13, 14, 15, 16, 17, 18, 19, 20, 21, 22, 23, 24, 25, 26, 27, 28, 29, 30, 31, 32, 33, 34, 35, 36, 37, 38, 39, 40, 41] rfl (by (conv => whnf); first | done | rfl | (refine renL_rec hLi.flat ?_; (conv => whnf); first | done | rfl)) (by (conv => whnf); try rfl) ?_
      conv => whnf
      rw [hs2]
      conv => whnf
      refine renL_rec hLn.flat ?_
      conv => whnf
      (rw [ei]; exact hR2 (i + 1) _ _ [] rfl rfl (by omega) (by omega))
    have hi0 : i = 456 := by have := of_decide_eq_false hc2; omega
    rw [hc2]
    subst hi0
    clear hR2 ei hLn
    have hLb := sb4.L
    conv => whnf
    refine ACalls.useE (kE) [2, 3, 4, 5, 6, 7, 8, 9, 10, 11, 12, 13, 14, 15, 16, 17, 18, 19, 20, 21, 22, 23, 24, 25, 26, 27, 28, 29, 30, 31, 32, 33, 34, 35, 36, 37, 38, 39, 40, 41] rfl (by (conv => whnf); first | done | rfl | (refine renL_rec hLi.flat ?_; (conv => whnf); first | done | rfl) | (refine renL_rec hLb.flat ?_; (conv => whnf); first | done | rfl)) (by (conv => whnf); try rfl) ?_
    conv => whnf
    refine renL_rec hLb.flat ?_
    conv => whnf
    refine ALoop.fd (σ := Nat) (fun i => [.chan none, .chan none, .pointer (some ⟨0, 0, none⟩), .pointer (some ⟨1, 0, none⟩), .chan none, .pointer (some ⟨2, 0, none⟩), .chan none, .chan none, .chan none, .int .i64 i, .chan none, .chan none, .chan none, .chan none, .chan none, .chan none, .chan none, .chan none, .chan none, .chan none, .chan none, .chan none, .chan none, .chan none, .chan none, .chan none, .chan none, .chan none, .chan none, .chan none, .chan none, .chan none, .chan none, .chan none, .chan none, .chan none, .chan none, .chan none, .chan none, .chan none, .chan none, .chan none, .chan none, .chan none, .chan none, .chan none, .chan none, .chan none, .chan none, .chan none, .chan none, .chan none, .chan none, .chan none, .chan none, .chan none, .chan none, .chan none, .chan none, .chan none, .chan none, .chan none, .chan none, .chan none, .chan none, .chan none, .chan none, .chan none, .chan none, .chan none, .chan none, .chan none, .chan none, .chan none, .chan none, .chan none, .chan none, .chan none, .chan none, .chan none, .chan none, .chan none, .chan none, .chan none, .chan none, .chan none, .chan none, .chan none, .chan none, .chan none, .chan none, .chan none, .chan none, .chan none, .chan none, .chan none, .chan none, .chan none, .chan none, .chan none, .chan none, .chan none, .chan none, .chan none, .chan none, .chan none]) (fun i => [.cells [.int .u8 g0, .int .u8 g1] 44, .cells [.int .u8 y0, .int .u8 y1] 44] ++ tsH2 (stpI i b4)) (fun i => i ≤ 456) (fun i => 456 - i) 0 [] rfl (by rw [stpI_zero]; rfl) (by omega) (fun i => ⟨rfl, rfl, ?hok3, rfl⟩) ?_
    case hok3 =>
      simp only [tsH2, List.cons_append, List.nil_append, List.all_cons, List.all_nil, Bool.and_true, Bool.and_eq_true]
      exact ⟨rfl, rfl, recC_all rfl ((stpI_top sb4 i).L.all fun _ => rfl) rfl, rfl, rfl, rfl, rfl, rfl, rfl, rfl, rfl, rfl, rfl, rfl, rfl, rfl, rfl, rfl, rfl, rfl, rfl, rfl, rfl, rfl, rfl, rfl, rfl, rfl, rfl, rfl, rfl, rfl, rfl, rfl, rfl, rfl, rfl, rfl, rfl, rfl, rfl, rfl⟩
    clear kE hLi hLb hsi
    intro i hi R2 hR2
    have hsi := stpI_top sb4 i
    have hLi := hsi.L
    have hLn := (stpI_top sb4 (i + 1)).L
    have ei : IntKind.i64.wrap ((i : Int) + 1) = ((i + 1 : Nat) : Int) := by rw [wrap64 (by omega) (by omega)]; rfl
    conv => whnf
    refine Bif.of (fun hc2 => ?_) fun hc2 => ?_
    · have hlt : i < 456 := by have := of_decide_eq_true hc2; omega
      have hs2 : stp (stpI i b4) = stpI (i + 1) b4 := stpI_succ rfl
      rw [hc2]
      conv => whnf
      refine ACalls.useE (t_stepQ _ hsi) [2, 3, 4, 5, 6, 7, 8, 9, 10, 11, 12, 13, 14, 15, 16, 17, 18, 19, 20, 21, 22, 23, 24, 25, 26, 27, 28, 29, 30, 31, 32, 33, 34, 35, 36, 37, 38, 39, 40, 41] rfl (by (conv => whnf); first | done | rfl | (refine renL_rec hLi.flat ?_; (conv => whnf); first | done | rfl)) (by (conv => whnf); try rfl) ?_
      conv => whnf
      rw [hs2]
      conv => whnf
      refine renL_rec hLn.flat ?_
      conv => whnf
      (rw [ei]; exact hR2 (i + 1) _ _ [] rfl rfl (by omega) (by omega))
    have hi0 : i = 456 := by have := of_decide_eq_false hc2; omega
    rw [hc2]
    subst hi0
    clear hR2 ei hLn hc hc2 hn hi
    conv => whnf
  
    have hQ := hsi.L
    refine ALoop.fd (σ := Nat) (fun a => [.chan none, .chan none, .pointer (some ⟨0, 0, none⟩), .pointer (some ⟨1, 0, none⟩), .chan none, .pointer (some ⟨2, 0, none⟩), .chan none, .chan none, .chan none, .chan none, .bool (cmI P0 P1 g0 g1 (8 * a)), .int .i64 a, .chan none, .chan none, .chan none, .chan none, .chan none, .chan none, .chan none, .chan none, .chan none, .chan none, .chan none, .chan none, .chan none, .chan none, .chan none, .chan none, .chan none, .chan none, .chan none, .chan none, .chan none, .chan none, .chan none, .chan none, .chan none, .chan none, .chan none, .chan none, .chan none, .chan none, .chan none, .chan none, .chan none, .chan none, .chan none, .chan none, .chan none, .chan none, .chan none, .chan none, .chan none, .chan none, .chan none, .chan none, .chan none, .chan none, .chan none, .chan none, .chan none, .chan none, .chan none, .chan none, .chan none, .chan none, .chan none, .chan none, .chan none, .chan none, .chan none, .chan none, .chan none, .chan none, .chan none, .chan none, .chan none, .chan none, .chan none, .chan none, .chan none, .chan none, .chan none, .chan none, .chan none, .chan none, .chan none, .chan none, .chan none, .chan none, .chan none, .chan none, .chan none, .chan none, .chan none, .chan none, .chan none, .chan none, .chan none, .chan none, .chan none, .chan none, .chan none, .chan none, .chan none, .chan none]) (fun _ => [.cells [.int .u8 g0, .int .u8 g1] 44, .cells [.int .u8 y0, .int .u8 y1] 44] ++ tsH2 (stpI 456 b4)) (fun a => a ≤ 8) (fun a => 8 - a) 0 [] (by rw [cm_zero]; rfl) rfl (by omega) (fun a => ⟨rfl, rfl, ?hok4, rfl⟩) ?_
    case hok4 =>
      simp only [tsH2, List.cons_append, List.nil_append, List.all_cons, List.all_nil, Bool.and_true, Bool.and_eq_true]
      exact ⟨rfl, rfl, recC_all rfl (hQ.all fun _ => rfl) rfl, rfl, rfl, rfl, rfl, rfl, rfl, rfl, rfl, rfl, rfl, rfl, rfl, rfl, rfl, rfl, rfl, rfl, rfl, rfl, rfl, rfl, rfl, rfl, rfl, rfl, rfl, rfl, rfl, rfl, rfl, rfl, rfl, rfl, rfl, rfl, rfl, rfl, rfl, rfl⟩
    intro a ha R3 hR3
    have ei : IntKind.i64.wrap ((a : Int) + 1) = ((a + 1 : Nat) : Int) := by rw [wrap64 (by omega) (by omega)]; rfl
    conv => whnf
    refine Bif.of (fun hc3 => ?_) fun hc3 => ?_
    · have hla : a < 8 := by have := of_decide_eq_true hc3; omega
      rw [hc3]
      clear hfin kR
      conv => whnf
      refine ALoop.fd (σ := Nat) (fun b => [.chan none, .chan none, .pointer (some ⟨0, 0, none⟩), .pointer (some ⟨1, 0, none⟩), .chan none, .pointer (some ⟨2, 0, none⟩), .chan none, .chan none, .chan none, .chan none, .bool (cmI P0 P1 g0 g1 (8 * a + b)), .int .i64 a, .int .i64 b, .chan none, .chan none, .chan none, .chan none, .chan none, .chan none, .chan none, .chan none, .chan none, .chan none, .chan none, .chan none, .chan none, .chan none, .chan none, .chan none, .chan none, .chan none, .chan none, .chan none, .chan none, .chan none, .chan none, .chan none, .chan none, .chan none, .chan none, .chan none, .chan none, .chan none, .chan none, .chan none, .chan none, .chan none, .chan none, .chan none, .chan none, .chan none, .chan none, .chan none, .chan none, .chan none, .chan none, .chan none, .chan none, .chan none, .chan none, .chan none, .chan none, .chan none, .chan none, .chan none, .chan none, .chan none, .chan none, .chan none, .chan none, .chan none, .chan none, .chan none, .chan none, .chan none, .chan none, .chan none, .chan none, .chan none, .chan none, .chan none, .chan none, .chan none, .chan none, .chan none, .chan none, .chan none, .chan none, .chan none, .chan none, .chan none, .chan none, .chan none, .chan none, .chan none, .chan none, .chan none, .chan none, .chan none, .chan none, .chan none, .chan none, .chan none, .chan none, .chan none, .chan none]) (fun _ => [.cells [.int .u8 g0, .int .u8 g1] 44, .cells [.int .u8 y0, .int .u8 y1] 44] ++ tsH2 (stpI 456 b4)) (fun b => b ≤ 8) (fun b => 8 - b) 0 [] rfl rfl (by omega) (fun b => ⟨rfl, rfl, ?hok5, rfl⟩) ?_
      case hok5 =>
        simp only [tsH2, List.cons_append, List.nil_append, List.all_cons, List.all_nil, Bool.and_true, Bool.and_eq_true]
        exact ⟨rfl, rfl, recC_all rfl (hQ.all fun _ => rfl) rfl, rfl, rfl, rfl, rfl, rfl, rfl, rfl, rfl, rfl, rfl, rfl, rfl, rfl, rfl, rfl, rfl, rfl, rfl, rfl, rfl, rfl, rfl, rfl, rfl, rfl, rfl, rfl, rfl, rfl, rfl, rfl, rfl, rfl, rfl, rfl, rfl, rfl, rfl, rfl⟩
      intro b hb R4 hR4
      have ei4 : IntKind.i64.wrap ((b : Int) + 1) = ((b + 1 : Nat) : Int) := by rw [wrap64 (by omega) (by omega)]; rfl
      conv => whnf
      refine Bif.of (fun hc4 => ?_) fun hc4 => ?_
      · have hlb : b < 8 := by have := of_decide_eq_true hc4; omega
        rw [hc4]
        have hnx := cmI_step P0 P1 g0 g1 a b hlb
        have hraw : ((IntKind.i64.wrap ((IntKind.i64.wrap y0).tmod 160 + (a : Int))).tmod 160 == (IntKind.i64.wrap ((IntKind.i64.wrap y1).tmod 160 + (b : Int))).tmod 160) = decide ((P0 + a) % 160 = (P1 + b) % 160) := by
          rw [hy0, hy1, wrap64 (by omega) (by omega), wrap64 (by omega) (by omega), Int.tmod_eq_emod_of_nonneg (by omega), Int.tmod_eq_emod_of_nonneg (by omega), Bool.eq_iff_iff, beq_iff_eq, decide_eq_true_iff]
          omega
        rw [← hraw] at hnx
        generalize hsm : ((IntKind.i64.wrap ((IntKind.i64.wrap y0).tmod 160 + (a : Int))).tmod 160 == (IntKind.i64.wrap ((IntKind.i64.wrap y1).tmod 160 + (b : Int))).tmod 160) = sm at hnx
        generalize hcv : cmI P0 P1 g0 g1 (8 * a + b) = c at hnx
        clear hR3 hraw
        cases c
        · cases sm
          · rw [Bool.false_or, Bool.false_and] at hnx
            conv => whnf
            rw [hsm]
            conv => whnf
            (rw [ei4]; exact hR4 (b + 1) _ _ [] (by rw [hnx]; rfl) rfl (by omega) (by omega))
          · by_cases hga : graphI g0 false 1 (a : Nat) = true
            · rw [Bool.false_or, Bool.true_and, hga, Bool.true_and] at hnx
              conv => whnf
              rw [hsm]
              conv => whnf
              refine ACalls.useE (field_graph _ _ _ _ hg0 ?_) [] rfl (by (conv => whnf); try rfl) (by (conv => whnf); try rfl) ?_
              · omega
              conv => whnf
              rw [hga]
              conv => whnf
              refine ACalls.useE (field_graph _ _ _ _ hg1 ?_) [] rfl (by (conv => whnf); try rfl) (by (conv => whnf); try rfl) ?_
              · omega
              conv => whnf
              (rw [ei4]; exact hR4 (b + 1) _ _ [] (by rw [hnx]; rfl) rfl (by omega) (by omega))
            · have hga2 : graphI g0 false 1 (a : Nat) = false := by simpa using hga
              rw [Bool.false_or, Bool.true_and, hga2, Bool.false_and] at hnx
              conv => whnf
              rw [hsm]
              conv => whnf
              refine ACalls.useE (field_graph _ _ _ _ hg0 ?_) [] rfl (by (conv => whnf); try rfl) (by (conv => whnf); try rfl) ?_
              · omega
              conv => whnf
              rw [hga2]
              conv => whnf
              (rw [ei4]; exact hR4 (b + 1) _ _ [] (by rw [hnx]; rfl) rfl (by omega) (by omega))
        · rw [Bool.true_or] at hnx
          conv => whnf
          rw [hsm]
          conv => whnf
          (rw [ei4]; exact hR4 (b + 1) _ _ [] (by rw [hnx]; rfl) rfl (by omega) (by omega))
      · have hb0 : b = 8 := by have := of_decide_eq_false hc4; omega
        rw [hc4]
        subst hb0
        conv => whnf
        (rw [ei]; exact hR3 (a + 1) _ _ [] rfl rfl (by omega) (by omega))
    · have ha0 : a = 8 := by have := of_decide_eq_false hc3; omega
      rw [hc3]
      subst ha0
      rw [show 8 * 8 = 64 from rfl, ← hfin]
      conv => whnf
      refine ACalls.useE (kR) [2, 3, 4, 5, 6, 7, 8, 9, 10, 11, 12, 13, 14, 15, 16, 17, 18, 19, 20, 21, 22, 23, 24, 25, 26, 27, 28, 29, 30, 31, 32, 33, 34, 35, 36, 37, 38, 39, 40, 41] rfl (by (conv => whnf); first | done | rfl | (refine renL_rec hQ.flat ?_; (conv => whnf); first | done | rfl)) (by (conv => whnf); try rfl) ?_
      conv => whnf
      refine renL_rec hQ.flat ?_
      conv => whnf
      (rw [beq_self_eq_true])
end Go.Proofs
