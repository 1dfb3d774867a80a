/-
  Walks through the functions of the program, by contract.
-/
import Derived.Test.YtmdiokmkokjpiaaGreatZyF
set_option linter.all false
set_option linter.unusedVariables false
set_option linter.unusedSimpArgs false
set_option linter.unnecessarySimpa false
namespace Go.Proofs
open Go.Aw
set_option maxRecDepth 100000
set_option maxHeartbeats 8000000
theorem tcop_4 (g u y : Int) (hg : 0 ≤ g ∧ g ≤ 255) (hk : (IntKind.i64.wrap u).tmod 8 = 4) (P : Nat) (hP : P < 160) (hy : (IntKind.i64.wrap y).tmod 160 = (P : Int))
    (a0 a1 a2 a3 a4 a5 : TS) (s0 : a0.Top) (s1 : a1.Top) (s2 : a2.Top) (s3 : a3.Top) (s4 : a4.Top) (s5 : a5.Top) (F : Nat → Int) (A : Array Value) (hA : A.toList = rowL .u8 F 160)
    (k0 : ACalls Tryz.prog 7 [.int .i64 ((68 + P : Nat) : Int)] [] fun v H => v = .pointer (some ⟨0, 0, none⟩) ∧ H = tsH a0)
    (k1 : ACalls Tryz.prog 8 [.pointer (some ⟨0, 0, none⟩), .int .u16 16, .int .u8 0] (tsH a0) fun r H => r = .tuple #[] ∧ H = tsH a1)
    (k2 : ACalls Tryz.prog 8 [.pointer (some ⟨0, 0, none⟩), .int .u16 4, .int .u8 u] (tsH a1) fun r H => r = .tuple #[] ∧ H = tsH a2)
    (k3 : ACalls Tryz.prog 8 [.pointer (some ⟨0, 0, none⟩), .int .u16 6, .int .u8 68] (tsH a2) fun r H => r = .tuple #[] ∧ H = tsH a3)
    (k4 : ACalls Tryz.prog 8 [.pointer (some ⟨0, 0, none⟩), .int .u16 27, .int .u8 g] (tsH a3) fun r H => r = .tuple #[] ∧ H = tsH a4)
    (k5 : ACalls Tryz.prog 9 [.pointer (some ⟨0, 0, none⟩)] (tsH (stpI 456 a4)) fun v H => v = .agg A ∧ H = tsH a5)
    (hF : ∀ x, x < 160 → F x = if wI 4 P g 16 x then 68 else 0) :
    ACalls Tryz.prog 4 [.int .u8 g, .int .u8 u, .int .u8 y] [] fun v _ => v = .bool true := by
  have hL0 := s0.L
  have hL1 := s1.L
  have hL2 := s2.L
  have hL3 := s3.L
  have hL4 := s4.L
  have hL5 := s5.L
  have hnew : (IntKind.i64.wrap (68 + (IntKind.i64.wrap y).tmod 160)).tmod 228 = ((68 + P : Nat) : Int) := by
    rw [hy, wrap64 (by omega) (by omega), Int.tmod_eq_emod_of_nonneg (by omega)]; omega
  refine ACalls.code tabOk h4 Tryz.func4 Tryz.call4 ok4 ?_
  conv => whnf
  refine ACalls.useE (t_draws) [] rfl (by (conv => whnf); first | done | rfl | (refine renL_rec hL0.flat ?_; (conv => whnf); first | done | rfl) | (refine renL_rec hL1.flat ?_; (conv => whnf); first | done | rfl) | (refine renL_rec hL2.flat ?_; (conv => whnf); first | done | rfl) | (refine renL_rec hL3.flat ?_; (conv => whnf); first | done | rfl) | (refine renL_rec hL4.flat ?_; (conv => whnf); first | done | rfl)) (by (conv => whnf); try rfl) ?_
  conv => whnf
  rw [hnew]
  refine ACalls.useE (k0) [] rfl (by (conv => whnf); first | done | rfl | (refine renL_rec hL0.flat ?_; (conv => whnf); first | done | rfl) | (refine renL_rec hL1.flat ?_; (conv => whnf); first | done | rfl) | (refine renL_rec hL2.flat ?_; (conv => whnf); first | done | rfl) | (refine renL_rec hL3.flat ?_; (conv => whnf); first | done | rfl) | (refine renL_rec hL4.flat ?_; (conv => whnf); first | done | rfl)) (by (conv => whnf); try rfl) ?_
  conv => whnf
  refine renL_rec hL0.flat ?_
  conv => whnf
  refine ACalls.useE (k1) [0, 1, 2, 3, 4, 5, 6, 7, 8, 9, 10, 11, 12, 13, 14, 15, 16, 17, 18, 19, 20, 21, 22, 23, 24, 25, 26, 27, 28, 29, 30, 31, 32, 33, 34, 35, 36, 37, 38, 39] rfl (by (conv => whnf); first | done | rfl | (refine renL_rec hL0.flat ?_; (conv => whnf); first | done | rfl) | (refine renL_rec hL1.flat ?_; (conv => whnf); first | done | rfl) | (refine renL_rec hL2.flat ?_; (conv => whnf); first | done | rfl) | (refine renL_rec hL3.flat ?_; (conv => whnf); first | done | rfl) | (refine renL_rec hL4.flat ?_; (conv => whnf); first | done | rfl)) (by (conv => whnf); try rfl) ?_
  conv => whnf
  refine renL_rec hL1.flat ?_
  conv => whnf
  refine ACalls.useE (k2) [0, 1, 2, 3, 4, 5, 6, 7, 8, 9, 10, 11, 12, 13, 14, 15, 16, 17, 18, 19, 20, 21, 22, 23, 24, 25, 26, 27, 28, 29, 30, 31, 32, 33, 34, 35, 36, 37, 38, 39] rfl (by (conv => whnf); first | done | rfl | (refine renL_rec hL0.flat ?_; (conv => whnf); first | done | rfl) | (refine renL_rec hL1.flat ?_; (conv => whnf); first | done | rfl) | (refine renL_rec hL2.flat ?_; (conv => whnf); first | done | rfl) | (refine renL_rec hL3.flat ?_; (conv => whnf); first | done | rfl) | (refine renL_rec hL4.flat ?_; (conv => whnf); first | done | rfl)) (by (conv => whnf); try rfl) ?_
  conv => whnf
  refine renL_rec hL2.flat ?_
  conv => whnf
  refine ACalls.useE (k3) [0, 1, 2, 3, 4, 5, 6, 7, 8, 9, 10, 11, 12, 13, 14, 15, 16, 17, 18, 19, 20, 21, 22, 23, 24, 25, 26, 27, 28, 29, 30, 31, 32, 33, 34, 35, 36, 37, 38, 39] rfl (by (conv => whnf); first | done | rfl | (refine renL_rec hL0.flat ?_; (conv => whnf); first | done | rfl) | (refine renL_rec hL1.flat ?_; (conv => whnf); first | done | rfl) | (refine renL_rec hL2.flat ?_; (conv => whnf); first | done | rfl) | (refine renL_rec hL3.flat ?_; (conv => whnf); first | done | rfl) | (refine renL_rec hL4.flat ?_; (conv => whnf); first | done | rfl)) (by (conv => whnf); try rfl) ?_
  conv => whnf
  refine renL_rec hL3.flat ?_
  conv => whnf
  refine ACalls.useE (k4) [0, 1, 2, 3, 4, 5, 6, 7, 8, 9, 10, 11, 12, 13, 14, 15, 16, 17, 18, 19, 20, 21, 22, 23, 24, 25, 26, 27, 28, 29, 30, 31, 32, 33, 34, 35, 36, 37, 38, 39] rfl (by (conv => whnf); first | done | rfl | (refine renL_rec hL0.flat ?_; (conv => whnf); first | done | rfl) | (refine renL_rec hL1.flat ?_; (conv => whnf); first | done | rfl) | (refine renL_rec hL2.flat ?_; (conv => whnf); first | done | rfl) | (refine renL_rec hL3.flat ?_; (conv => whnf); first | done | rfl) | (refine renL_rec hL4.flat ?_; (conv => whnf); first | done | rfl)) (by (conv => whnf); try rfl) ?_
  conv => whnf
  refine renL_rec hL4.flat ?_
  conv => whnf
  refine ALoop.fd (σ := Nat) (fun i => [.int .u8 g, .int .u8 u, .int .u8 y, .chan none, .chan none, .chan none, .chan none, .pointer (some ⟨0, 0, none⟩), .int .i64 i, .chan none, .chan none, .chan none, .chan none, .chan none, .chan none, .chan none, .chan none, .chan none, .chan none, .chan none, .chan none, .chan none, .chan none, .chan none, .chan none, .chan none, .chan none, .chan none, .chan none, .chan none, .chan none, .chan none, .chan none, .chan none, .chan none, .chan none, .chan none, .chan none, .chan none, .chan none, .chan none, .chan none, .chan none, .chan none, .chan none, .chan none, .chan none, .chan none, .chan none, .chan none, .chan none, .chan none, .chan none, .chan none, .chan none, .chan none, .chan none, .chan none, .chan none, .chan none, .chan none, .chan none, .chan none, .chan none, .chan none, .chan none, .chan none, .chan none, .chan none, .chan none, .chan none, .chan none, .chan none, .chan none, .chan none, .chan none, .chan none, .chan none, .chan none, .chan none, .chan none, .chan none, .chan none, .chan none, .chan none, .chan none, .chan none, .chan none, .chan none, .chan none, .chan none, .chan none, .chan none, .chan none, .chan none, .chan none, .chan none, .chan none, .chan none, .chan none, .chan none, .chan none, .chan none, .chan none, .chan none, .chan none, .chan none, .chan none, .chan none, .chan none, .chan none, .chan none, .chan none, .chan none, .chan none, .chan none, .chan none, .chan none, .chan none, .chan none, .chan none, .chan none, .chan none]) (fun i => tsH (stpI i a4)) (fun i => i ≤ 456) (fun i => 456 - i) 0 [] rfl (by rw [stpI_zero]; rfl) (by omega) (fun i => ⟨rfl, rfl, ?hok, rfl⟩) ?_
  case hok =>
    simp only [tsH, List.all_cons, List.all_nil, Bool.and_true, Bool.and_eq_true]
    exact ⟨recC_all rfl ((stpI_top s4 i).L.all fun _ => rfl) rfl, rfl, rfl, rfl, rfl, rfl, rfl, rfl, rfl, rfl, rfl, rfl, rfl, rfl, rfl, rfl, rfl, rfl, rfl, rfl, rfl, rfl, rfl, rfl, rfl, rfl, rfl, rfl, rfl, rfl, rfl, rfl, rfl, rfl, rfl, rfl, rfl, rfl, rfl, rfl⟩
  clear k0 k1 k2 k3 k4 hL0 hL1 hL2 hL3 hnew
  intro i hi RR hR
  have hsi := stpI_top s4 i
  have hLi := hsi.L
  have hLn := (stpI_top s4 (i + 1)).L
  have ei : IntKind.i64.wrap ((i : Int) + 1) = ((i + 1 : Nat) : Int) := by rw [wrap64 (by omega) (by omega)]; rfl
  conv => whnf
  refine Bif.of (fun hc => ?_) fun hc => ?_
  · have hlt : i < 456 := by have := of_decide_eq_true hc; omega
    have hs2 : stp (stpI i a4) = stpI (i + 1) a4 := stpI_succ rfl
    rw [hc]
    conv => whnf
    refine ACalls.useE (t_stepQ _ hsi) [0, 1, 2, 3, 4, 5, 6, 7, 8, 9, 10, 11, 12, 13, 14, 15, 16, 17, 18, 19, 20, 21, 22, 23, 24, 25, 26, 27, 28, 29, 30, 31, 32, 33, 34, 35, 36, 37, 38, 39] rfl (by (conv => whnf); first | done | rfl | (refine renL_rec hLi.flat ?_; (conv => whnf); first | done | rfl)) (by (conv => whnf); try rfl) ?_
    conv => whnf
    rw [hs2]
    conv => whnf
    refine renL_rec hLn.flat ?_
    conv => whnf
    (rw [ei]; exact hR (i + 1) _ _ [] rfl rfl (by omega) (by omega))
  have hi0 : i = 456 := by have := of_decide_eq_false hc; omega
  rw [hc]
  subst hi0
  clear hR ei hLn hi hc
  generalize stpI 456 a4 = z at *
  conv => whnf
  refine ACalls.useE (k5) [0, 1, 2, 3, 4, 5, 6, 7, 8, 9, 10, 11, 12, 13, 14, 15, 16, 17, 18, 19, 20, 21, 22, 23, 24, 25, 26, 27, 28, 29, 30, 31, 32, 33, 34, 35, 36, 37, 38, 39] rfl (by (conv => whnf); first | done | rfl | (refine renL_rec hLi.flat ?_; (conv => whnf); first | done | rfl)) (by (conv => whnf); try rfl) ?_
  conv => whnf
  refine renL_rec hL5.flat ?_
  conv => whnf
  with_reducible refine renL_arr hA ?_
  conv => whnf
  refine Req.of ?_ ?_
  · exact arr_fits hA rfl fun _ => rfl
  conv => whnf
  (with_reducible refine putF_arr hA ?hl ?_; case' hl => exact List.length_replicate ..)
  conv => whnf
  rw [hk]
  conv => whnf
  clear k5 hLi hsi s4 hL4 a0 a1 a2 a3 s0 s1 s2 s3
  refine ALoop.run 3 ?_
  conv => whnf

  refine ALoop.fd (σ := Nat) (fun d => [.int .u8 g, .int .u8 u, .int .u8 y, .chan none, .chan none, .chan none, .chan none, .pointer (some ⟨0, 0, none⟩), .chan none, .pointer (some ⟨40, 0, none⟩), .pointer (some ⟨41, 0, none⟩), .pointer (some ⟨50, 0, none⟩), .int .i64 4, .int .i64 5, .pointer (some ⟨51, 0, none⟩), .int .i64 0, .int .i64 d, .chan none, .chan none, .chan none, .chan none, .chan none, .chan none, .chan none, .chan none, .chan none, .chan none, .chan none, .chan none, .chan none, .chan none, .chan none, .chan none, .chan none, .chan none, .chan none, .chan none, .chan none, .chan none, .chan none, .chan none, .chan none, .chan none, .chan none, .chan none, .chan none, .chan none, .chan none, .chan none, .chan none, .chan none, .chan none, .chan none, .chan none, .chan none, .chan none, .chan none, .chan none, .chan none, .chan none, .chan none, .chan none, .chan none, .chan none, .chan none, .chan none, .chan none, .chan none, .chan none, .chan none, .chan none, .chan none, .chan none, .chan none, .chan none, .chan none, .chan none, .chan none, .chan none, .chan none, .chan none, .chan none, .chan none, .chan none, .chan none, .chan none, .chan none, .chan none, .chan none, .chan none, .chan none, .chan none, .chan none, .chan none, .chan none, .chan none, .chan none, .chan none, .chan none, .chan none, .chan none, .chan none, .chan none, .chan none, .chan none, .chan none, .chan none, .chan none, .chan none, .chan none, .chan none, .chan none, .chan none, .chan none, .chan none, .chan none, .chan none, .chan none, .chan none, .chan none, .chan none, .chan none, .chan none]) (fun d => tsH a5 ++ [.cells (rowL .u8 F 160) 29, .cells [.int .i64 1, .int .i64 1, .int .i64 1, .int .i64 1, .int .i64 1, .int .i64 2, .int .i64 1, .int .i64 4] 38, .cells [.int .i64 0] 3, .cells [.int .i64 0, .int .i64 16] 3, .cells [.int .i64 0, .int .i64 32] 3, .cells [.int .i64 0, .int .i64 16, .int .i64 32] 3, .cells [.int .i64 0, .int .i64 64] 3, .cells [.int .i64 0] 3, .cells [.int .i64 0, .int .i64 32, .int .i64 64] 3, .cells [.int .i64 0] 3, .cells [.slice (some ⟨42, 0, none⟩) 1 1, .slice (some ⟨43, 0, none⟩) 2 2, .slice (some ⟨44, 0, none⟩) 2 2, .slice (some ⟨45, 0, none⟩) 3 3, .slice (some ⟨46, 0, none⟩) 2 2, .slice (some ⟨47, 0, none⟩) 1 1, .slice (some ⟨48, 0, none⟩) 3 3, .slice (some ⟨49, 0, none⟩) 1 1] 40, .cells (rowW (wI 4 P g (8 * 0 + d))) 41]) (fun d => d ≤ 8) (fun d => 8 - d) 0 [] rfl (by rw [show 8 * 0 + 0 = 0 from rfl, wI_zero, ← rowW_zero]; rfl) (by omega) (fun d => ⟨rfl, rfl, ?hok0, rfl⟩) ?_
  case hok0 =>
    simp only [tsH, List.cons_append, List.nil_append, List.all_cons, List.all_nil, Bool.and_true, Bool.and_eq_true]
    exact ⟨recC_all rfl (hL5.all fun _ => rfl) rfl, rfl, rfl, rfl, rfl, rfl, rfl, rfl, rfl, rfl, rfl, rfl, rfl, rfl, rfl, rfl, rfl, rfl, rfl, rfl, rfl, rfl, rfl, rfl, rfl, rfl, rfl, rfl, rfl, rfl, rfl, rfl, rfl, rfl, rfl, rfl, rfl, rfl, rfl, rfl, rowL_all fun _ => rfl, rfl, rfl, rfl, rfl, rfl, rfl, rfl, rfl, rfl, rfl, rowW_all fun _ => rfl⟩
  intro d0 hd R0 hR0
  have ei : IntKind.i64.wrap ((d0 : Int) + 1) = ((d0 + 1 : Nat) : Int) := by rw [wrap64 (by omega) (by omega)]; rfl
  have em : IntKind.i64.wrap (8 * 1) = 8 := by decide
  conv => whnf
  refine Bif.of (fun hc => ?_) fun hc => ?_
  · have hlt : d0 < 8 := by have h := of_decide_eq_true hc; omega
    rw [hc]
    have hraw : (IntKind.i64.wrap (IntKind.i64.wrap (IntKind.i64.wrap ((IntKind.i64.wrap y).tmod 160 + 0) + 5) + (d0 : Int))).tmod 160 = (((P + 0 + 5 + d0) % 160 : Nat) : Int) := by
      rw [hy, wrap64 (n := (P : Int) + 0) (by omega) (by omega), wrap64 (n := (P : Int) + 0 + 5) (by omega) (by omega), wrap64 (by omega) (by omega), Int.tmod_eq_emod_of_nonneg (by omega)]; omega
    have hix : (P + 0 + 5 + d0) % 160 < 160 := Nat.mod_lt _ (by decide)
    by_cases hgr : graphI g false 1 (d0 : Nat) = true
    · have hst : wI 4 P g (8 * 0 + (d0 + 1)) = fun j => wI 4 P g (8 * 0 + d0) j || decide (j = (P + 0 + 5 + d0) % 160) := wI_t (c := 8 * 0 + d0) rfl rfl hlt rfl rfl hgr
      generalize (P + 0 + 5 + d0) % 160 = ix at *
      conv => whnf
      refine ACalls.useE (field_graph _ _ _ _ hg ?_) [] rfl (by (conv => whnf); try rfl) (by (conv => whnf); try rfl) ?_
      · omega
      conv => whnf
      rw [hgr]
      conv => whnf
      rw [hraw]
      conv => whnf
      refine Req.of ?_ ?_
      · (rw [Bool.and_eq_true]; exact ⟨decide_eq_true (by omega), decide_eq_true (by omega)⟩)
      conv => whnf
      with_reducible refine putF_rowW ix (by show 0 + ((ix : Nat) : Int).toNat * 1 = ix; omega) hix hst ?_
      conv => whnf
      (rw [ei]; exact hR0 (d0 + 1) _ _ [] rfl rfl (by omega) (by omega))
    · have hgr2 : graphI g false 1 (d0 : Nat) = false := by simpa using hgr
      have hst : wI 4 P g (8 * 0 + (d0 + 1)) = wI 4 P g (8 * 0 + d0) := wI_f (c := 8 * 0 + d0) rfl rfl hlt rfl rfl hgr2
      conv => whnf
      refine ACalls.useE (field_graph _ _ _ _ hg ?_) [] rfl (by (conv => whnf); try rfl) (by (conv => whnf); try rfl) ?_
      · omega
      conv => whnf
      rw [hgr2]
      conv => whnf
      (rw [ei]; exact hR0 (d0 + 1) _ _ [] rfl (by rw [hst]; rfl) (by omega) (by omega))
  have hd0 : d0 = 8 := by have h := of_decide_eq_false hc; omega
  rw [hc]
  subst hd0
  clear hR0 ei hc hd
  conv => whnf

  refine ALoop.fd (σ := Nat) (fun d => [.int .u8 g, .int .u8 u, .int .u8 y, .chan none, .chan none, .chan none, .chan none, .pointer (some ⟨0, 0, none⟩), .chan none, .pointer (some ⟨40, 0, none⟩), .pointer (some ⟨41, 0, none⟩), .pointer (some ⟨50, 0, none⟩), .int .i64 4, .int .i64 5, .pointer (some ⟨51, 0, none⟩), .int .i64 1, .int .i64 d, .chan none, .chan none, .chan none, .chan none, .chan none, .chan none, .chan none, .chan none, .chan none, .chan none, .chan none, .chan none, .chan none, .chan none, .chan none, .chan none, .chan none, .chan none, .chan none, .chan none, .chan none, .chan none, .chan none, .chan none, .chan none, .chan none, .chan none, .chan none, .chan none, .chan none, .chan none, .chan none, .chan none, .chan none, .chan none, .chan none, .chan none, .chan none, .chan none, .chan none, .chan none, .chan none, .chan none, .chan none, .chan none, .chan none, .chan none, .chan none, .chan none, .chan none, .chan none, .chan none, .chan none, .chan none, .chan none, .chan none, .chan none, .chan none, .chan none, .chan none, .chan none, .chan none, .chan none, .chan none, .chan none, .chan none, .chan none, .chan none, .chan none, .chan none, .chan none, .chan none, .chan none, .chan none, .chan none, .chan none, .chan none, .chan none, .chan none, .chan none, .chan none, .chan none, .chan none, .chan none, .chan none, .chan none, .chan none, .chan none, .chan none, .chan none, .chan none, .chan none, .chan none, .chan none, .chan none, .chan none, .chan none, .chan none, .chan none, .chan none, .chan none, .chan none, .chan none, .chan none, .chan none, .chan none]) (fun d => tsH a5 ++ [.cells (rowL .u8 F 160) 29, .cells [.int .i64 1, .int .i64 1, .int .i64 1, .int .i64 1, .int .i64 1, .int .i64 2, .int .i64 1, .int .i64 4] 38, .cells [.int .i64 0] 3, .cells [.int .i64 0, .int .i64 16] 3, .cells [.int .i64 0, .int .i64 32] 3, .cells [.int .i64 0, .int .i64 16, .int .i64 32] 3, .cells [.int .i64 0, .int .i64 64] 3, .cells [.int .i64 0] 3, .cells [.int .i64 0, .int .i64 32, .int .i64 64] 3, .cells [.int .i64 0] 3, .cells [.slice (some ⟨42, 0, none⟩) 1 1, .slice (some ⟨43, 0, none⟩) 2 2, .slice (some ⟨44, 0, none⟩) 2 2, .slice (some ⟨45, 0, none⟩) 3 3, .slice (some ⟨46, 0, none⟩) 2 2, .slice (some ⟨47, 0, none⟩) 1 1, .slice (some ⟨48, 0, none⟩) 3 3, .slice (some ⟨49, 0, none⟩) 1 1] 40, .cells (rowW (wI 4 P g (8 * 1 + d))) 41]) (fun d => d ≤ 8) (fun d => 8 - d) 0 [] rfl rfl (by omega) (fun d => ⟨rfl, rfl, ?hok1, rfl⟩) ?_
  case hok1 =>
    simp only [tsH, List.cons_append, List.nil_append, List.all_cons, List.all_nil, Bool.and_true, Bool.and_eq_true]
    exact ⟨recC_all rfl (hL5.all fun _ => rfl) rfl, rfl, rfl, rfl, rfl, rfl, rfl, rfl, rfl, rfl, rfl, rfl, rfl, rfl, rfl, rfl, rfl, rfl, rfl, rfl, rfl, rfl, rfl, rfl, rfl, rfl, rfl, rfl, rfl, rfl, rfl, rfl, rfl, rfl, rfl, rfl, rfl, rfl, rfl, rfl, rowL_all fun _ => rfl, rfl, rfl, rfl, rfl, rfl, rfl, rfl, rfl, rfl, rfl, rowW_all fun _ => rfl⟩
  intro d1 hd R1 hR1
  have ei : IntKind.i64.wrap ((d1 : Int) + 1) = ((d1 + 1 : Nat) : Int) := by rw [wrap64 (by omega) (by omega)]; rfl
  have em : IntKind.i64.wrap (8 * 1) = 8 := by decide
  conv => whnf
  refine Bif.of (fun hc => ?_) fun hc => ?_
  · have hlt : d1 < 8 := by have h := of_decide_eq_true hc; omega
    rw [hc]
    have hraw : (IntKind.i64.wrap (IntKind.i64.wrap (IntKind.i64.wrap ((IntKind.i64.wrap y).tmod 160 + 64) + 5) + (d1 : Int))).tmod 160 = (((P + 64 + 5 + d1) % 160 : Nat) : Int) := by
      rw [hy, wrap64 (n := (P : Int) + 64) (by omega) (by omega), wrap64 (n := (P : Int) + 64 + 5) (by omega) (by omega), wrap64 (by omega) (by omega), Int.tmod_eq_emod_of_nonneg (by omega)]; omega
    have hix : (P + 64 + 5 + d1) % 160 < 160 := Nat.mod_lt _ (by decide)
    by_cases hgr : graphI g false 1 (d1 : Nat) = true
    · have hst : wI 4 P g (8 * 1 + (d1 + 1)) = fun j => wI 4 P g (8 * 1 + d1) j || decide (j = (P + 64 + 5 + d1) % 160) := wI_t (c := 8 * 1 + d1) rfl rfl hlt rfl rfl hgr
      generalize (P + 64 + 5 + d1) % 160 = ix at *
      conv => whnf
      refine ACalls.useE (field_graph _ _ _ _ hg ?_) [] rfl (by (conv => whnf); try rfl) (by (conv => whnf); try rfl) ?_
      · omega
      conv => whnf
      rw [hgr]
      conv => whnf
      rw [hraw]
      conv => whnf
      refine Req.of ?_ ?_
      · (rw [Bool.and_eq_true]; exact ⟨decide_eq_true (by omega), decide_eq_true (by omega)⟩)
      conv => whnf
      with_reducible refine putF_rowW ix (by show 0 + ((ix : Nat) : Int).toNat * 1 = ix; omega) hix hst ?_
      conv => whnf
      (rw [ei]; exact hR1 (d1 + 1) _ _ [] rfl rfl (by omega) (by omega))
    · have hgr2 : graphI g false 1 (d1 : Nat) = false := by simpa using hgr
      have hst : wI 4 P g (8 * 1 + (d1 + 1)) = wI 4 P g (8 * 1 + d1) := wI_f (c := 8 * 1 + d1) rfl rfl hlt rfl rfl hgr2
      conv => whnf
      refine ACalls.useE (field_graph _ _ _ _ hg ?_) [] rfl (by (conv => whnf); try rfl) (by (conv => whnf); try rfl) ?_
      · omega
      conv => whnf
      rw [hgr2]
      conv => whnf
      (rw [ei]; exact hR1 (d1 + 1) _ _ [] rfl (by rw [hst]; rfl) (by omega) (by omega))
  have hd0 : d1 = 8 := by have h := of_decide_eq_false hc; omega
  rw [hc]
  subst hd0
  clear hR1 ei hc hd
  conv => whnf

  refine ALoop.fd (σ := Nat) (fun x => [.int .u8 g, .int .u8 u, .int .u8 y, .chan none, .chan none, .chan none, .chan none, .pointer (some ⟨0, 0, none⟩), .chan none, .pointer (some ⟨40, 0, none⟩), .chan none, .chan none, .chan none, .chan none, .pointer (some ⟨51, 0, none⟩), .chan none, .chan none, .int .i64 x, .chan none, .chan none, .chan none, .chan none, .chan none, .chan none, .chan none, .chan none, .chan none, .chan none, .chan none, .chan none, .chan none, .chan none, .chan none, .chan none, .chan none, .chan none, .chan none, .chan none, .chan none, .chan none, .chan none, .chan none, .chan none, .chan none, .chan none, .chan none, .chan none, .chan none, .chan none, .chan none, .chan none, .chan none, .chan none, .chan none, .chan none, .chan none, .chan none, .chan none, .chan none, .chan none, .chan none, .chan none, .chan none, .chan none, .chan none, .chan none, .chan none, .chan none, .chan none, .chan none, .chan none, .chan none, .chan none, .chan none, .chan none, .chan none, .chan none, .chan none, .chan none, .chan none, .chan none, .chan none, .chan none, .chan none, .chan none, .chan none, .chan none, .chan none, .chan none, .chan none, .chan none, .chan none, .chan none, .chan none, .chan none, .chan none, .chan none, .chan none, .chan none, .chan none, .chan none, .chan none, .chan none, .chan none, .chan none, .chan none, .chan none, .chan none, .chan none, .chan none, .chan none, .chan none, .chan none, .chan none, .chan none, .chan none, .chan none, .chan none, .chan none, .chan none, .chan none, .chan none, .chan none]) (fun x => tsH a5 ++ [.cells (rowL .u8 F 160) 29, .cells [.int .i64 1, .int .i64 1, .int .i64 1, .int .i64 1, .int .i64 1, .int .i64 2, .int .i64 1, .int .i64 4] 38, .cells [.int .i64 0] 3, .cells [.int .i64 0, .int .i64 16] 3, .cells [.int .i64 0, .int .i64 32] 3, .cells [.int .i64 0, .int .i64 16, .int .i64 32] 3, .cells [.int .i64 0, .int .i64 64] 3, .cells [.int .i64 0] 3, .cells [.int .i64 0, .int .i64 32, .int .i64 64] 3, .cells [.int .i64 0] 3, .cells [.slice (some ⟨42, 0, none⟩) 1 1, .slice (some ⟨43, 0, none⟩) 2 2, .slice (some ⟨44, 0, none⟩) 2 2, .slice (some ⟨45, 0, none⟩) 3 3, .slice (some ⟨46, 0, none⟩) 2 2, .slice (some ⟨47, 0, none⟩) 1 1, .slice (some ⟨48, 0, none⟩) 3 3, .slice (some ⟨49, 0, none⟩) 1 1] 40, .cells (rowW (wI 4 P g 16)) 41]) (fun x => x ≤ 160) (fun x => 160 - x) 0 [] rfl rfl (by omega) (fun x => ⟨rfl, rfl, ?hokz, rfl⟩) ?_
  case hokz =>
    simp only [tsH, List.cons_append, List.nil_append, List.all_cons, List.all_nil, Bool.and_true, Bool.and_eq_true]
    exact ⟨recC_all rfl (hL5.all fun _ => rfl) rfl, rfl, rfl, rfl, rfl, rfl, rfl, rfl, rfl, rfl, rfl, rfl, rfl, rfl, rfl, rfl, rfl, rfl, rfl, rfl, rfl, rfl, rfl, rfl, rfl, rfl, rfl, rfl, rfl, rfl, rfl, rfl, rfl, rfl, rfl, rfl, rfl, rfl, rfl, rfl, rowL_all fun _ => rfl, rfl, rfl, rfl, rfl, rfl, rfl, rfl, rfl, rfl, rfl, rowW_all fun _ => rfl⟩
  intro x hx Rx hRx
  have ei : IntKind.i64.wrap ((x : Int) + 1) = ((x + 1 : Nat) : Int) := by rw [wrap64 (by omega) (by omega)]; rfl
  conv => whnf
  refine Bif.of (fun hc => ?_) fun hc => ?_
  · have hlt : x < 160 := by have h := of_decide_eq_true hc; omega
    rw [hc]
    have hFx := hF x hlt
    by_cases hcw : wI 4 P g 16 x = true
    · rw [if_pos hcw] at hFx
      conv => whnf
      refine Req.of ?_ ?_
      · (rw [Bool.and_eq_true]; exact ⟨decide_eq_true (by omega), decide_eq_true (by omega)⟩)
      conv => whnf
      with_reducible refine getF_rowL x (by show 0 + (x : Int).toNat * 1 = x; omega) hlt ?_
      conv => whnf
      rw [hFx]
      conv => whnf
      refine Req.of ?_ ?_
      · (rw [Bool.and_eq_true]; exact ⟨decide_eq_true (by omega), decide_eq_true (by omega)⟩)
      conv => whnf
      with_reducible refine getF_rowW x (by show 0 + (x : Int).toNat * 1 = x; omega) hlt ?_
      conv => whnf
      rw [hcw]
      conv => whnf
      refine Req.of ?_ ?_
      · (rw [Bool.and_eq_true]; exact ⟨decide_eq_true (by omega), decide_eq_true (by omega)⟩)
      conv => whnf
      with_reducible refine getF_rowL x (by show 0 + (x : Int).toNat * 1 = x; omega) hlt ?_
      conv => whnf
      rw [hFx]
      conv => whnf
      (rw [ei]; exact hRx (x + 1) _ _ [] rfl rfl (by omega) (by omega))
    · have hcw2 : wI 4 P g 16 x = false := by simpa using hcw
      rw [if_neg hcw] at hFx
      conv => whnf
      refine Req.of ?_ ?_
      · (rw [Bool.and_eq_true]; exact ⟨decide_eq_true (by omega), decide_eq_true (by omega)⟩)
      conv => whnf
      with_reducible refine getF_rowL x (by show 0 + (x : Int).toNat * 1 = x; omega) hlt ?_
      conv => whnf
      rw [hFx]
      conv => whnf
      refine Req.of ?_ ?_
      · (rw [Bool.and_eq_true]; exact ⟨decide_eq_true (by omega), decide_eq_true (by omega)⟩)
      conv => whnf
      with_reducible refine getF_rowW x (by show 0 + (x : Int).toNat * 1 = x; omega) hlt ?_
      conv => whnf
      rw [hcw2]
      conv => whnf
      refine Req.of ?_ ?_
      · (rw [Bool.and_eq_true]; exact ⟨decide_eq_true (by omega), decide_eq_true (by omega)⟩)
      conv => whnf
      with_reducible refine getF_rowL x (by show 0 + (x : Int).toNat * 1 = x; omega) hlt ?_
      conv => whnf
      rw [hFx]
      conv => whnf
      refine Req.of ?_ ?_
      · (rw [Bool.and_eq_true]; exact ⟨decide_eq_true (by omega), decide_eq_true (by omega)⟩)
      conv => whnf
      with_reducible refine getF_rowL x (by show 0 + (x : Int).toNat * 1 = x; omega) hlt ?_
      conv => whnf
      rw [hFx]
      conv => whnf
      (rw [ei]; exact hRx (x + 1) _ _ [] rfl rfl (by omega) (by omega))
  · rw [hc]
    clear hRx
    conv => whnf
theorem tcop_5 (g u y : Int) (hg : 0 ≤ g ∧ g ≤ 255) (hk : (IntKind.i64.wrap u).tmod 8 = 5) (P : Nat) (hP : P < 160) (hy : (IntKind.i64.wrap y).tmod 160 = (P : Int))
    (a0 a1 a2 a3 a4 a5 : TS) (s0 : a0.Top) (s1 : a1.Top) (s2 : a2.Top) (s3 : a3.Top) (s4 : a4.Top) (s5 : a5.Top) (F : Nat → Int) (A : Array Value) (hA : A.toList = rowL .u8 F 160)
    (k0 : ACalls Tryz.prog 7 [.int .i64 ((68 + P : Nat) : Int)] [] fun v H => v = .pointer (some ⟨0, 0, none⟩) ∧ H = tsH a0)
    (k1 : ACalls Tryz.prog 8 [.pointer (some ⟨0, 0, none⟩), .int .u16 16, .int .u8 0] (tsH a0) fun r H => r = .tuple #[] ∧ H = tsH a1)
    (k2 : ACalls Tryz.prog 8 [.pointer (some ⟨0, 0, none⟩), .int .u16 4, .int .u8 u] (tsH a1) fun r H => r = .tuple #[] ∧ H = tsH a2)
    (k3 : ACalls Tryz.prog 8 [.pointer (some ⟨0, 0, none⟩), .int .u16 6, .int .u8 68] (tsH a2) fun r H => r = .tuple #[] ∧ H = tsH a3)
    (k4 : ACalls Tryz.prog 8 [.pointer (some ⟨0, 0, none⟩), .int .u16 27, .int .u8 g] (tsH a3) fun r H => r = .tuple #[] ∧ H = tsH a4)
    (k5 : ACalls Tryz.prog 9 [.pointer (some ⟨0, 0, none⟩)] (tsH (stpI 456 a4)) fun v H => v = .agg A ∧ H = tsH a5)
    (hF : ∀ x, x < 160 → F x = if wI 5 P g 16 x then 68 else 0) :
    ACalls Tryz.prog 4 [.int .u8 g, .int .u8 u, .int .u8 y] [] fun v _ => v = .bool true := by
  have hL0 := s0.L
  have hL1 := s1.L
  have hL2 := s2.L
  have hL3 := s3.L
  have hL4 := s4.L
  have hL5 := s5.L
  have hnew : (IntKind.i64.wrap (68 + (IntKind.i64.wrap y).tmod 160)).tmod 228 = ((68 + P : Nat) : Int) := by
    rw [hy, wrap64 (by omega) (by omega), Int.tmod_eq_emod_of_nonneg (by omega)]; omega
  refine ACalls.code tabOk h4 Tryz.func4 Tryz.call4 ok4 ?_
  conv => whnf
  refine ACalls.useE (t_draws) [] rfl (by (conv => whnf); first | done | rfl | (refine renL_rec hL0.flat ?_; (conv => whnf); first | done | rfl) | (refine renL_rec hL1.flat ?_; (conv => whnf); first | done | rfl) | (refine renL_rec hL2.flat ?_; (conv => whnf); first | done | rfl) | (refine renL_rec hL3.flat ?_; (conv => whnf); first | done | rfl) | (refine renL_rec hL4.flat ?_; (conv => whnf); first | done | rfl)) (by (conv => whnf); try rfl) ?_
  conv => whnf
  rw [hnew]
  refine ACalls.useE (k0) [] rfl (by (conv => whnf); first | done | rfl | (refine renL_rec hL0.flat ?_; (conv => whnf); first | done | rfl) | (refine renL_rec hL1.flat ?_; (conv => whnf); first | done | rfl) | (refine renL_rec hL2.flat ?_; (conv => whnf); first | done | rfl) | (refine renL_rec hL3.flat ?_; (conv => whnf); first | done | rfl) | (refine renL_rec hL4.flat ?_; (conv => whnf); first | done | rfl)) (by (conv => whnf); try rfl) ?_
  conv => whnf
  refine renL_rec hL0.flat ?_
  conv => whnf
  refine ACalls.useE (k1) [0, 1, 2, 3, 4, 5, 6, 7, 8, 9, 10, 11, 12, 13, 14, 15, 16, 17, 18, 19, 20, 21, 22, 23, 24, 25, 26, 27, 28, 29, 30, 31, 32, 33, 34, 35, 36, 37, 38, 39] rfl (by (conv => whnf); first | done | rfl | (refine renL_rec hL0.flat ?_; (conv => whnf); first | done | rfl) | (refine renL_rec hL1.flat ?_; (conv => whnf); first | done | rfl) | (refine renL_rec hL2.flat ?_; (conv => whnf); first | done | rfl) | (refine renL_rec hL3.flat ?_; (conv => whnf); first | done | rfl) | (refine renL_rec hL4.flat ?_; (conv => whnf); first | done | rfl)) (by (conv => whnf); try rfl) ?_
  conv => whnf
  refine renL_rec hL1.flat ?_
  conv => whnf
  refine ACalls.useE (k2) [0, 1, 2, 3, 4, 5, 6, 7, 8, 9, 10, 11, 12, 13, 14, 15, 16, 17, 18, 19, 20, 21, 22, 23, 24, 25, 26, 27, 28, 29, 30, 31, 32, 33, 34, 35, 36, 37, 38, 39] rfl (by (conv => whnf); first | done | rfl | (refine renL_rec hL0.flat ?_; (conv => whnf); first | done | rfl) | (refine renL_rec hL1.flat ?_; (conv => whnf); first | done | rfl) | (refine renL_rec hL2.flat ?_; (conv => whnf); first | done | rfl) | (refine renL_rec hL3.flat ?_; (conv => whnf); first | done | rfl) | (refine renL_rec hL4.flat ?_; (conv => whnf); first | done | rfl)) (by (conv => whnf); try rfl) ?_
  conv => whnf
  refine renL_rec hL2.flat ?_
  conv => whnf
  refine ACalls.useE (k3) [0, 1, 2, 3, 4, 5, 6, 7, 8, 9, 10, 11, 12, 13, 14, 15, 16, 17, 18, 19, 20, 21, 22, 23, 24, 25, 26, 27, 28, 29, 30, 31, 32, 33, 34, 35, 36, 37, 38, 39] rfl (by (conv => whnf); first | done | rfl | (refine renL_rec hL0.flat ?_; (conv => whnf); first | done | rfl) | (refine renL_rec hL1.flat ?_; (conv => whnf); first | done | rfl) | (refine renL_rec hL2.flat ?_; (conv => whnf); first | done | rfl) | (refine renL_rec hL3.flat ?_; (conv => whnf); first | done | rfl) | (refine renL_rec hL4.flat ?_; (conv => whnf); first | done | rfl)) (by (conv => whnf); try rfl) ?_
  conv => whnf
  refine renL_rec hL3.flat ?_
  conv => whnf
  refine ACalls.useE (k4) [0, 1, 2, 3, 4, 5, 6, 7, 8, 9, 10, 11, 12, 13, 14, 15, 16, 17, 18, 19, 20, 21, 22, 23, 24, 25, 26, 27, 28, 29, 30, 31, 32, 33, 34, 35, 36, 37, 38, 39] rfl (by (conv => whnf); first | done | rfl | (refine renL_rec hL0.flat ?_; (conv => whnf); first | done | rfl) | (refine renL_rec hL1.flat ?_; (conv => whnf); first | done | rfl) | (refine renL_rec hL2.flat ?_; (conv => whnf); first | done | rfl) | (refine renL_rec hL3.flat ?_; (conv => whnf); first | done | rfl) | (refine renL_rec hL4.flat ?_; (conv => whnf); first | done | rfl)) (by (conv => whnf); try rfl) ?_
  conv => whnf
  refine renL_rec hL4.flat ?_
  conv => whnf
  refine ALoop.fd (σ := Nat) (fun i => [.int .u8 g, .int .u8 u, .int .u8 y, .chan none, .chan none, .chan none, .chan none, .pointer (some ⟨0, 0, none⟩), .int .i64 i, .chan none, .chan none, .chan none, .chan none, .chan none, .chan none, .chan none, .chan none, .chan none, .chan none, .chan none, .chan none, .chan none, .chan none, .chan none, .chan none, .chan none, .chan none, .chan none, .chan none, .chan none, .chan none, .chan none, .chan none, .chan none, .chan none, .chan none, .chan none, .chan none, .chan none, .chan none, .chan none, .chan none, .chan none, .chan none, .chan none, .chan none, .chan none, .chan none, .chan none, .chan none, .chan none, .chan none, .chan none, .chan none, .chan none, .chan none, .chan none, .chan none, .chan none, .chan none, .chan none, .chan none, .chan none, .chan none, .chan none, .chan none, .chan none, .chan none, .chan none, .chan none, .chan none, .chan none, .chan none, .chan none, .chan none, .chan none, .chan none, .chan none, .chan none, .chan none, .chan none, .chan none, .chan none, .chan none, .chan none, .chan none, .chan none, .chan none, .chan none, .chan none, .chan none, .chan none, .chan none, .chan none, .chan none, .chan none, .chan none, .chan none, .chan none, .chan none, .chan none, .chan none, .chan none, .chan none, .chan none, .chan none, .chan none, .chan none, .chan none, .chan none, .chan none, .chan none, .chan none, .chan none, .chan none, .chan none, .chan none, .chan none, .chan none, .chan none, .chan none, .chan none, .chan none]) (fun i => tsH (stpI i a4)) (fun i => i ≤ 456) (fun i => 456 - i) 0 [] rfl (by rw [stpI_zero]; rfl) (by omega) (fun i => ⟨rfl, rfl, ?hok, rfl⟩) ?_
  case hok =>
    simp only [tsH, List.all_cons, List.all_nil, Bool.and_true, Bool.and_eq_true]
    exact ⟨recC_all rfl ((stpI_top s4 i).L.all fun _ => rfl) rfl, rfl, rfl, rfl, rfl, rfl, rfl, rfl, rfl, rfl, rfl, rfl, rfl, rfl, rfl, rfl, rfl, rfl, rfl, rfl, rfl, rfl, rfl, rfl, rfl, rfl, rfl, rfl, rfl, rfl, rfl, rfl, rfl, rfl, rfl, rfl, rfl, rfl, rfl, rfl⟩
  clear k0 k1 k2 k3 k4 hL0 hL1 hL2 hL3 hnew
  intro i hi RR hR
  have hsi := stpI_top s4 i
  have hLi := hsi.L
  have hLn := (stpI_top s4 (i + 1)).L
  have ei : IntKind.i64.wrap ((i : Int) + 1) = ((i + 1 : Nat) : Int) := by rw [wrap64 (by omega) (by omega)]; rfl
  conv => whnf
  refine Bif.of (fun hc => ?_) fun hc => ?_
  · have hlt : i < 456 := by have := of_decide_eq_true hc; omega
    have hs2 : stp (stpI i a4) = stpI (i + 1) a4 := stpI_succ rfl
    rw [hc]
    conv => whnf
    refine ACalls.useE (t_stepQ _ hsi) [0, 1, 2, 3, 4, 5, 6, 7, 8, 9, 10, 11, 12, 13, 14, 15, 16, 17, 18, 19, 20, 21, 22, 23, 24, 25, 26, 27, 28, 29, 30, 31, 32, 33, 34, 35, 36, 37, 38, 39] rfl (by (conv => whnf); first | done | rfl | (refine renL_rec hLi.flat ?_; (conv => whnf); first | done | rfl)) (by (conv => whnf); try rfl) ?_
    conv => whnf
    rw [hs2]
    conv => whnf
    refine renL_rec hLn.flat ?_
    conv => whnf
    (rw [ei]; exact hR (i + 1) _ _ [] rfl rfl (by omega) (by omega))
  have hi0 : i = 456 := by have := of_decide_eq_false hc; omega
  rw [hc]
  subst hi0
  clear hR ei hLn hi hc
  generalize stpI 456 a4 = z at *
  conv => whnf
  refine ACalls.useE (k5) [0, 1, 2, 3, 4, 5, 6, 7, 8, 9, 10, 11, 12, 13, 14, 15, 16, 17, 18, 19, 20, 21, 22, 23, 24, 25, 26, 27, 28, 29, 30, 31, 32, 33, 34, 35, 36, 37, 38, 39] rfl (by (conv => whnf); first | done | rfl | (refine renL_rec hLi.flat ?_; (conv => whnf); first | done | rfl)) (by (conv => whnf); try rfl) ?_
  conv => whnf
  refine renL_rec hL5.flat ?_
  conv => whnf
  with_reducible refine renL_arr hA ?_
  conv => whnf
  refine Req.of ?_ ?_
  · exact arr_fits hA rfl fun _ => rfl
  conv => whnf
  (with_reducible refine putF_arr hA ?hl ?_; case' hl => exact List.length_replicate ..)
  conv => whnf
  rw [hk]
  conv => whnf
  clear k5 hLi hsi s4 hL4 a0 a1 a2 a3 s0 s1 s2 s3
  refine ALoop.run 2 ?_
  conv => whnf

  refine ALoop.fd (σ := Nat) (fun d => [.int .u8 g, .int .u8 u, .int .u8 y, .chan none, .chan none, .chan none, .chan none, .pointer (some ⟨0, 0, none⟩), .chan none, .pointer (some ⟨40, 0, none⟩), .pointer (some ⟨41, 0, none⟩), .pointer (some ⟨50, 0, none⟩), .int .i64 5, .int .i64 6, .pointer (some ⟨51, 0, none⟩), .int .i64 0, .int .i64 d, .chan none, .chan none, .chan none, .chan none, .chan none, .chan none, .chan none, .chan none, .chan none, .chan none, .chan none, .chan none, .chan none, .chan none, .chan none, .chan none, .chan none, .chan none, .chan none, .chan none, .chan none, .chan none, .chan none, .chan none, .chan none, .chan none, .chan none, .chan none, .chan none, .chan none, .chan none, .chan none, .chan none, .chan none, .chan none, .chan none, .chan none, .chan none, .chan none, .chan none, .chan none, .chan none, .chan none, .chan none, .chan none, .chan none, .chan none, .chan none, .chan none, .chan none, .chan none, .chan none, .chan none, .chan none, .chan none, .chan none, .chan none, .chan none, .chan none, .chan none, .chan none, .chan none, .chan none, .chan none, .chan none, .chan none, .chan none, .chan none, .chan none, .chan none, .chan none, .chan none, .chan none, .chan none, .chan none, .chan none, .chan none, .chan none, .chan none, .chan none, .chan none, .chan none, .chan none, .chan none, .chan none, .chan none, .chan none, .chan none, .chan none, .chan none, .chan none, .chan none, .chan none, .chan none, .chan none, .chan none, .chan none, .chan none, .chan none, .chan none, .chan none, .chan none, .chan none, .chan none, .chan none, .chan none]) (fun d => tsH a5 ++ [.cells (rowL .u8 F 160) 29, .cells [.int .i64 1, .int .i64 1, .int .i64 1, .int .i64 1, .int .i64 1, .int .i64 2, .int .i64 1, .int .i64 4] 38, .cells [.int .i64 0] 3, .cells [.int .i64 0, .int .i64 16] 3, .cells [.int .i64 0, .int .i64 32] 3, .cells [.int .i64 0, .int .i64 16, .int .i64 32] 3, .cells [.int .i64 0, .int .i64 64] 3, .cells [.int .i64 0] 3, .cells [.int .i64 0, .int .i64 32, .int .i64 64] 3, .cells [.int .i64 0] 3, .cells [.slice (some ⟨42, 0, none⟩) 1 1, .slice (some ⟨43, 0, none⟩) 2 2, .slice (some ⟨44, 0, none⟩) 2 2, .slice (some ⟨45, 0, none⟩) 3 3, .slice (some ⟨46, 0, none⟩) 2 2, .slice (some ⟨47, 0, none⟩) 1 1, .slice (some ⟨48, 0, none⟩) 3 3, .slice (some ⟨49, 0, none⟩) 1 1] 40, .cells (rowW (wI 5 P g (16 * 0 + d))) 41]) (fun d => d ≤ 16) (fun d => 16 - d) 0 [] rfl (by rw [show 16 * 0 + 0 = 0 from rfl, wI_zero, ← rowW_zero]; rfl) (by omega) (fun d => ⟨rfl, rfl, ?hok0, rfl⟩) ?_
  case hok0 =>
    simp only [tsH, List.cons_append, List.nil_append, List.all_cons, List.all_nil, Bool.and_true, Bool.and_eq_true]
    exact ⟨recC_all rfl (hL5.all fun _ => rfl) rfl, rfl, rfl, rfl, rfl, rfl, rfl, rfl, rfl, rfl, rfl, rfl, rfl, rfl, rfl, rfl, rfl, rfl, rfl, rfl, rfl, rfl, rfl, rfl, rfl, rfl, rfl, rfl, rfl, rfl, rfl, rfl, rfl, rfl, rfl, rfl, rfl, rfl, rfl, rfl, rowL_all fun _ => rfl, rfl, rfl, rfl, rfl, rfl, rfl, rfl, rfl, rfl, rfl, rowW_all fun _ => rfl⟩
  intro d0 hd R0 hR0
  have ei : IntKind.i64.wrap ((d0 : Int) + 1) = ((d0 + 1 : Nat) : Int) := by rw [wrap64 (by omega) (by omega)]; rfl
  have em : IntKind.i64.wrap (8 * 2) = 16 := by decide
  conv => whnf
  refine Bif.of (fun hc => ?_) fun hc => ?_
  · have hlt : d0 < 16 := by have h := of_decide_eq_true hc; omega
    rw [hc]
    have hraw : (IntKind.i64.wrap (IntKind.i64.wrap (IntKind.i64.wrap ((IntKind.i64.wrap y).tmod 160 + 0) + 6) + (d0 : Int))).tmod 160 = (((P + 0 + 6 + d0) % 160 : Nat) : Int) := by
      rw [hy, wrap64 (n := (P : Int) + 0) (by omega) (by omega), wrap64 (n := (P : Int) + 0 + 6) (by omega) (by omega), wrap64 (by omega) (by omega), Int.tmod_eq_emod_of_nonneg (by omega)]; omega
    have hix : (P + 0 + 6 + d0) % 160 < 160 := Nat.mod_lt _ (by decide)
    by_cases hgr : graphI g false 2 (d0 : Nat) = true
    · have hst : wI 5 P g (16 * 0 + (d0 + 1)) = fun j => wI 5 P g (16 * 0 + d0) j || decide (j = (P + 0 + 6 + d0) % 160) := wI_t (c := 16 * 0 + d0) rfl rfl hlt rfl rfl hgr
      generalize (P + 0 + 6 + d0) % 160 = ix at *
      conv => whnf
      refine ACalls.useE (field_graph _ _ _ _ hg ?_) [] rfl (by (conv => whnf); try rfl) (by (conv => whnf); try rfl) ?_
      · omega
      conv => whnf
      rw [hgr]
      conv => whnf
      rw [hraw]
      conv => whnf
      refine Req.of ?_ ?_
      · (rw [Bool.and_eq_true]; exact ⟨decide_eq_true (by omega), decide_eq_true (by omega)⟩)
      conv => whnf
      with_reducible refine putF_rowW ix (by show 0 + ((ix : Nat) : Int).toNat * 1 = ix; omega) hix hst ?_
      conv => whnf
      (rw [ei]; exact hR0 (d0 + 1) _ _ [] rfl rfl (by omega) (by omega))
    · have hgr2 : graphI g false 2 (d0 : Nat) = false := by simpa using hgr
      have hst : wI 5 P g (16 * 0 + (d0 + 1)) = wI 5 P g (16 * 0 + d0) := wI_f (c := 16 * 0 + d0) rfl rfl hlt rfl rfl hgr2
      conv => whnf
      refine ACalls.useE (field_graph _ _ _ _ hg ?_) [] rfl (by (conv => whnf); try rfl) (by (conv => whnf); try rfl) ?_
      · omega
      conv => whnf
      rw [hgr2]
      conv => whnf
      (rw [ei]; exact hR0 (d0 + 1) _ _ [] rfl (by rw [hst]; rfl) (by omega) (by omega))
  have hd0 : d0 = 16 := by have h := of_decide_eq_false hc; omega
  rw [hc]
  subst hd0
  clear hR0 ei hc hd
  conv => whnf

  refine ALoop.fd (σ := Nat) (fun x => [.int .u8 g, .int .u8 u, .int .u8 y, .chan none, .chan none, .chan none, .chan none, .pointer (some ⟨0, 0, none⟩), .chan none, .pointer (some ⟨40, 0, none⟩), .chan none, .chan none, .chan none, .chan none, .pointer (some ⟨51, 0, none⟩), .chan none, .chan none, .int .i64 x, .chan none, .chan none, .chan none, .chan none, .chan none, .chan none, .chan none, .chan none, .chan none, .chan none, .chan none, .chan none, .chan none, .chan none, .chan none, .chan none, .chan none, .chan none, .chan none, .chan none, .chan none, .chan none, .chan none, .chan none, .chan none, .chan none, .chan none, .chan none, .chan none, .chan none, .chan none, .chan none, .chan none, .chan none, .chan none, .chan none, .chan none, .chan none, .chan none, .chan none, .chan none, .chan none, .chan none, .chan none, .chan none, .chan none, .chan none, .chan none, .chan none, .chan none, .chan none, .chan none, .chan none, .chan none, .chan none, .chan none, .chan none, .chan none, .chan none, .chan none, .chan none, .chan none, .chan none, .chan none, .chan none, .chan none, .chan none, .chan none, .chan none, .chan none, .chan none, .chan none, .chan none, .chan none, .chan none, .chan none, .chan none, .chan none, .chan none, .chan none, .chan none, .chan none, .chan none, .chan none, .chan none, .chan none, .chan none, .chan none, .chan none, .chan none, .chan none, .chan none, .chan none, .chan none, .chan none, .chan none, .chan none, .chan none, .chan none, .chan none, .chan none, .chan none, .chan none, .chan none, .chan none]) (fun x => tsH a5 ++ [.cells (rowL .u8 F 160) 29, .cells [.int .i64 1, .int .i64 1, .int .i64 1, .int .i64 1, .int .i64 1, .int .i64 2, .int .i64 1, .int .i64 4] 38, .cells [.int .i64 0] 3, .cells [.int .i64 0, .int .i64 16] 3, .cells [.int .i64 0, .int .i64 32] 3, .cells [.int .i64 0, .int .i64 16, .int .i64 32] 3, .cells [.int .i64 0, .int .i64 64] 3, .cells [.int .i64 0] 3, .cells [.int .i64 0, .int .i64 32, .int .i64 64] 3, .cells [.int .i64 0] 3, .cells [.slice (some ⟨42, 0, none⟩) 1 1, .slice (some ⟨43, 0, none⟩) 2 2, .slice (some ⟨44, 0, none⟩) 2 2, .slice (some ⟨45, 0, none⟩) 3 3, .slice (some ⟨46, 0, none⟩) 2 2, .slice (some ⟨47, 0, none⟩) 1 1, .slice (some ⟨48, 0, none⟩) 3 3, .slice (some ⟨49, 0, none⟩) 1 1] 40, .cells (rowW (wI 5 P g 16)) 41]) (fun x => x ≤ 160) (fun x => 160 - x) 0 [] rfl rfl (by omega) (fun x => ⟨rfl, rfl, ?hokz, rfl⟩) ?_
  case hokz =>
    simp only [tsH, List.cons_append, List.nil_append, List.all_cons, List.all_nil, Bool.and_true, Bool.and_eq_true]
    exact ⟨recC_all rfl (hL5.all fun _ => rfl) rfl, rfl, rfl, rfl, rfl, rfl, rfl, rfl, rfl, rfl, rfl, rfl, rfl, rfl, rfl, rfl, rfl, rfl, rfl, rfl, rfl, rfl, rfl, rfl, rfl, rfl, rfl, rfl, rfl, rfl, rfl, rfl, rfl, rfl, rfl, rfl, rfl, rfl, rfl, rfl, rowL_all fun _ => rfl, rfl, rfl, rfl, rfl, rfl, rfl, rfl, rfl, rfl, rfl, rowW_all fun _ => rfl⟩
  intro x hx Rx hRx
  have ei : IntKind.i64.wrap ((x : Int) + 1) = ((x + 1 : Nat) : Int) := by rw [wrap64 (by omega) (by omega)]; rfl
  conv => whnf
  refine Bif.of (fun hc => ?_) fun hc => ?_
  · have hlt : x < 160 := by have h := of_decide_eq_true hc; omega
    rw [hc]
    have hFx := hF x hlt
    by_cases hcw : wI 5 P g 16 x = true
    · rw [if_pos hcw] at hFx
      conv => whnf
      refine Req.of ?_ ?_
      · (rw [Bool.and_eq_true]; exact ⟨decide_eq_true (by omega), decide_eq_true (by omega)⟩)
      conv => whnf
      with_reducible refine getF_rowL x (by show 0 + (x : Int).toNat * 1 = x; omega) hlt ?_
      conv => whnf
      rw [hFx]
      conv => whnf
      refine Req.of ?_ ?_
      · (rw [Bool.and_eq_true]; exact ⟨decide_eq_true (by omega), decide_eq_true (by omega)⟩)
      conv => whnf
      with_reducible refine getF_rowW x (by show 0 + (x : Int).toNat * 1 = x; omega) hlt ?_
      conv => whnf
      rw [hcw]
      conv => whnf
      refine Req.of ?_ ?_
      · (rw [Bool.and_eq_true]; exact ⟨decide_eq_true (by omega), decide_eq_true (by omega)⟩)
      conv => whnf
      with_reducible refine getF_rowL x (by show 0 + (x : Int).toNat * 1 = x; omega) hlt ?_
      conv => whnf
      rw [hFx]
      conv => whnf
      (rw [ei]; exact hRx (x + 1) _ _ [] rfl rfl (by omega) (by omega))
    · have hcw2 : wI 5 P g 16 x = false := by simpa using hcw
      rw [if_neg hcw] at hFx
      conv => whnf
      refine Req.of ?_ ?_
      · (rw [Bool.and_eq_true]; exact ⟨decide_eq_true (by omega), decide_eq_true (by omega)⟩)
      conv => whnf
      with_reducible refine getF_rowL x (by show 0 + (x : Int).toNat * 1 = x; omega) hlt ?_
      conv => whnf
      rw [hFx]
      conv => whnf
      refine Req.of ?_ ?_
      · (rw [Bool.and_eq_true]; exact ⟨decide_eq_true (by omega), decide_eq_true (by omega)⟩)
      conv => whnf
      with_reducible refine getF_rowW x (by show 0 + (x : Int).toNat * 1 = x; omega) hlt ?_
      conv => whnf
      rw [hcw2]
      conv => whnf
      refine Req.of ?_ ?_
      · (rw [Bool.and_eq_true]; exact ⟨decide_eq_true (by omega), decide_eq_true (by omega)⟩)
      conv => whnf
      with_reducible refine getF_rowL x (by show 0 + (x : Int).toNat * 1 = x; omega) hlt ?_
      conv => whnf
      rw [hFx]
      conv => whnf
      refine Req.of ?_ ?_
      · (rw [Bool.and_eq_true]; exact ⟨decide_eq_true (by omega), decide_eq_true (by omega)⟩)
      conv => whnf
      with_reducible refine getF_rowL x (by show 0 + (x : Int).toNat * 1 = x; omega) hlt ?_
      conv => whnf
      rw [hFx]
      conv => whnf
      (rw [ei]; exact hRx (x + 1) _ _ [] rfl rfl (by omega) (by omega))
  · rw [hc]
    clear hRx
    conv => whnf
theorem tcop_6 (g u y : Int) (hg : 0 ≤ g ∧ g ≤ 255) (hk : (IntKind.i64.wrap u).tmod 8 = 6) (P : Nat) (hP : P < 160) (hy : (IntKind.i64.wrap y).tmod 160 = (P : Int))
    (a0 a1 a2 a3 a4 a5 : TS) (s0 : a0.Top) (s1 : a1.Top) (s2 : a2.Top) (s3 : a3.Top) (s4 : a4.Top) (s5 : a5.Top) (F : Nat → Int) (A : Array Value) (hA : A.toList = rowL .u8 F 160)
    (k0 : ACalls Tryz.prog 7 [.int .i64 ((68 + P : Nat) : Int)] [] fun v H => v = .pointer (some ⟨0, 0, none⟩) ∧ H = tsH a0)
    (k1 : ACalls Tryz.prog 8 [.pointer (some ⟨0, 0, none⟩), .int .u16 16, .int .u8 0] (tsH a0) fun r H => r = .tuple #[] ∧ H = tsH a1)
    (k2 : ACalls Tryz.prog 8 [.pointer (some ⟨0, 0, none⟩), .int .u16 4, .int .u8 u] (tsH a1) fun r H => r = .tuple #[] ∧ H = tsH a2)
    (k3 : ACalls Tryz.prog 8 [.pointer (some ⟨0, 0, none⟩), .int .u16 6, .int .u8 68] (tsH a2) fun r H => r = .tuple #[] ∧ H = tsH a3)
    (k4 : ACalls Tryz.prog 8 [.pointer (some ⟨0, 0, none⟩), .int .u16 27, .int .u8 g] (tsH a3) fun r H => r = .tuple #[] ∧ H = tsH a4)
    (k5 : ACalls Tryz.prog 9 [.pointer (some ⟨0, 0, none⟩)] (tsH (stpI 456 a4)) fun v H => v = .agg A ∧ H = tsH a5)
    (hF : ∀ x, x < 160 → F x = if wI 6 P g 24 x then 68 else 0) :
    ACalls Tryz.prog 4 [.int .u8 g, .int .u8 u, .int .u8 y] [] fun v _ => v = .bool true := by
  have hL0 := s0.L
  have hL1 := s1.L
  have hL2 := s2.L
  have hL3 := s3.L
  have hL4 := s4.L
  have hL5 := s5.L
  have hnew : (IntKind.i64.wrap (68 + (IntKind.i64.wrap y).tmod 160)).tmod 228 = ((68 + P : Nat) : Int) := by
    rw [hy, wrap64 (by omega) (by omega), Int.tmod_eq_emod_of_nonneg (by omega)]; omega
  refine ACalls.code tabOk h4 Tryz.func4 Tryz.call4 ok4 ?_
  conv => whnf
  refine ACalls.useE (t_draws) [] rfl (by (conv => whnf); first | done | rfl | (refine renL_rec hL0.flat ?_; (conv => whnf); first | done | rfl) | (refine renL_rec hL1.flat ?_; (conv => whnf); first | done | rfl) | (refine renL_rec hL2.flat ?_; (conv => whnf); first | done | rfl) | (refine renL_rec hL3.flat ?_; (conv => whnf); first | done | rfl) | (refine renL_rec hL4.flat ?_; (conv => whnf); first | done | rfl)) (by (conv => whnf); try rfl) ?_
  conv => whnf
  rw [hnew]
  refine ACalls.useE (k0) [] rfl (by (conv => whnf); first | done | rfl | (refine renL_rec hL0.flat ?_; (conv => whnf); first | done | rfl) | (refine renL_rec hL1.flat ?_; (conv => whnf); first | done | rfl) | (refine renL_rec hL2.flat ?_; (conv => whnf); first | done | rfl) | (refine renL_rec hL3.flat ?_; (conv => whnf); first | done | rfl) | (refine renL_rec hL4.flat ?_; (conv => whnf); first | done | rfl)) (by (conv => whnf); try rfl) ?_
  conv => whnf
  refine renL_rec hL0.flat ?_
  conv => whnf
  refine ACalls.useE (k1) [0, 1, 2, 3, 4, 5, 6, 7, 8, 9, 10, 11, 12, 13, 14, 15, 16, 17, 18, 19, 20, 21, 22, 23, 24, 25, 26, 27, 28, 29, 30, 31, 32, 33, 34, 35, 36, 37, 38, 39] rfl (by (conv => whnf); first | done | rfl | (refine renL_rec hL0.flat ?_; (conv => whnf); first | done | rfl) | (refine renL_rec hL1.flat ?_; (conv => whnf); first | done | rfl) | (refine renL_rec hL2.flat ?_; (conv => whnf); first | done | rfl) | (refine renL_rec hL3.flat ?_; (conv => whnf); first | done | rfl) | (refine renL_rec hL4.flat ?_; (conv => whnf); first | done | rfl)) (by (conv => whnf); try rfl) ?_
  conv => whnf
  refine renL_rec hL1.flat ?_
  conv => whnf
  refine ACalls.useE (k2) [0, 1, 2, 3, 4, 5, 6, 7, 8, 9, 10, 11, 12, 13, 14, 15, 16, 17, 18, 19, 20, 21, 22, 23, 24, 25, 26, 27, 28, 29, 30, 31, 32, 33, 34, 35, 36, 37, 38, 39] rfl (by (conv => whnf); first | done | rfl | (refine renL_rec hL0.flat ?_; (conv => whnf); first | done | rfl) | (refine renL_rec hL1.flat ?_; (conv => whnf); first | done | rfl) | (refine renL_rec hL2.flat ?_; (conv => whnf); first | done | rfl) | (refine renL_rec hL3.flat ?_; (conv => whnf); first | done | rfl) | (refine renL_rec hL4.flat ?_; (conv => whnf); first | done | rfl)) (by (conv => whnf); try rfl) ?_
  conv => whnf
  refine renL_rec hL2.flat ?_
  conv => whnf
  refine ACalls.useE (k3) [0, 1, 2, 3, 4, 5, 6, 7, 8, 9, 10, 11, 12, 13, 14, 15, 16, 17, 18, 19, 20, 21, 22, 23, 24, 25, 26, 27, 28, 29, 30, 31, 32, 33, 34, 35, 36, 37, 38, 39] rfl (by (conv => whnf); first | done | rfl | (refine renL_rec hL0.flat ?_; (conv => whnf); first | done | rfl) | (refine renL_rec hL1.flat ?_; (conv => whnf); first | done | rfl) | (refine renL_rec hL2.flat ?_; (conv => whnf); first | done | rfl) | (refine renL_rec hL3.flat ?_; (conv => whnf); first | done | rfl) | (refine renL_rec hL4.flat ?_; (conv => whnf); first | done | rfl)) (by (conv => whnf); try rfl) ?_
  conv => whnf
  refine renL_rec hL3.flat ?_
  conv => whnf
  refine ACalls.useE (k4) [0, 1, 2, 3, 4, 5, 6, 7, 8, 9, 10, 11, 12, 13, 14, 15, 16, 17, 18, 19, 20, 21, 22, 23, 24, 25, 26, 27, 28, 29, 30, 31, 32, 33, 34, 35, 36, 37, 38, 39] rfl (by (conv => whnf); first | done | rfl | (refine renL_rec hL0.flat ?_; (conv => whnf); first | done | rfl) | (refine renL_rec hL1.flat ?_; (conv => whnf); first | done | rfl) | (refine renL_rec hL2.flat ?_; (conv => whnf); first | done | rfl) | (refine renL_rec hL3.flat ?_; (conv => whnf); first | done | rfl) | (refine renL_rec hL4.flat ?_; (conv => whnf); first | done | rfl)) (by (conv => whnf); try rfl) ?_
  conv => whnf
  refine renL_rec hL4.flat ?_
  conv => whnf
  refine ALoop.fd (σ := Nat) (fun i => [.int .u8 g, .int .u8 u, .int .u8 y, .chan none, .chan none, .chan none, .chan none, .pointer (some ⟨0, 0, none⟩), .int .i64 i, .chan none, .chan none, .chan none, .chan none, .chan none, .chan none, .chan none, .chan none, .chan none, .chan none, .chan none, .chan none, .chan none, .chan none, .chan none, .chan none, .chan none, .chan none, .chan none, .chan none, .chan none, .chan none, .chan none, .chan none, .chan none, .chan none, .chan none, .chan none, .chan none, .chan none, .chan none, .chan none, .chan none, .chan none, .chan none, .chan none, .chan none, .chan none, .chan none, .chan none, .chan none, .chan none, .chan none, .chan none, .chan none, .chan none, .chan none, .chan none, .chan none, .chan none, .chan none, .chan none, .chan none, .chan none, .chan none, .chan none, .chan none, .chan none, .chan none, .chan none, .chan none, .chan none, .chan none, .chan none, .chan none, .chan none, .chan none, .chan none, .chan none, .chan none, .chan none, .chan none, .chan none, .chan none, .chan none, .chan none, .chan none, .chan none, .chan none, .chan none, .chan none, .chan none, .chan none, .chan none, .chan none, .chan none, .chan none, .chan none, .chan none, .chan none, .chan none, .chan none, .chan none, .chan none, .chan none, .chan none, .chan none, .chan none, .chan none, .chan none, .chan none, .chan none, .chan none, .chan none, .chan none, .chan none, .chan none, .chan none, .chan none, .chan none, .chan none, .chan none, .chan none, .chan none]) (fun i => tsH (stpI i a4)) (fun i => i ≤ 456) (fun i => 456 - i) 0 [] rfl (by rw [stpI_zero]; rfl) (by omega) (fun i => ⟨rfl, rfl, ?hok, rfl⟩) ?_
  case hok =>
    simp only [tsH, List.all_cons, List.all_nil, Bool.and_true, Bool.and_eq_true]
    exact ⟨recC_all rfl ((stpI_top s4 i).L.all fun _ => rfl) rfl, rfl, rfl, rfl, rfl, rfl, rfl, rfl, rfl, rfl, rfl, rfl, rfl, rfl, rfl, rfl, rfl, rfl, rfl, rfl, rfl, rfl, rfl, rfl, rfl, rfl, rfl, rfl, rfl, rfl, rfl, rfl, rfl, rfl, rfl, rfl, rfl, rfl, rfl, rfl⟩
  clear k0 k1 k2 k3 k4 hL0 hL1 hL2 hL3 hnew
  intro i hi RR hR
  have hsi := stpI_top s4 i
  have hLi := hsi.L
  have hLn := (stpI_top s4 (i + 1)).L
  have ei : IntKind.i64.wrap ((i : Int) + 1) = ((i + 1 : Nat) : Int) := by rw [wrap64 (by omega) (by omega)]; rfl
  conv => whnf
  refine Bif.of (fun hc => ?_) fun hc => ?_
  · have hlt : i < 456 := by have := of_decide_eq_true hc; omega
    have hs2 : stp (stpI i a4) = stpI (i + 1) a4 := stpI_succ rfl
    rw [hc]
    conv => whnf
    refine ACalls.useE (t_stepQ _ hsi) [0, 1, 2, 3, 4, 5, 6, 7, 8, 9, 10, 11, 12, 13, 14, 15, 16, 17, 18, 19, 20, 21, 22, 23, 24, 25, 26, 27, 28, 29, 30, 31, 32, 33, 34, 35, 36, 37, 38, 39] rfl (by (conv => whnf); first | done | rfl | (refine renL_rec hLi.flat ?_; (conv => whnf); first | done | rfl)) (by (conv => whnf); try rfl) ?_
    conv => whnf
    rw [hs2]
    conv => whnf
    refine renL_rec hLn.flat ?_
    conv => whnf
    (rw [ei]; exact hR (i + 1) _ _ [] rfl rfl (by omega) (by omega))
  have hi0 : i = 456 := by have := of_decide_eq_false hc; omega
  rw [hc]
  subst hi0
  clear hR ei hLn hi hc
  generalize stpI 456 a4 = z at *
  conv => whnf
  refine ACalls.useE (k5) [0, 1, 2, 3, 4, 5, 6, 7, 8, 9, 10, 11, 12, 13, 14, 15, 16, 17, 18, 19, 20, 21, 22, 23, 24, 25, 26, 27, 28, 29, 30, 31, 32, 33, 34, 35, 36, 37, 38, 39] rfl (by (conv => whnf); first | done | rfl | (refine renL_rec hLi.flat ?_; (conv => whnf); first | done | rfl)) (by (conv => whnf); try rfl) ?_
  conv => whnf
  refine renL_rec hL5.flat ?_
  conv => whnf
  with_reducible refine renL_arr hA ?_
  conv => whnf
  refine Req.of ?_ ?_
  · exact arr_fits hA rfl fun _ => rfl
  conv => whnf
  (with_reducible refine putF_arr hA ?hl ?_; case' hl => exact List.length_replicate ..)
  conv => whnf
  rw [hk]
  conv => whnf
  clear k5 hLi hsi s4 hL4 a0 a1 a2 a3 s0 s1 s2 s3
  refine ALoop.run 4 ?_
  conv => whnf

  refine ALoop.fd (σ := Nat) (fun d => [.int .u8 g, .int .u8 u, .int .u8 y, .chan none, .chan none, .chan none, .chan none, .pointer (some ⟨0, 0, none⟩), .chan none, .pointer (some ⟨40, 0, none⟩), .pointer (some ⟨41, 0, none⟩), .pointer (some ⟨50, 0, none⟩), .int .i64 6, .int .i64 5, .pointer (some ⟨51, 0, none⟩), .int .i64 0, .int .i64 d, .chan none, .chan none, .chan none, .chan none, .chan none, .chan none, .chan none, .chan none, .chan none, .chan none, .chan none, .chan none, .chan none, .chan none, .chan none, .chan none, .chan none, .chan none, .chan none, .chan none, .chan none, .chan none, .chan none, .chan none, .chan none, .chan none, .chan none, .chan none, .chan none, .chan none, .chan none, .chan none, .chan none, .chan none, .chan none, .chan none, .chan none, .chan none, .chan none, .chan none, .chan none, .chan none, .chan none, .chan none, .chan none, .chan none, .chan none, .chan none, .chan none, .chan none, .chan none, .chan none, .chan none, .chan none, .chan none, .chan none, .chan none, .chan none, .chan none, .chan none, .chan none, .chan none, .chan none, .chan none, .chan none, .chan none, .chan none, .chan none, .chan none, .chan none, .chan none, .chan none, .chan none, .chan none, .chan none, .chan none, .chan none, .chan none, .chan none, .chan none, .chan none, .chan none, .chan none, .chan none, .chan none, .chan none, .chan none, .chan none, .chan none, .chan none, .chan none, .chan none, .chan none, .chan none, .chan none, .chan none, .chan none, .chan none, .chan none, .chan none, .chan none, .chan none, .chan none, .chan none, .chan none, .chan none]) (fun d => tsH a5 ++ [.cells (rowL .u8 F 160) 29, .cells [.int .i64 1, .int .i64 1, .int .i64 1, .int .i64 1, .int .i64 1, .int .i64 2, .int .i64 1, .int .i64 4] 38, .cells [.int .i64 0] 3, .cells [.int .i64 0, .int .i64 16] 3, .cells [.int .i64 0, .int .i64 32] 3, .cells [.int .i64 0, .int .i64 16, .int .i64 32] 3, .cells [.int .i64 0, .int .i64 64] 3, .cells [.int .i64 0] 3, .cells [.int .i64 0, .int .i64 32, .int .i64 64] 3, .cells [.int .i64 0] 3, .cells [.slice (some ⟨42, 0, none⟩) 1 1, .slice (some ⟨43, 0, none⟩) 2 2, .slice (some ⟨44, 0, none⟩) 2 2, .slice (some ⟨45, 0, none⟩) 3 3, .slice (some ⟨46, 0, none⟩) 2 2, .slice (some ⟨47, 0, none⟩) 1 1, .slice (some ⟨48, 0, none⟩) 3 3, .slice (some ⟨49, 0, none⟩) 1 1] 40, .cells (rowW (wI 6 P g (8 * 0 + d))) 41]) (fun d => d ≤ 8) (fun d => 8 - d) 0 [] rfl (by rw [show 8 * 0 + 0 = 0 from rfl, wI_zero, ← rowW_zero]; rfl) (by omega) (fun d => ⟨rfl, rfl, ?hok0, rfl⟩) ?_
  case hok0 =>
    simp only [tsH, List.cons_append, List.nil_append, List.all_cons, List.all_nil, Bool.and_true, Bool.and_eq_true]
    exact ⟨recC_all rfl (hL5.all fun _ => rfl) rfl, rfl, rfl, rfl, rfl, rfl, rfl, rfl, rfl, rfl, rfl, rfl, rfl, rfl, rfl, rfl, rfl, rfl, rfl, rfl, rfl, rfl, rfl, rfl, rfl, rfl, rfl, rfl, rfl, rfl, rfl, rfl, rfl, rfl, rfl, rfl, rfl, rfl, rfl, rfl, rowL_all fun _ => rfl, rfl, rfl, rfl, rfl, rfl, rfl, rfl, rfl, rfl, rfl, rowW_all fun _ => rfl⟩
  intro d0 hd R0 hR0
  have ei : IntKind.i64.wrap ((d0 : Int) + 1) = ((d0 + 1 : Nat) : Int) := by rw [wrap64 (by omega) (by omega)]; rfl
  have em : IntKind.i64.wrap (8 * 1) = 8 := by decide
  conv => whnf
  refine Bif.of (fun hc => ?_) fun hc => ?_
  · have hlt : d0 < 8 := by have h := of_decide_eq_true hc; omega
    rw [hc]
    have hraw : (IntKind.i64.wrap (IntKind.i64.wrap (IntKind.i64.wrap ((IntKind.i64.wrap y).tmod 160 + 0) + 5) + (d0 : Int))).tmod 160 = (((P + 0 + 5 + d0) % 160 : Nat) : Int) := by
      rw [hy, wrap64 (n := (P : Int) + 0) (by omega) (by omega), wrap64 (n := (P : Int) + 0 + 5) (by omega) (by omega), wrap64 (by omega) (by omega), Int.tmod_eq_emod_of_nonneg (by omega)]; omega
    have hix : (P + 0 + 5 + d0) % 160 < 160 := Nat.mod_lt _ (by decide)
    by_cases hgr : graphI g false 1 (d0 : Nat) = true
    · have hst : wI 6 P g (8 * 0 + (d0 + 1)) = fun j => wI 6 P g (8 * 0 + d0) j || decide (j = (P + 0 + 5 + d0) % 160) := wI_t (c := 8 * 0 + d0) rfl rfl hlt rfl rfl hgr
      generalize (P + 0 + 5 + d0) % 160 = ix at *
      conv => whnf
      refine ACalls.useE (field_graph _ _ _ _ hg ?_) [] rfl (by (conv => whnf); try rfl) (by (conv => whnf); try rfl) ?_
      · omega
      conv => whnf
      rw [hgr]
      conv => whnf
      rw [hraw]
      conv => whnf
      refine Req.of ?_ ?_
      · (rw [Bool.and_eq_true]; exact ⟨decide_eq_true (by omega), decide_eq_true (by omega)⟩)
      conv => whnf
      with_reducible refine putF_rowW ix (by show 0 + ((ix : Nat) : Int).toNat * 1 = ix; omega) hix hst ?_
      conv => whnf
      (rw [ei]; exact hR0 (d0 + 1) _ _ [] rfl rfl (by omega) (by omega))
    · have hgr2 : graphI g false 1 (d0 : Nat) = false := by simpa using hgr
      have hst : wI 6 P g (8 * 0 + (d0 + 1)) = wI 6 P g (8 * 0 + d0) := wI_f (c := 8 * 0 + d0) rfl rfl hlt rfl rfl hgr2
      conv => whnf
      refine ACalls.useE (field_graph _ _ _ _ hg ?_) [] rfl (by (conv => whnf); try rfl) (by (conv => whnf); try rfl) ?_
      · omega
      conv => whnf
      rw [hgr2]
      conv => whnf
      (rw [ei]; exact hR0 (d0 + 1) _ _ [] rfl (by rw [hst]; rfl) (by omega) (by omega))
  have hd0 : d0 = 8 := by have h := of_decide_eq_false hc; omega
  rw [hc]
  subst hd0
  clear hR0 ei hc hd
  conv => whnf

  refine ALoop.fd (σ := Nat) (fun d => [.int .u8 g, .int .u8 u, .int .u8 y, .chan none, .chan none, .chan none, .chan none, .pointer (some ⟨0, 0, none⟩), .chan none, .pointer (some ⟨40, 0, none⟩), .pointer (some ⟨41, 0, none⟩), .pointer (some ⟨50, 0, none⟩), .int .i64 6, .int .i64 5, .pointer (some ⟨51, 0, none⟩), .int .i64 1, .int .i64 d, .chan none, .chan none, .chan none, .chan none, .chan none, .chan none, .chan none, .chan none, .chan none, .chan none, .chan none, .chan none, .chan none, .chan none, .chan none, .chan none, .chan none, .chan none, .chan none, .chan none, .chan none, .chan none, .chan none, .chan none, .chan none, .chan none, .chan none, .chan none, .chan none, .chan none, .chan none, .chan none, .chan none, .chan none, .chan none, .chan none, .chan none, .chan none, .chan none, .chan none, .chan none, .chan none, .chan none, .chan none, .chan none, .chan none, .chan none, .chan none, .chan none, .chan none, .chan none, .chan none, .chan none, .chan none, .chan none, .chan none, .chan none, .chan none, .chan none, .chan none, .chan none, .chan none, .chan none, .chan none, .chan none, .chan none, .chan none, .chan none, .chan none, .chan none, .chan none, .chan none, .chan none, .chan none, .chan none, .chan none, .chan none, .chan none, .chan none, .chan none, .chan none, .chan none, .chan none, .chan none, .chan none, .chan none, .chan none, .chan none, .chan none, .chan none, .chan none, .chan none, .chan none, .chan none, .chan none, .chan none, .chan none, .chan none, .chan none, .chan none, .chan none, .chan none, .chan none, .chan none, .chan none, .chan none]) (fun d => tsH a5 ++ [.cells (rowL .u8 F 160) 29, .cells [.int .i64 1, .int .i64 1, .int .i64 1, .int .i64 1, .int .i64 1, .int .i64 2, .int .i64 1, .int .i64 4] 38, .cells [.int .i64 0] 3, .cells [.int .i64 0, .int .i64 16] 3, .cells [.int .i64 0, .int .i64 32] 3, .cells [.int .i64 0, .int .i64 16, .int .i64 32] 3, .cells [.int .i64 0, .int .i64 64] 3, .cells [.int .i64 0] 3, .cells [.int .i64 0, .int .i64 32, .int .i64 64] 3, .cells [.int .i64 0] 3, .cells [.slice (some ⟨42, 0, none⟩) 1 1, .slice (some ⟨43, 0, none⟩) 2 2, .slice (some ⟨44, 0, none⟩) 2 2, .slice (some ⟨45, 0, none⟩) 3 3, .slice (some ⟨46, 0, none⟩) 2 2, .slice (some ⟨47, 0, none⟩) 1 1, .slice (some ⟨48, 0, none⟩) 3 3, .slice (some ⟨49, 0, none⟩) 1 1] 40, .cells (rowW (wI 6 P g (8 * 1 + d))) 41]) (fun d => d ≤ 8) (fun d => 8 - d) 0 [] rfl rfl (by omega) (fun d => ⟨rfl, rfl, ?hok1, rfl⟩) ?_
  case hok1 =>
    simp only [tsH, List.cons_append, List.nil_append, List.all_cons, List.all_nil, Bool.and_true, Bool.and_eq_true]
    exact ⟨recC_all rfl (hL5.all fun _ => rfl) rfl, rfl, rfl, rfl, rfl, rfl, rfl, rfl, rfl, rfl, rfl, rfl, rfl, rfl, rfl, rfl, rfl, rfl, rfl, rfl, rfl, rfl, rfl, rfl, rfl, rfl, rfl, rfl, rfl, rfl, rfl, rfl, rfl, rfl, rfl, rfl, rfl, rfl, rfl, rfl, rowL_all fun _ => rfl, rfl, rfl, rfl, rfl, rfl, rfl, rfl, rfl, rfl, rfl, rowW_all fun _ => rfl⟩
  intro d1 hd R1 hR1
  have ei : IntKind.i64.wrap ((d1 : Int) + 1) = ((d1 + 1 : Nat) : Int) := by rw [wrap64 (by omega) (by omega)]; rfl
  have em : IntKind.i64.wrap (8 * 1) = 8 := by decide
  conv => whnf
  refine Bif.of (fun hc => ?_) fun hc => ?_
  · have hlt : d1 < 8 := by have h := of_decide_eq_true hc; omega
    rw [hc]
    have hraw : (IntKind.i64.wrap (IntKind.i64.wrap (IntKind.i64.wrap ((IntKind.i64.wrap y).tmod 160 + 32) + 5) + (d1 : Int))).tmod 160 = (((P + 32 + 5 + d1) % 160 : Nat) : Int) := by
      rw [hy, wrap64 (n := (P : Int) + 32) (by omega) (by omega), wrap64 (n := (P : Int) + 32 + 5) (by omega) (by omega), wrap64 (by omega) (by omega), Int.tmod_eq_emod_of_nonneg (by omega)]; omega
    have hix : (P + 32 + 5 + d1) % 160 < 160 := Nat.mod_lt _ (by decide)
    by_cases hgr : graphI g false 1 (d1 : Nat) = true
    · have hst : wI 6 P g (8 * 1 + (d1 + 1)) = fun j => wI 6 P g (8 * 1 + d1) j || decide (j = (P + 32 + 5 + d1) % 160) := wI_t (c := 8 * 1 + d1) rfl rfl hlt rfl rfl hgr
      generalize (P + 32 + 5 + d1) % 160 = ix at *
      conv => whnf
      refine ACalls.useE (field_graph _ _ _ _ hg ?_) [] rfl (by (conv => whnf); try rfl) (by (conv => whnf); try rfl) ?_
      · omega
      conv => whnf
      rw [hgr]
      conv => whnf
      rw [hraw]
      conv => whnf
      refine Req.of ?_ ?_
      · (rw [Bool.and_eq_true]; exact ⟨decide_eq_true (by omega), decide_eq_true (by omega)⟩)
      conv => whnf
      with_reducible refine putF_rowW ix (by show 0 + ((ix : Nat) : Int).toNat * 1 = ix; omega) hix hst ?_
      conv => whnf
      (rw [ei]; exact hR1 (d1 + 1) _ _ [] rfl rfl (by omega) (by omega))
    · have hgr2 : graphI g false 1 (d1 : Nat) = false := by simpa using hgr
      have hst : wI 6 P g (8 * 1 + (d1 + 1)) = wI 6 P g (8 * 1 + d1) := wI_f (c := 8 * 1 + d1) rfl rfl hlt rfl rfl hgr2
      conv => whnf
      refine ACalls.useE (field_graph _ _ _ _ hg ?_) [] rfl (by (conv => whnf); try rfl) (by (conv => whnf); try rfl) ?_
      · omega
      conv => whnf
      rw [hgr2]
      conv => whnf
      (rw [ei]; exact hR1 (d1 + 1) _ _ [] rfl (by rw [hst]; rfl) (by omega) (by omega))
  have hd0 : d1 = 8 := by have h := of_decide_eq_false hc; omega
  rw [hc]
  subst hd0
  clear hR1 ei hc hd
  conv => whnf

  refine ALoop.fd (σ := Nat) (fun d => [.int .u8 g, .int .u8 u, .int .u8 y, .chan none, .chan none, .chan none, .chan none, .pointer (some ⟨0, 0, none⟩), .chan none, .pointer (some ⟨40, 0, none⟩), .pointer (some ⟨41, 0, none⟩), .pointer (some ⟨50, 0, none⟩), .int .i64 6, .int .i64 5, .pointer (some ⟨51, 0, none⟩), .int .i64 2, .int .i64 d, .chan none, .chan none, .chan none, .chan none, .chan none, .chan none, .chan none, .chan none, .chan none, .chan none, .chan none, .chan none, .chan none, .chan none, .chan none, .chan none, .chan none, .chan none, .chan none, .chan none, .chan none, .chan none, .chan none, .chan none, .chan none, .chan none, .chan none, .chan none, .chan none, .chan none, .chan none, .chan none, .chan none, .chan none, .chan none, .chan none, .chan none, .chan none, .chan none, .chan none, .chan none, .chan none, .chan none, .chan none, .chan none, .chan none, .chan none, .chan none, .chan none, .chan none, .chan none, .chan none, .chan none, .chan none, .chan none, .chan none, .chan none, .chan none, .chan none, .chan none, .chan none, .chan none, .chan none, .chan none, .chan none, .chan none, .chan none, .chan none, .chan none, .chan none, .chan none, .chan none, .chan none, .chan none, .chan none, .chan none, .chan none, .chan none, .chan none, .chan none, .chan none, .chan none, .chan none, .chan none, .chan none, .chan none, .chan none, .chan none, .chan none, .chan none, .chan none, .chan none, .chan none, .chan none, .chan none, .chan none, .chan none, .chan none, .chan none, .chan none, .chan none, .chan none, .chan none, .chan none, .chan none, .chan none]) (fun d => tsH a5 ++ [.cells (rowL .u8 F 160) 29, .cells [.int .i64 1, .int .i64 1, .int .i64 1, .int .i64 1, .int .i64 1, .int .i64 2, .int .i64 1, .int .i64 4] 38, .cells [.int .i64 0] 3, .cells [.int .i64 0, .int .i64 16] 3, .cells [.int .i64 0, .int .i64 32] 3, .cells [.int .i64 0, .int .i64 16, .int .i64 32] 3, .cells [.int .i64 0, .int .i64 64] 3, .cells [.int .i64 0] 3, .cells [.int .i64 0, .int .i64 32, .int .i64 64] 3, .cells [.int .i64 0] 3, .cells [.slice (some ⟨42, 0, none⟩) 1 1, .slice (some ⟨43, 0, none⟩) 2 2, .slice (some ⟨44, 0, none⟩) 2 2, .slice (some ⟨45, 0, none⟩) 3 3, .slice (some ⟨46, 0, none⟩) 2 2, .slice (some ⟨47, 0, none⟩) 1 1, .slice (some ⟨48, 0, none⟩) 3 3, .slice (some ⟨49, 0, none⟩) 1 1] 40, .cells (rowW (wI 6 P g (8 * 2 + d))) 41]) (fun d => d ≤ 8) (fun d => 8 - d) 0 [] rfl rfl (by omega) (fun d => ⟨rfl, rfl, ?hok2, rfl⟩) ?_
  case hok2 =>
    simp only [tsH, List.cons_append, List.nil_append, List.all_cons, List.all_nil, Bool.and_true, Bool.and_eq_true]
    exact ⟨recC_all rfl (hL5.all fun _ => rfl) rfl, rfl, rfl, rfl, rfl, rfl, rfl, rfl, rfl, rfl, rfl, rfl, rfl, rfl, rfl, rfl, rfl, rfl, rfl, rfl, rfl, rfl, rfl, rfl, rfl, rfl, rfl, rfl, rfl, rfl, rfl, rfl, rfl, rfl, rfl, rfl, rfl, rfl, rfl, rfl, rowL_all fun _ => rfl, rfl, rfl, rfl, rfl, rfl, rfl, rfl, rfl, rfl, rfl, rowW_all fun _ => rfl⟩
  intro d2 hd R2 hR2
  have ei : IntKind.i64.wrap ((d2 : Int) + 1) = ((d2 + 1 : Nat) : Int) := by rw [wrap64 (by omega) (by omega)]; rfl
  have em : IntKind.i64.wrap (8 * 1) = 8 := by decide
  conv => whnf
  refine Bif.of (fun hc => ?_) fun hc => ?_
  · have hlt : d2 < 8 := by have h := of_decide_eq_true hc; omega
    rw [hc]
    have hraw : (IntKind.i64.wrap (IntKind.i64.wrap (IntKind.i64.wrap ((IntKind.i64.wrap y).tmod 160 + 64) + 5) + (d2 : Int))).tmod 160 = (((P + 64 + 5 + d2) % 160 : Nat) : Int) := by
      rw [hy, wrap64 (n := (P : Int) + 64) (by omega) (by omega), wrap64 (n := (P : Int) + 64 + 5) (by omega) (by omega), wrap64 (by omega) (by omega), Int.tmod_eq_emod_of_nonneg (by omega)]; omega
    have hix : (P + 64 + 5 + d2) % 160 < 160 := Nat.mod_lt _ (by decide)
    by_cases hgr : graphI g false 1 (d2 : Nat) = true
    · have hst : wI 6 P g (8 * 2 + (d2 + 1)) = fun j => wI 6 P g (8 * 2 + d2) j || decide (j = (P + 64 + 5 + d2) % 160) := wI_t (c := 8 * 2 + d2) rfl rfl hlt rfl rfl hgr
      generalize (P + 64 + 5 + d2) % 160 = ix at *
      conv => whnf
      refine ACalls.useE (field_graph _ _ _ _ hg ?_) [] rfl (by (conv => whnf); try rfl) (by (conv => whnf); try rfl) ?_
      · omega
      conv => whnf
      rw [hgr]
      conv => whnf
      rw [hraw]
      conv => whnf
      refine Req.of ?_ ?_
      · (rw [Bool.and_eq_true]; exact ⟨decide_eq_true (by omega), decide_eq_true (by omega)⟩)
      conv => whnf
      with_reducible refine putF_rowW ix (by show 0 + ((ix : Nat) : Int).toNat * 1 = ix; omega) hix hst ?_
      conv => whnf
      (rw [ei]; exact hR2 (d2 + 1) _ _ [] rfl rfl (by omega) (by omega))
    · have hgr2 : graphI g false 1 (d2 : Nat) = false := by simpa using hgr
      have hst : wI 6 P g (8 * 2 + (d2 + 1)) = wI 6 P g (8 * 2 + d2) := wI_f (c := 8 * 2 + d2) rfl rfl hlt rfl rfl hgr2
      conv => whnf
      refine ACalls.useE (field_graph _ _ _ _ hg ?_) [] rfl (by (conv => whnf); try rfl) (by (conv => whnf); try rfl) ?_
      · omega
      conv => whnf
      rw [hgr2]
      conv => whnf
      (rw [ei]; exact hR2 (d2 + 1) _ _ [] rfl (by rw [hst]; rfl) (by omega) (by omega))
  have hd0 : d2 = 8 := by have h := of_decide_eq_false hc; omega
  rw [hc]
  subst hd0
  clear hR2 ei hc hd
  conv => whnf

  refine ALoop.fd (σ := Nat) (fun x => [.int .u8 g, .int .u8 u, .int .u8 y, .chan none, .chan none, .chan none, .chan none, .pointer (some ⟨0, 0, none⟩), .chan none, .pointer (some ⟨40, 0, none⟩), .chan none, .chan none, .chan none, .chan none, .pointer (some ⟨51, 0, none⟩), .chan none, .chan none, .int .i64 x, .chan none, .chan none, .chan none, .chan none, .chan none, .chan none, .chan none, .chan none, .chan none, .chan none, .chan none, .chan none, .chan none, .chan none, .chan none, .chan none, .chan none, .chan none, .chan none, .chan none, .chan none, .chan none, .chan none, .chan none, .chan none, .chan none, .chan none, .chan none, .chan none, .chan none, .chan none, .chan none, .chan none, .chan none, .chan none, .chan none, .chan none, .chan none, .chan none, .chan none, .chan none, .chan none, .chan none, .chan none, .chan none, .chan none, .chan none, .chan none, .chan none, .chan none, .chan none, .chan none, .chan none, .chan none, .chan none, .chan none, .chan none, .chan none, .chan none, .chan none, .chan none, .chan none, .chan none, .chan none, .chan none, .chan none, .chan none, .chan none, .chan none, .chan none, .chan none, .chan none, .chan none, .chan none, .chan none, .chan none, .chan none, .chan none, .chan none, .chan none, .chan none, .chan none, .chan none, .chan none, .chan none, .chan none, .chan none, .chan none, .chan none, .chan none, .chan none, .chan none, .chan none, .chan none, .chan none, .chan none, .chan none, .chan none, .chan none, .chan none, .chan none, .chan none, .chan none, .chan none, .chan none]) (fun x => tsH a5 ++ [.cells (rowL .u8 F 160) 29, .cells [.int .i64 1, .int .i64 1, .int .i64 1, .int .i64 1, .int .i64 1, .int .i64 2, .int .i64 1, .int .i64 4] 38, .cells [.int .i64 0] 3, .cells [.int .i64 0, .int .i64 16] 3, .cells [.int .i64 0, .int .i64 32] 3, .cells [.int .i64 0, .int .i64 16, .int .i64 32] 3, .cells [.int .i64 0, .int .i64 64] 3, .cells [.int .i64 0] 3, .cells [.int .i64 0, .int .i64 32, .int .i64 64] 3, .cells [.int .i64 0] 3, .cells [.slice (some ⟨42, 0, none⟩) 1 1, .slice (some ⟨43, 0, none⟩) 2 2, .slice (some ⟨44, 0, none⟩) 2 2, .slice (some ⟨45, 0, none⟩) 3 3, .slice (some ⟨46, 0, none⟩) 2 2, .slice (some ⟨47, 0, none⟩) 1 1, .slice (some ⟨48, 0, none⟩) 3 3, .slice (some ⟨49, 0, none⟩) 1 1] 40, .cells (rowW (wI 6 P g 24)) 41]) (fun x => x ≤ 160) (fun x => 160 - x) 0 [] rfl rfl (by omega) (fun x => ⟨rfl, rfl, ?hokz, rfl⟩) ?_
  case hokz =>
    simp only [tsH, List.cons_append, List.nil_append, List.all_cons, List.all_nil, Bool.and_true, Bool.and_eq_true]
    exact ⟨recC_all rfl (hL5.all fun _ => rfl) rfl, rfl, rfl, rfl, rfl, rfl, rfl, rfl, rfl, rfl, rfl, rfl, rfl, rfl, rfl, rfl, rfl, rfl, rfl, rfl, rfl, rfl, rfl, rfl, rfl, rfl, rfl, rfl, rfl, rfl, rfl, rfl, rfl, rfl, rfl, rfl, rfl, rfl, rfl, rfl, rowL_all fun _ => rfl, rfl, rfl, rfl, rfl, rfl, rfl, rfl, rfl, rfl, rfl, rowW_all fun _ => rfl⟩
  intro x hx Rx hRx
  have ei : IntKind.i64.wrap ((x : Int) + 1) = ((x + 1 : Nat) : Int) := by rw [wrap64 (by omega) (by omega)]; rfl
  conv => whnf
  refine Bif.of (fun hc => ?_) fun hc => ?_
  · have hlt : x < 160 := by have h := of_decide_eq_true hc; omega
    rw [hc]
    have hFx := hF x hlt
    by_cases hcw : wI 6 P g 24 x = true
    · rw [if_pos hcw] at hFx
      conv => whnf
      refine Req.of ?_ ?_
      · (rw [Bool.and_eq_true]; exact ⟨decide_eq_true (by omega), decide_eq_true (by omega)⟩)
      conv => whnf
      with_reducible refine getF_rowL x (by show 0 + (x : Int).toNat * 1 = x; omega) hlt ?_
      conv => whnf
      rw [hFx]
      conv => whnf
      refine Req.of ?_ ?_
      · (rw [Bool.and_eq_true]; exact ⟨decide_eq_true (by omega), decide_eq_true (by omega)⟩)
      conv => whnf
      with_reducible refine getF_rowW x (by show 0 + (x : Int).toNat * 1 = x; omega) hlt ?_
      conv => whnf
      rw [hcw]
      conv => whnf
      refine Req.of ?_ ?_
      · (rw [Bool.and_eq_true]; exact ⟨decide_eq_true (by omega), decide_eq_true (by omega)⟩)
      conv => whnf
      with_reducible refine getF_rowL x (by show 0 + (x : Int).toNat * 1 = x; omega) hlt ?_
      conv => whnf
      rw [hFx]
      conv => whnf
      (rw [ei]; exact hRx (x + 1) _ _ [] rfl rfl (by omega) (by omega))
    · have hcw2 : wI 6 P g 24 x = false := by simpa using hcw
      rw [if_neg hcw] at hFx
      conv => whnf
      refine Req.of ?_ ?_
      · (rw [Bool.and_eq_true]; exact ⟨decide_eq_true (by omega), decide_eq_true (by omega)⟩)
      conv => whnf
      with_reducible refine getF_rowL x (by show 0 + (x : Int).toNat * 1 = x; omega) hlt ?_
      conv => whnf
      rw [hFx]
      conv => whnf
      refine Req.of ?_ ?_
      · (rw [Bool.and_eq_true]; exact ⟨decide_eq_true (by omega), decide_eq_true (by omega)⟩)
      conv => whnf
      with_reducible refine getF_rowW x (by show 0 + (x : Int).toNat * 1 = x; omega) hlt ?_
      conv => whnf
      rw [hcw2]
      conv => whnf
      refine Req.of ?_ ?_
      · (rw [Bool.and_eq_true]; exact ⟨decide_eq_true (by omega), decide_eq_true (by omega)⟩)
      conv => whnf
      with_reducible refine getF_rowL x (by show 0 + (x : Int).toNat * 1 = x; omega) hlt ?_
      conv => whnf
      rw [hFx]
      conv => whnf
      refine Req.of ?_ ?_
      · (rw [Bool.and_eq_true]; exact ⟨decide_eq_true (by omega), decide_eq_true (by omega)⟩)
      conv => whnf
      with_reducible refine getF_rowL x (by show 0 + (x : Int).toNat * 1 = x; omega) hlt ?_
      conv => whnf
      rw [hFx]
      conv => whnf
      (rw [ei]; exact hRx (x + 1) _ _ [] rfl rfl (by omega) (by omega))
  · rw [hc]
    clear hRx
    conv => whnf
theorem tcop_7 (g u y : Int) (hg : 0 ≤ g ∧ g ≤ 255) (hk : (IntKind.i64.wrap u).tmod 8 = 7) (P : Nat) (hP : P < 160) (hy : (IntKind.i64.wrap y).tmod 160 = (P : Int))
    (a0 a1 a2 a3 a4 a5 : TS) (s0 : a0.Top) (s1 : a1.Top) (s2 : a2.Top) (s3 : a3.Top) (s4 : a4.Top) (s5 : a5.Top) (F : Nat → Int) (A : Array Value) (hA : A.toList = rowL .u8 F 160)
    (k0 : ACalls Tryz.prog 7 [.int .i64 ((68 + P : Nat) : Int)] [] fun v H => v = .pointer (some ⟨0, 0, none⟩) ∧ H = tsH a0)
    (k1 : ACalls Tryz.prog 8 [.pointer (some ⟨0, 0, none⟩), .int .u16 16, .int .u8 0] (tsH a0) fun r H => r = .tuple #[] ∧ H = tsH a1)
    (k2 : ACalls Tryz.prog 8 [.pointer (some ⟨0, 0, none⟩), .int .u16 4, .int .u8 u] (tsH a1) fun r H => r = .tuple #[] ∧ H = tsH a2)
    (k3 : ACalls Tryz.prog 8 [.pointer (some ⟨0, 0, none⟩), .int .u16 6, .int .u8 68] (tsH a2) fun r H => r = .tuple #[] ∧ H = tsH a3)
    (k4 : ACalls Tryz.prog 8 [.pointer (some ⟨0, 0, none⟩), .int .u16 27, .int .u8 g] (tsH a3) fun r H => r = .tuple #[] ∧ H = tsH a4)
    (k5 : ACalls Tryz.prog 9 [.pointer (some ⟨0, 0, none⟩)] (tsH (stpI 456 a4)) fun v H => v = .agg A ∧ H = tsH a5)
    (hF : ∀ x, x < 160 → F x = if wI 7 P g 32 x then 68 else 0) :
    ACalls Tryz.prog 4 [.int .u8 g, .int .u8 u, .int .u8 y] [] fun v _ => v = .bool true := by
  have hL0 := s0.L
  have hL1 := s1.L
  have hL2 := s2.L
  have hL3 := s3.L
  have hL4 := s4.L
  have hL5 := s5.L
  have hnew : (IntKind.i64.wrap (68 + (IntKind.i64.wrap y).tmod 160)).tmod 228 = ((68 + P : Nat) : Int) := by
    rw [hy, wrap64 (by omega) (by omega), Int.tmod_eq_emod_of_nonneg (by omega)]; omega
  refine ACalls.code tabOk h4 Tryz.func4 Tryz.call4 ok4 ?_
  conv => whnf
  refine ACalls.useE (t_draws) [] rfl (by (conv => whnf); first | done | rfl | (refine renL_rec hL0.flat ?_; (conv => whnf); first | done | rfl) | (refine renL_rec hL1.flat ?_; (conv => whnf); first | done | rfl) | (refine renL_rec hL2.flat ?_; (conv => whnf); first | done | rfl) | (refine renL_rec hL3.flat ?_; (conv => whnf); first | done | rfl) | (refine renL_rec hL4.flat ?_; (conv => whnf); first | done | rfl)) (by (conv => whnf); try rfl) ?_
  conv => whnf
  rw [hnew]
  refine ACalls.useE (k0) [] rfl (by (conv => whnf); first | done | rfl | (refine renL_rec hL0.flat ?_; (conv => whnf); first | done | rfl) | (refine renL_rec hL1.flat ?_; (conv => whnf); first | done | rfl) | (refine renL_rec hL2.flat ?_; (conv => whnf); first | done | rfl) | (refine renL_rec hL3.flat ?_; (conv => whnf); first | done | rfl) | (refine renL_rec hL4.flat ?_; (conv => whnf); first | done | rfl)) (by (conv => whnf); try rfl) ?_
  conv => whnf
  refine renL_rec hL0.flat ?_
  conv => whnf
  refine ACalls.useE (k1) [0, 1, 2, 3, 4, 5, 6, 7, 8, 9, 10, 11, 12, 13, 14, 15, 16, 17, 18, 19, 20, 21, 22, 23, 24, 25, 26, 27, 28, 29, 30, 31, 32, 33, 34, 35, 36, 37, 38, 39] rfl (by (conv => whnf); first | done | rfl | (refine renL_rec hL0.flat ?_; (conv => whnf); first | done | rfl) | (refine renL_rec hL1.flat ?_; (conv => whnf); first | done | rfl) | (refine renL_rec hL2.flat ?_; (conv => whnf); first | done | rfl) | (refine renL_rec hL3.flat ?_; (conv => whnf); first | done | rfl) | (refine renL_rec hL4.flat ?_; (conv => whnf); first | done | rfl)) (by (conv => whnf); try rfl) ?_
  conv => whnf
  refine renL_rec hL1.flat ?_
  conv => whnf
  refine ACalls.useE (k2) [0, 1, 2, 3, 4, 5, 6, 7, 8, 9, 10, 11, 12, 13, 14, 15, 16, 17, 18, 19, 20, 21, 22, 23, 24, 25, 26, 27, 28, 29, 30, 31, 32, 33, 34, 35, 36, 37, 38, 39] rfl (by (conv => whnf); first | done | rfl | (refine renL_rec hL0.flat ?_; (conv => whnf); first | done | rfl) | (refine renL_rec hL1.flat ?_; (conv => whnf); first | done | rfl) | (refine renL_rec hL2.flat ?_; (conv => whnf); first | done | rfl) | (refine renL_rec hL3.flat ?_; (conv => whnf); first | done | rfl) | (refine renL_rec hL4.flat ?_; (conv => whnf); first | done | rfl)) (by (conv => whnf); try rfl) ?_
  conv => whnf
  refine renL_rec hL2.flat ?_
  conv => whnf
  refine ACalls.useE (k3) [0, 1, 2, 3, 4, 5, 6, 7, 8, 9, 10, 11, 12, 13, 14, 15, 16, 17, 18, 19, 20, 21, 22, 23, 24, 25, 26, 27, 28, 29, 30, 31, 32, 33, 34, 35, 36, 37, 38, 39] rfl (by (conv => whnf); first | done | rfl | (refine renL_rec hL0.flat ?_; (conv => whnf); first | done | rfl) | (refine renL_rec hL1.flat ?_; (conv => whnf); first | done | rfl) | (refine renL_rec hL2.flat ?_; (conv => whnf); first | done | rfl) | (refine renL_rec hL3.flat ?_; (conv => whnf); first | done | rfl) | (refine renL_rec hL4.flat ?_; (conv => whnf); first | done | rfl)) (by (conv => whnf); try rfl) ?_
  conv => whnf
  refine renL_rec hL3.flat ?_
  conv => whnf
  refine ACalls.useE (k4) [0, 1, 2, 3, 4, 5, 6, 7, 8, 9, 10, 11, 12, 13, 14, 15, 16, 17, 18, 19, 20, 21, 22, 23, 24, 25, 26, 27, 28, 29, 30, 31, 32, 33, 34, 35, 36, 37, 38, 39] rfl (by (conv => whnf); first | done | rfl | (refine renL_rec hL0.flat ?_; (conv => whnf); first | done | rfl) | (refine renL_rec hL1.flat ?_; (conv => whnf); first | done | rfl) | (refine renL_rec hL2.flat ?_; (conv => whnf); first | done | rfl) | (refine renL_rec hL3.flat ?_; (conv => whnf); first | done | rfl) | (refine renL_rec hL4.flat ?_; (conv => whnf); first | done | rfl)) (by (conv => whnf); try rfl) ?_
  conv => whnf
  refine renL_rec hL4.flat ?_
  conv => whnf
  refine ALoop.fd (σ := Nat) (fun i => [.int .u8 g, .int .u8 u, .int .u8 y, .chan none, .chan none, .chan none, .chan none, .pointer (some ⟨0, 0, none⟩), .int .i64 i, .chan none, .chan none, .chan none, .chan none, .chan none, .chan none, .chan none, .chan none, .chan none, .chan none, .chan none, .chan none, .chan none, .chan none, .chan none, .chan none, .chan none, .chan none, .chan none, .chan none, .chan none, .chan none, .chan none, .chan none, .chan none, .chan none, .chan none, .chan none, .chan none, .chan none, .chan none, .chan none, .chan none, .chan none, .chan none, .chan none, .chan none, .chan none, .chan none, .chan none, .chan none, .chan none, .chan none, .chan none, .chan none, .chan none, .chan none, .chan none, .chan none, .chan none, .chan none, .chan none, .chan none, .chan none, .chan none, .chan none, .chan none, .chan none, .chan none, .chan none, .chan none, .chan none, .chan none, .chan none, .chan none, .chan none, .chan none, .chan none, .chan none, .chan none, .chan none, .chan none, .chan none, .chan none, .chan none, .chan none, .chan none, .chan none, .chan none, .chan none, .chan none, .chan none, .chan none, .chan none, .chan none, .chan none, .chan none, .chan none, .chan none, .chan none, .chan none, .chan none, .chan none, .chan none, .chan none, .chan none, .chan none, .chan none, .chan none, .chan none, .chan none, .chan none, .chan none, .chan none, .chan none, .chan none, .chan none, .chan none, .chan none, .chan none, .chan none, .chan none, .chan none, .chan none]) (fun i => tsH (stpI i a4)) (fun i => i ≤ 456) (fun i => 456 - i) 0 [] rfl (by rw [stpI_zero]; rfl) (by omega) (fun i => ⟨rfl, rfl, ?hok, rfl⟩) ?_
  case hok =>
    simp only [tsH, List.all_cons, List.all_nil, Bool.and_true, Bool.and_eq_true]
    exact ⟨recC_all rfl ((stpI_top s4 i).L.all fun _ => rfl) rfl, rfl, rfl, rfl, rfl, rfl, rfl, rfl, rfl, rfl, rfl, rfl, rfl, rfl, rfl, rfl, rfl, rfl, rfl, rfl, rfl, rfl, rfl, rfl, rfl, rfl, rfl, rfl, rfl, rfl, rfl, rfl, rfl, rfl, rfl, rfl, rfl, rfl, rfl, rfl⟩
  clear k0 k1 k2 k3 k4 hL0 hL1 hL2 hL3 hnew
  intro i hi RR hR
  have hsi := stpI_top s4 i
  have hLi := hsi.L
  have hLn := (stpI_top s4 (i + 1)).L
  have ei : IntKind.i64.wrap ((i : Int) + 1) = ((i + 1 : Nat) : Int) := by rw [wrap64 (by omega) (by omega)]; rfl
  conv => whnf
  refine Bif.of (fun hc => ?_) fun hc => ?_
  · have hlt : i < 456 := by have := of_decide_eq_true hc; omega
    have hs2 : stp (stpI i a4) = stpI (i + 1) a4 := stpI_succ rfl
    rw [hc]
    conv => whnf
    refine ACalls.useE (t_stepQ _ hsi) [0, 1, 2, 3, 4, 5, 6, 7, 8, 9, 10, 11, 12, 13, 14, 15, 16, 17, 18, 19, 20, 21, 22, 23, 24, 25, 26, 27, 28, 29, 30, 31, 32, 33, 34, 35, 36, 37, 38, 39] rfl (by (conv => whnf); first | done | rfl | (refine renL_rec hLi.flat ?_; (conv => whnf); first | done | rfl)) (by (conv => whnf); try rfl) ?_
    conv => whnf
    rw [hs2]
    conv => whnf
    refine renL_rec hLn.flat ?_
    conv => whnf
    (rw [ei]; exact hR (i + 1) _ _ [] rfl rfl (by omega) (by omega))
  have hi0 : i = 456 := by have := of_decide_eq_false hc; omega
  rw [hc]
  subst hi0
  clear hR ei hLn hi hc
  generalize stpI 456 a4 = z at *
  conv => whnf
  refine ACalls.useE (k5) [0, 1, 2, 3, 4, 5, 6, 7, 8, 9, 10, 11, 12, 13, 14, 15, 16, 17, 18, 19, 20, 21, 22, 23, 24, 25, 26, 27, 28, 29, 30, 31, 32, 33, 34, 35, 36, 37, 38, 39] rfl (by (conv => whnf); first | done | rfl | (refine renL_rec hLi.flat ?_; (conv => whnf); first | done | rfl)) (by (conv => whnf); try rfl) ?_
  conv => whnf
  refine renL_rec hL5.flat ?_
  conv => whnf
  with_reducible refine renL_arr hA ?_
  conv => whnf
  refine Req.of ?_ ?_
  · exact arr_fits hA rfl fun _ => rfl
  conv => whnf
  (with_reducible refine putF_arr hA ?hl ?_; case' hl => exact List.length_replicate ..)
  conv => whnf
  rw [hk]
  conv => whnf
  clear k5 hLi hsi s4 hL4 a0 a1 a2 a3 s0 s1 s2 s3
  refine ALoop.run 2 ?_
  conv => whnf

  refine ALoop.fd (σ := Nat) (fun d => [.int .u8 g, .int .u8 u, .int .u8 y, .chan none, .chan none, .chan none, .chan none, .pointer (some ⟨0, 0, none⟩), .chan none, .pointer (some ⟨40, 0, none⟩), .pointer (some ⟨41, 0, none⟩), .pointer (some ⟨50, 0, none⟩), .int .i64 7, .int .i64 6, .pointer (some ⟨51, 0, none⟩), .int .i64 0, .int .i64 d, .chan none, .chan none, .chan none, .chan none, .chan none, .chan none, .chan none, .chan none, .chan none, .chan none, .chan none, .chan none, .chan none, .chan none, .chan none, .chan none, .chan none, .chan none, .chan none, .chan none, .chan none, .chan none, .chan none, .chan none, .chan none, .chan none, .chan none, .chan none, .chan none, .chan none, .chan none, .chan none, .chan none, .chan none, .chan none, .chan none, .chan none, .chan none, .chan none, .chan none, .chan none, .chan none, .chan none, .chan none, .chan none, .chan none, .chan none, .chan none, .chan none, .chan none, .chan none, .chan none, .chan none, .chan none, .chan none, .chan none, .chan none, .chan none, .chan none, .chan none, .chan none, .chan none, .chan none, .chan none, .chan none, .chan none, .chan none, .chan none, .chan none, .chan none, .chan none, .chan none, .chan none, .chan none, .chan none, .chan none, .chan none, .chan none, .chan none, .chan none, .chan none, .chan none, .chan none, .chan none, .chan none, .chan none, .chan none, .chan none, .chan none, .chan none, .chan none, .chan none, .chan none, .chan none, .chan none, .chan none, .chan none, .chan none, .chan none, .chan none, .chan none, .chan none, .chan none, .chan none, .chan none, .chan none]) (fun d => tsH a5 ++ [.cells (rowL .u8 F 160) 29, .cells [.int .i64 1, .int .i64 1, .int .i64 1, .int .i64 1, .int .i64 1, .int .i64 2, .int .i64 1, .int .i64 4] 38, .cells [.int .i64 0] 3, .cells [.int .i64 0, .int .i64 16] 3, .cells [.int .i64 0, .int .i64 32] 3, .cells [.int .i64 0, .int .i64 16, .int .i64 32] 3, .cells [.int .i64 0, .int .i64 64] 3, .cells [.int .i64 0] 3, .cells [.int .i64 0, .int .i64 32, .int .i64 64] 3, .cells [.int .i64 0] 3, .cells [.slice (some ⟨42, 0, none⟩) 1 1, .slice (some ⟨43, 0, none⟩) 2 2, .slice (some ⟨44, 0, none⟩) 2 2, .slice (some ⟨45, 0, none⟩) 3 3, .slice (some ⟨46, 0, none⟩) 2 2, .slice (some ⟨47, 0, none⟩) 1 1, .slice (some ⟨48, 0, none⟩) 3 3, .slice (some ⟨49, 0, none⟩) 1 1] 40, .cells (rowW (wI 7 P g (32 * 0 + d))) 41]) (fun d => d ≤ 32) (fun d => 32 - d) 0 [] rfl (by rw [show 32 * 0 + 0 = 0 from rfl, wI_zero, ← rowW_zero]; rfl) (by omega) (fun d => ⟨rfl, rfl, ?hok0, rfl⟩) ?_
  case hok0 =>
    simp only [tsH, List.cons_append, List.nil_append, List.all_cons, List.all_nil, Bool.and_true, Bool.and_eq_true]
    exact ⟨recC_all rfl (hL5.all fun _ => rfl) rfl, rfl, rfl, rfl, rfl, rfl, rfl, rfl, rfl, rfl, rfl, rfl, rfl, rfl, rfl, rfl, rfl, rfl, rfl, rfl, rfl, rfl, rfl, rfl, rfl, rfl, rfl, rfl, rfl, rfl, rfl, rfl, rfl, rfl, rfl, rfl, rfl, rfl, rfl, rfl, rowL_all fun _ => rfl, rfl, rfl, rfl, rfl, rfl, rfl, rfl, rfl, rfl, rfl, rowW_all fun _ => rfl⟩
  intro d0 hd R0 hR0
  have ei : IntKind.i64.wrap ((d0 : Int) + 1) = ((d0 + 1 : Nat) : Int) := by rw [wrap64 (by omega) (by omega)]; rfl
  have em : IntKind.i64.wrap (8 * 4) = 32 := by decide
  conv => whnf
  refine Bif.of (fun hc => ?_) fun hc => ?_
  · have hlt : d0 < 32 := by have h := of_decide_eq_true hc; omega
    rw [hc]
    have hraw : (IntKind.i64.wrap (IntKind.i64.wrap (IntKind.i64.wrap ((IntKind.i64.wrap y).tmod 160 + 0) + 6) + (d0 : Int))).tmod 160 = (((P + 0 + 6 + d0) % 160 : Nat) : Int) := by
      rw [hy, wrap64 (n := (P : Int) + 0) (by omega) (by omega), wrap64 (n := (P : Int) + 0 + 6) (by omega) (by omega), wrap64 (by omega) (by omega), Int.tmod_eq_emod_of_nonneg (by omega)]; omega
    have hix : (P + 0 + 6 + d0) % 160 < 160 := Nat.mod_lt _ (by decide)
    by_cases hgr : graphI g false 4 (d0 : Nat) = true
    · have hst : wI 7 P g (32 * 0 + (d0 + 1)) = fun j => wI 7 P g (32 * 0 + d0) j || decide (j = (P + 0 + 6 + d0) % 160) := wI_t (c := 32 * 0 + d0) rfl rfl hlt rfl rfl hgr
      generalize (P + 0 + 6 + d0) % 160 = ix at *
      conv => whnf
      refine ACalls.useE (field_graph _ _ _ _ hg ?_) [] rfl (by (conv => whnf); try rfl) (by (conv => whnf); try rfl) ?_
      · omega
      conv => whnf
      rw [hgr]
      conv => whnf
      rw [hraw]
      conv => whnf
      refine Req.of ?_ ?_
      · (rw [Bool.and_eq_true]; exact ⟨decide_eq_true (by omega), decide_eq_true (by omega)⟩)
      conv => whnf
      with_reducible refine putF_rowW ix (by show 0 + ((ix : Nat) : Int).toNat * 1 = ix; omega) hix hst ?_
      conv => whnf
      (rw [ei]; exact hR0 (d0 + 1) _ _ [] rfl rfl (by omega) (by omega))
    · have hgr2 : graphI g false 4 (d0 : Nat) = false := by simpa using hgr
      have hst : wI 7 P g (32 * 0 + (d0 + 1)) = wI 7 P g (32 * 0 + d0) := wI_f (c := 32 * 0 + d0) rfl rfl hlt rfl rfl hgr2
      conv => whnf
      refine ACalls.useE (field_graph _ _ _ _ hg ?_) [] rfl (by (conv => whnf); try rfl) (by (conv => whnf); try rfl) ?_
      · omega
      conv => whnf
      rw [hgr2]
      conv => whnf
      (rw [ei]; exact hR0 (d0 + 1) _ _ [] rfl (by rw [hst]; rfl) (by omega) (by omega))
  have hd0 : d0 = 32 := by have h := of_decide_eq_false hc; omega
  rw [hc]
  subst hd0
  clear hR0 ei hc hd
  conv => whnf

  refine ALoop.fd (σ := Nat) (fun x => [.int .u8 g, .int .u8 u, .int .u8 y, .chan none, .chan none, .chan none, .chan none, .pointer (some ⟨0, 0, none⟩), .chan none, .pointer (some ⟨40, 0, none⟩), .chan none, .chan none, .chan none, .chan none, .pointer (some ⟨51, 0, none⟩), .chan none, .chan none, .int .i64 x, .chan none, .chan none, .chan none, .chan none, .chan none, .chan none, .chan none, .chan none, .chan none, .chan none, .chan none, .chan none, .chan none, .chan none, .chan none, .chan none, .chan none, .chan none, .chan none, .chan none, .chan none, .chan none, .chan none, .chan none, .chan none, .chan none, .chan none, .chan none, .chan none, .chan none, .chan none, .chan none, .chan none, .chan none, .chan none, .chan none, .chan none, .chan none, .chan none, .chan none, .chan none, .chan none, .chan none, .chan none, .chan none, .chan none, .chan none, .chan none, .chan none, .chan none, .chan none, .chan none, .chan none, .chan none, .chan none, .chan none, .chan none, .chan none, .chan none, .chan none, .chan none, .chan none, .chan none, .chan none, .chan none, .chan none, .chan none, .chan none, .chan none, .chan none, .chan none, .chan none, .chan none, .chan none, .chan none, .chan none, .chan none, .chan none, .chan none, .chan none, .chan none, .chan none, .chan none, .chan none, .chan none, .chan none, .chan none, .chan none, .chan none, .chan none, .chan none, .chan none, .chan none, .chan none, .chan none, .chan none, .chan none, .chan none, .chan none, .chan none, .chan none, .chan none, .chan none, .chan none, .chan none]) (fun x => tsH a5 ++ [.cells (rowL .u8 F 160) 29, .cells [.int .i64 1, .int .i64 1, .int .i64 1, .int .i64 1, .int .i64 1, .int .i64 2, .int .i64 1, .int .i64 4] 38, .cells [.int .i64 0] 3, .cells [.int .i64 0, .int .i64 16] 3, .cells [.int .i64 0, .int .i64 32] 3, .cells [.int .i64 0, .int .i64 16, .int .i64 32] 3, .cells [.int .i64 0, .int .i64 64] 3, .cells [.int .i64 0] 3, .cells [.int .i64 0, .int .i64 32, .int .i64 64] 3, .cells [.int .i64 0] 3, .cells [.slice (some ⟨42, 0, none⟩) 1 1, .slice (some ⟨43, 0, none⟩) 2 2, .slice (some ⟨44, 0, none⟩) 2 2, .slice (some ⟨45, 0, none⟩) 3 3, .slice (some ⟨46, 0, none⟩) 2 2, .slice (some ⟨47, 0, none⟩) 1 1, .slice (some ⟨48, 0, none⟩) 3 3, .slice (some ⟨49, 0, none⟩) 1 1] 40, .cells (rowW (wI 7 P g 32)) 41]) (fun x => x ≤ 160) (fun x => 160 - x) 0 [] rfl rfl (by omega) (fun x => ⟨rfl, rfl, ?hokz, rfl⟩) ?_
  case hokz =>
    simp only [tsH, List.cons_append, List.nil_append, List.all_cons, List.all_nil, Bool.and_true, Bool.and_eq_true]
    exact ⟨recC_all rfl (hL5.all fun _ => rfl) rfl, rfl, rfl, rfl, rfl, rfl, rfl, rfl, rfl, rfl, rfl, rfl, rfl, rfl, rfl, rfl, rfl, rfl, rfl, rfl, rfl, rfl, rfl, rfl, rfl, rfl, rfl, rfl, rfl, rfl, rfl, rfl, rfl, rfl, rfl, rfl, rfl, rfl, rfl, rfl, rowL_all fun _ => rfl, rfl, rfl, rfl, rfl, rfl, rfl, rfl, rfl, rfl, rfl, rowW_all fun _ => rfl⟩
  intro x hx Rx hRx
  have ei : IntKind.i64.wrap ((x : Int) + 1) = ((x + 1 : Nat) : Int) := by rw [wrap64 (by omega) (by omega)]; rfl
  conv => whnf
  refine Bif.of (fun hc => ?_) fun hc => ?_
  · have hlt : x < 160 := by have h := of_decide_eq_true hc; omega
    rw [hc]
    have hFx := hF x hlt
    by_cases hcw : wI 7 P g 32 x = true
    · rw [if_pos hcw] at hFx
      conv => whnf
      refine Req.of ?_ ?_
      · (rw [Bool.and_eq_true]; exact ⟨decide_eq_true (by omega), decide_eq_true (by omega)⟩)
      conv => whnf
      with_reducible refine getF_rowL x (by show 0 + (x : Int).toNat * 1 = x; omega) hlt ?_
      conv => whnf
      rw [hFx]
      conv => whnf
      refine Req.of ?_ ?_
      · (rw [Bool.and_eq_true]; exact ⟨decide_eq_true (by omega), decide_eq_true (by omega)⟩)
      conv => whnf
      with_reducible refine getF_rowW x (by show 0 + (x : Int).toNat * 1 = x; omega) hlt ?_
      conv => whnf
      rw [hcw]
      conv => whnf
      refine Req.of ?_ ?_
      · (rw [Bool.and_eq_true]; exact ⟨decide_eq_true (by omega), decide_eq_true (by omega)⟩)
      conv => whnf
      with_reducible refine getF_rowL x (by show 0 + (x : Int).toNat * 1 = x; omega) hlt ?_
      conv => whnf
      rw [hFx]
      conv => whnf
      (rw [ei]; exact hRx (x + 1) _ _ [] rfl rfl (by omega) (by omega))
    · have hcw2 : wI 7 P g 32 x = false := by simpa using hcw
      rw [if_neg hcw] at hFx
      conv => whnf
      refine Req.of ?_ ?_
      · (rw [Bool.and_eq_true]; exact ⟨decide_eq_true (by omega), decide_eq_true (by omega)⟩)
      conv => whnf
      with_reducible refine getF_rowL x (by show 0 + (x : Int).toNat * 1 = x; omega) hlt ?_
      conv => whnf
      rw [hFx]
      conv => whnf
      refine Req.of ?_ ?_
      · (rw [Bool.and_eq_true]; exact ⟨decide_eq_true (by omega), decide_eq_true (by omega)⟩)
      conv => whnf
      with_reducible refine getF_rowW x (by show 0 + (x : Int).toNat * 1 = x; omega) hlt ?_
      conv => whnf
      rw [hcw2]
      conv => whnf
      refine Req.of ?_ ?_
      · (rw [Bool.and_eq_true]; exact ⟨decide_eq_true (by omega), decide_eq_true (by omega)⟩)
      conv => whnf
      with_reducible refine getF_rowL x (by show 0 + (x : Int).toNat * 1 = x; omega) hlt ?_
      conv => whnf
      rw [hFx]
      conv => whnf
      refine Req.of ?_ ?_
      · (rw [Bool.and_eq_true]; exact ⟨decide_eq_true (by omega), decide_eq_true (by omega)⟩)
      conv => whnf
      with_reducible refine getF_rowL x (by show 0 + (x : Int).toNat * 1 = x; omega) hlt ?_
      conv => whnf
      rw [hFx]
      conv => whnf
      (rw [ei]; exact hRx (x + 1) _ _ [] rfl rfl (by omega) (by omega))
  · rw [hc]
    clear hRx
    conv => whnf
end Go.Proofs
