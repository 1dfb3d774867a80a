/-
  Walks through the functions of the program, by contract.
-/
import Derived.Test.YtmdiokmkokjpiaaGreatZrF
set_option linter.all false
set_option linter.unusedVariables false
set_option linter.unusedSimpArgs false
set_option linter.unnecessarySimpa false
namespace Go.Proofs
open Go.Aw
set_option maxRecDepth 100000
set_option maxHeartbeats 8000000
def tsA2 : List Value := [.pointer (some ⟨3, 0, none⟩), .pointer (some ⟨4, 0, none⟩), .pointer (some ⟨5, 0, none⟩), .pointer (some ⟨6, 0, none⟩), .pointer (some ⟨7, 0, none⟩), .pointer (some ⟨8, 0, none⟩), .pointer (some ⟨9, 0, none⟩), .pointer (some ⟨10, 0, none⟩), .pointer (some ⟨11, 0, none⟩), .pointer (some ⟨12, 0, none⟩)]
/-- The chip's heap behind two other blocks. -/
def tsH2 (s : TS) : List Blk := [.cells (recC tsA2 s.L (tsR s)) 61, .cells [.pointer (some ⟨13, 0, none⟩), .pointer (some ⟨14, 0, none⟩), .bool s.late] 93, s.m.blk, .cells [.pointer (some ⟨15, 0, none⟩), .int .u16 (s.t0.ln : Nat), .int .i64 (s.t0.sc : Nat)] 104, .cells [.pointer (some ⟨16, 0, none⟩), .int .u16 (s.t1.ln : Nat), .int .i64 (s.t1.sc : Nat)] 104, .cells [.pointer (some ⟨17, 0, none⟩), .int .u16 (s.t2.ln : Nat), .int .i64 (s.t2.sc : Nat)] 104, .cells [.pointer (some ⟨18, 0, none⟩), .int .u16 (s.t3.ln : Nat), .int .i64 (s.t3.sc : Nat)] 104, .cells [.pointer (some ⟨19, 0, none⟩), .int .u16 (s.t4.ln : Nat), .int .i64 (s.t4.sc : Nat)] 104, .cells [.int .u8 0, .int .u8 0, .int .u8 0, .pointer (some ⟨20, 0, none⟩), .pointer (some ⟨21, 0, none⟩), .pointer (some ⟨22, 0, none⟩), .int .i64 0, .bool s.v0.h] 110, .cells [.int .u8 0, .int .u8 0, .int .u8 0, .pointer (some ⟨23, 0, none⟩), .pointer (some ⟨24, 0, none⟩), .pointer (some ⟨25, 0, none⟩), .int .i64 0, .bool s.v1.h] 110, ptB s.q, .cells [.int .i64 (s.c % 4 : Nat), .int .i64 4] 120, .cells [.pointer (some ⟨26, 0, none⟩), .int .u8 20, .int .i64 57] 122, .cells [.pointer (some ⟨27, 0, none⟩), .pointer (some ⟨28, 0, none⟩)] 125, .cells [.pointer (some ⟨29, 0, none⟩), .pointer (some ⟨30, 0, none⟩)] 125, .cells [.pointer (some ⟨31, 0, none⟩), .pointer (some ⟨32, 0, none⟩)] 125, .cells [.pointer (some ⟨33, 0, none⟩), .pointer (some ⟨34, 0, none⟩)] 125, .cells [.pointer (some ⟨35, 0, none⟩), .pointer (some ⟨36, 0, none⟩)] 125, .cells [.int .u8 s.v0.a, .int .i64 4, .int .i64 1] 127, .cells [.int .u8 s.v0.b, .int .i64 5, .int .i64 2] 127, .cells [.int .u16 0, .int .i64 9, .int .i64 4] 129, .cells [.int .u8 s.v1.a, .int .i64 4, .int .i64 1] 127, .cells [.int .u8 s.v1.b, .int .i64 5, .int .i64 2] 127, .cells [.int .u16 0, .int .i64 9, .int .i64 4] 129, .cells [.int .u8 (mk (s.c / 4)), .int .i64 6, .int .i64 1] 127, .cells [.int .i64 (s.t0.p % 4 : Nat), .int .i64 4] 120, .cells [.pointer (some ⟨37, 0, none⟩), .int .u8 45, .int .i64 40] 122, .cells [.int .i64 (s.t1.p % 4 : Nat), .int .i64 4] 120, .cells [.pointer (some ⟨38, 0, none⟩), .int .u8 45, .int .i64 40] 122, .cells [.int .i64 (s.t2.p % 4 : Nat), .int .i64 4] 120, .cells [.pointer (some ⟨39, 0, none⟩), .int .u8 45, .int .i64 40] 122, .cells [.int .i64 (s.t3.p % 4 : Nat), .int .i64 4] 120, .cells [.pointer (some ⟨40, 0, none⟩), .int .u8 45, .int .i64 40] 122, .cells [.int .i64 (s.t4.p % 4 : Nat), .int .i64 4] 120, .cells [.pointer (some ⟨41, 0, none⟩), .int .u8 45, .int .i64 40] 122, .cells [.int .u8 (mk (s.t0.p / 4)), .int .i64 6, .int .i64 1] 127, .cells [.int .u8 (mk (s.t1.p / 4)), .int .i64 6, .int .i64 1] 127, .cells [.int .u8 (mk (s.t2.p / 4)), .int .i64 6, .int .i64 1] 127, .cells [.int .u8 (mk (s.t3.p / 4)), .int .i64 6, .int .i64 1] 127, .cells [.int .u8 (mk (s.t4.p / 4)), .int .i64 6, .int .i64 1] 127]
theorem litF_byte {n : Int} (h : (Lit.int .u8 n).wf = true) : 0 ≤ n ∧ n ≤ 255 := by have := wf_u8 h; omega
@[irreducible] def sel4 (a b c d : Int) (j : Nat) : Int := if j = 0 then a else if j = 1 then b else if j = 2 then c else d
theorem getF_sel4 {a b c d : Int} {q : IntKind} {o : Nat} (j : Nat) (ho : o = j) (hj : j ≤ 3) {k : Value → Prop} (hk : k (.int q (sel4 a b c d j))) : getF [.int q a, .int q b, .int q c, .int q d] o k := by
  subst ho
  unfold sel4 at hk
  have h : o = 0 ∨ o = 1 ∨ o = 2 ∨ o = 3 := by omega
  rcases h with rfl | rfl | rfl | rfl <;> exact hk
theorem getF_rowL {q : IntKind} {f : Nat → Int} {n o : Nat} (j : Nat) (ho : o = j) (hj : j < n) {k : Value → Prop} (hk : k (.int q (f j))) : getF (rowL q f n) o k := by
  subst ho; exact getF_of (rowL_get hj) hk
theorem renL_rowL {q : IntKind} {f : Nat → Int} {n d : Nat} {τ : List Nat} {k : List Value → Prop} (hk : k (rowL q f n)) : renL (renV (d + 1) τ) (rowL q f n).toArray.toList k := renL_flatC (List.all_eq_true.1 (rowL_all fun _ => rfl)) hk
/-- Which colour the field alone has at a pixel. -/
@[irreducible] def sfN (p0 p1 p2 c : Int) (x : Nat) : Nat := (seenB false false false false false (litI p0 p1 p2 c x) (fA c) (fS c) (decide ((x : Int) < 80))).toNat
theorem sfN_le (p0 p1 p2 c : Int) (x : Nat) : sfN p0 p1 p2 c x ≤ 3 := by
  have := seen_bd false false false false false (litI p0 p1 p2 c x) (fA c) (fS c) (decide ((x : Int) < 80))
  unfold sfN; omega
theorem field_seenK (p0 p1 p2 c : Int) (x : Nat) (hc : 0 ≤ c ∧ c ≤ 255) : ACalls Tryz.prog 11 [.agg #[.bool false, .bool false, .bool false, .bool false, .bool false, .bool (litI p0 p1 p2 c x)], .int .u8 c, .int .i64 x] [] fun r H => r = .int .i64 (sfN p0 p1 p2 c x : Nat) ∧ H = [] := by
  have h := field_seen false false false false false (litI p0 p1 p2 c x) c x hc
  have e : ((sfN p0 p1 p2 c x : Nat) : Int) = seenB false false false false false (litI p0 p1 p2 c x) (fA c) (fS c) (decide ((x : Int) < 80)) := by
    have := seen_bd false false false false false (litI p0 p1 p2 c x) (fA c) (fS c) (decide ((x : Int) < 80))
    unfold sfN; omega
  rw [e]; exact h
/-- The pixel that the field alone shows. -/
@[irreducible] def tfP (p0 p1 p2 c c0 c1 c2 c3 : Int) (x : Nat) : Int := bits .andNot .u8 (sel4 c0 c1 c2 c3 (sfN p0 p1 p2 c x)) 1
theorem tfieldG (p0 p1 p2 ct c0 c1 c2 c3 : Int) (h0 : 0 ≤ p0 ∧ p0 ≤ 255) (h1 : 0 ≤ p1 ∧ p1 ≤ 255) (h2 : 0 ≤ p2 ∧ p2 ≤ 255) (hct : 0 ≤ ct ∧ ct ≤ 255)
    (a0 a1 a2 a3 a4 a5 a6 a7 : TS) (qs : Nat → TS) (s0 : a0.Top) (s1 : a1.Top) (s2 : a2.Top) (s3 : a3.Top) (s4 : a4.Top) (s5 : a5.Top) (s6 : a6.Top) (s7 : a7.Top) (sq : ∀ n, (qs n).Top)
    (k0 : ACalls Tryz.prog 7 [.int .i64 0] [] fun v H => v = .pointer (some ⟨0, 0, none⟩) ∧ H = tsH a0)
    (k1 : ACalls Tryz.prog 8 [.pointer (some ⟨0, 0, none⟩), .int .u16 13, .int .u8 p0] (tsH a0) fun r H => r = .tuple #[] ∧ H = tsH a1)
    (k2 : ACalls Tryz.prog 8 [.pointer (some ⟨0, 0, none⟩), .int .u16 14, .int .u8 p1] (tsH a1) fun r H => r = .tuple #[] ∧ H = tsH a2)
    (k3 : ACalls Tryz.prog 8 [.pointer (some ⟨0, 0, none⟩), .int .u16 15, .int .u8 p2] (tsH a2) fun r H => r = .tuple #[] ∧ H = tsH a3)
    (k4 : ACalls Tryz.prog 8 [.pointer (some ⟨0, 0, none⟩), .int .u16 6, .int .u8 c0] (tsH a3) fun r H => r = .tuple #[] ∧ H = tsH a4)
    (k5 : ACalls Tryz.prog 8 [.pointer (some ⟨0, 0, none⟩), .int .u16 7, .int .u8 c1] (tsH a4) fun r H => r = .tuple #[] ∧ H = tsH a5)
    (k6 : ACalls Tryz.prog 8 [.pointer (some ⟨0, 0, none⟩), .int .u16 8, .int .u8 c2] (tsH a5) fun r H => r = .tuple #[] ∧ H = tsH a6)
    (k7 : ACalls Tryz.prog 8 [.pointer (some ⟨0, 0, none⟩), .int .u16 9, .int .u8 c3] (tsH a6) fun r H => r = .tuple #[] ∧ H = tsH a7)
    (k8 : ACalls Tryz.prog 8 [.pointer (some ⟨0, 0, none⟩), .int .u16 10, .int .u8 ct] (tsH a7) fun r H => r = .tuple #[] ∧ H = tsH (qs 0))
    (ks : ∀ n, ACalls Tryz.prog 9 [.pointer (some ⟨0, 0, none⟩)] (tsH (qs n)) fun v H => v = .agg (rowL .u8 (tfP p0 p1 p2 ct c0 c1 c2 c3) 160).toArray ∧ H = tsH (qs (n + 1))) :
    ACalls Tryz.prog 3 [.agg #[.int .u8 p0, .int .u8 p1, .int .u8 p2], .int .u8 ct, .agg #[.int .u8 c0, .int .u8 c1, .int .u8 c2, .int .u8 c3]] [] fun v _ => v = .bool true := by
  have hL0 := s0.L
  have hL1 := s1.L
  have hL2 := s2.L
  have hL3 := s3.L
  have hL4 := s4.L
  have hL5 := s5.L
  have hL6 := s6.L
  have hL7 := s7.L
  have hL8 := (sq 0).L
  refine ACalls.code tabOk h3 Tryz.func3 Tryz.call3 ok3 ?_
  conv => whnf
  refine ACalls.useE (t_draws) [] rfl (by (conv => whnf); first | done | rfl | (refine renL_rec hL0.flat ?_; (conv => whnf); first | done | rfl) | (refine renL_rec hL1.flat ?_; (conv => whnf); first | done | rfl) | (refine renL_rec hL2.flat ?_; (conv => whnf); first | done | rfl) | (refine renL_rec hL3.flat ?_; (conv => whnf); first | done | rfl) | (refine renL_rec hL4.flat ?_; (conv => whnf); first | done | rfl) | (refine renL_rec hL5.flat ?_; (conv => whnf); first | done | rfl) | (refine renL_rec hL6.flat ?_; (conv => whnf); first | done | rfl) | (refine renL_rec hL7.flat ?_; (conv => whnf); first | done | rfl) | (refine renL_rec hL8.flat ?_; (conv => whnf); first | done | rfl)) (by (conv => whnf); try rfl) ?_
  conv => whnf
  refine ACalls.useE (k0) [] rfl (by (conv => whnf); first | done | rfl | (refine renL_rec hL0.flat ?_; (conv => whnf); first | done | rfl) | (refine renL_rec hL1.flat ?_; (conv => whnf); first | done | rfl) | (refine renL_rec hL2.flat ?_; (conv => whnf); first | done | rfl) | (refine renL_rec hL3.flat ?_; (conv => whnf); first | done | rfl) | (refine renL_rec hL4.flat ?_; (conv => whnf); first | done | rfl) | (refine renL_rec hL5.flat ?_; (conv => whnf); first | done | rfl) | (refine renL_rec hL6.flat ?_; (conv => whnf); first | done | rfl) | (refine renL_rec hL7.flat ?_; (conv => whnf); first | done | rfl) | (refine renL_rec hL8.flat ?_; (conv => whnf); first | done | rfl)) (by (conv => whnf); try rfl) ?_
  conv => whnf
  refine renL_rec hL0.flat ?_
  conv => whnf
  refine ALoop.run 4 ?_
  conv => whnf
  refine ACalls.useE (k1) [2, 3, 4, 5, 6, 7, 8, 9, 10, 11, 12, 13, 14, 15, 16, 17, 18, 19, 20, 21, 22, 23, 24, 25, 26, 27, 28, 29, 30, 31, 32, 33, 34, 35, 36, 37, 38, 39, 40, 41] rfl (by (conv => whnf); first | done | rfl | (refine renL_rec hL0.flat ?_; (conv => whnf); first | done | rfl) | (refine renL_rec hL1.flat ?_; (conv => whnf); first | done | rfl) | (refine renL_rec hL2.flat ?_; (conv => whnf); first | done | rfl) | (refine renL_rec hL3.flat ?_; (conv => whnf); first | done | rfl) | (refine renL_rec hL4.flat ?_; (conv => whnf); first | done | rfl) | (refine renL_rec hL5.flat ?_; (conv => whnf); first | done | rfl) | (refine renL_rec hL6.flat ?_; (conv => whnf); first | done | rfl) | (refine renL_rec hL7.flat ?_; (conv => whnf); first | done | rfl) | (refine renL_rec hL8.flat ?_; (conv => whnf); first | done | rfl)) (by (conv => whnf); try rfl) ?_
  conv => whnf
  refine renL_rec hL1.flat ?_
  conv => whnf
  refine ACalls.useE (k2) [2, 3, 4, 5, 6, 7, 8, 9, 10, 11, 12, 13, 14, 15, 16, 17, 18, 19, 20, 21, 22, 23, 24, 25, 26, 27, 28, 29, 30, 31, 32, 33, 34, 35, 36, 37, 38, 39, 40, 41] rfl (by (conv => whnf); first | done | rfl | (refine renL_rec hL0.flat ?_; (conv => whnf); first | done | rfl) | (refine renL_rec hL1.flat ?_; (conv => whnf); first | done | rfl) | (refine renL_rec hL2.flat ?_; (conv => whnf); first | done | rfl) | (refine renL_rec hL3.flat ?_; (conv => whnf); first | done | rfl) | (refine renL_rec hL4.flat ?_; (conv => whnf); first | done | rfl) | (refine renL_rec hL5.flat ?_; (conv => whnf); first | done | rfl) | (refine renL_rec hL6.flat ?_; (conv => whnf); first | done | rfl) | (refine renL_rec hL7.flat ?_; (conv => whnf); first | done | rfl) | (refine renL_rec hL8.flat ?_; (conv => whnf); first | done | rfl)) (by (conv => whnf); try rfl) ?_
  conv => whnf
  refine renL_rec hL2.flat ?_
  conv => whnf
  refine ACalls.useE (k3) [2, 3, 4, 5, 6, 7, 8, 9, 10, 11, 12, 13, 14, 15, 16, 17, 18, 19, 20, 21, 22, 23, 24, 25, 26, 27, 28, 29, 30, 31, 32, 33, 34, 35, 36, 37, 38, 39, 40, 41] rfl (by (conv => whnf); first | done | rfl | (refine renL_rec hL0.flat ?_; (conv => whnf); first | done | rfl) | (refine renL_rec hL1.flat ?_; (conv => whnf); first | done | rfl) | (refine renL_rec hL2.flat ?_; (conv => whnf); first | done | rfl) | (refine renL_rec hL3.flat ?_; (conv => whnf); first | done | rfl) | (refine renL_rec hL4.flat ?_; (conv => whnf); first | done | rfl) | (refine renL_rec hL5.flat ?_; (conv => whnf); first | done | rfl) | (refine renL_rec hL6.flat ?_; (conv => whnf); first | done | rfl) | (refine renL_rec hL7.flat ?_; (conv => whnf); first | done | rfl) | (refine renL_rec hL8.flat ?_; (conv => whnf); first | done | rfl)) (by (conv => whnf); try rfl) ?_
  conv => whnf
  refine renL_rec hL3.flat ?_
  conv => whnf
  refine ALoop.run 5 ?_
  conv => whnf
  refine ACalls.useE (k4) [2, 3, 4, 5, 6, 7, 8, 9, 10, 11, 12, 13, 14, 15, 16, 17, 18, 19, 20, 21, 22, 23, 24, 25, 26, 27, 28, 29, 30, 31, 32, 33, 34, 35, 36, 37, 38, 39, 40, 41] rfl (by (conv => whnf); first | done | rfl | (refine renL_rec hL0.flat ?_; (conv => whnf); first | done | rfl) | (refine renL_rec hL1.flat ?_; (conv => whnf); first | done | rfl) | (refine renL_rec hL2.flat ?_; (conv => whnf); first | done | rfl) | (refine renL_rec hL3.flat ?_; (conv => whnf); first | done | rfl) | (refine renL_rec hL4.flat ?_; (conv => whnf); first | done | rfl) | (refine renL_rec hL5.flat ?_; (conv => whnf); first | done | rfl) | (refine renL_rec hL6.flat ?_; (conv => whnf); first | done | rfl) | (refine renL_rec hL7.flat ?_; (conv => whnf); first | done | rfl) | (refine renL_rec hL8.flat ?_; (conv => whnf); first | done | rfl)) (by (conv => whnf); try rfl) ?_
  conv => whnf
  refine renL_rec hL4.flat ?_
  conv => whnf
  refine ACalls.useE (k5) [2, 3, 4, 5, 6, 7, 8, 9, 10, 11, 12, 13, 14, 15, 16, 17, 18, 19, 20, 21, 22, 23, 24, 25, 26, 27, 28, 29, 30, 31, 32, 33, 34, 35, 36, 37, 38, 39, 40, 41] rfl (by (conv => whnf); first | done | rfl | (refine renL_rec hL0.flat ?_; (conv => whnf); first | done | rfl) | (refine renL_rec hL1.flat ?_; (conv => whnf); first | done | rfl) | (refine renL_rec hL2.flat ?_; (conv => whnf); first | done | rfl) | (refine renL_rec hL3.flat ?_; (conv => whnf); first | done | rfl) | (refine renL_rec hL4.flat ?_; (conv => whnf); first | done | rfl) | (refine renL_rec hL5.flat ?_; (conv => whnf); first | done | rfl) | (refine renL_rec hL6.flat ?_; (conv => whnf); first | done | rfl) | (refine renL_rec hL7.flat ?_; (conv => whnf); first | done | rfl) | (refine renL_rec hL8.flat ?_; (conv => whnf); first | done | rfl)) (by (conv => whnf); try rfl) ?_
  conv => whnf
  refine renL_rec hL5.flat ?_
  conv => whnf
  refine ACalls.useE (k6) [2, 3, 4, 5, 6, 7, 8, 9, 10, 11, 12, 13, 14, 15, 16, 17, 18, 19, 20, 21, 22, 23, 24, 25, 26, 27, 28, 29, 30, 31, 32, 33, 34, 35, 36, 37, 38, 39, 40, 41] rfl (by (conv => whnf); first | done | rfl | (refine renL_rec hL0.flat ?_; (conv => whnf); first | done | rfl) | (refine renL_rec hL1.flat ?_; (conv => whnf); first | done | rfl) | (refine renL_rec hL2.flat ?_; (conv => whnf); first | done | rfl) | (refine renL_rec hL3.flat ?_; (conv => whnf); first | done | rfl) | (refine renL_rec hL4.flat ?_; (conv => whnf); first | done | rfl) | (refine renL_rec hL5.flat ?_; (conv => whnf); first | done | rfl) | (refine renL_rec hL6.flat ?_; (conv => whnf); first | done | rfl) | (refine renL_rec hL7.flat ?_; (conv => whnf); first | done | rfl) | (refine renL_rec hL8.flat ?_; (conv => whnf); first | done | rfl)) (by (conv => whnf); try rfl) ?_
  conv => whnf
  refine renL_rec hL6.flat ?_
  conv => whnf
  refine ACalls.useE (k7) [2, 3, 4, 5, 6, 7, 8, 9, 10, 11, 12, 13, 14, 15, 16, 17, 18, 19, 20, 21, 22, 23, 24, 25, 26, 27, 28, 29, 30, 31, 32, 33, 34, 35, 36, 37, 38, 39, 40, 41] rfl (by (conv => whnf); first | done | rfl | (refine renL_rec hL0.flat ?_; (conv => whnf); first | done | rfl) | (refine renL_rec hL1.flat ?_; (conv => whnf); first | done | rfl) | (refine renL_rec hL2.flat ?_; (conv => whnf); first | done | rfl) | (refine renL_rec hL3.flat ?_; (conv => whnf); first | done | rfl) | (refine renL_rec hL4.flat ?_; (conv => whnf); first | done | rfl) | (refine renL_rec hL5.flat ?_; (conv => whnf); first | done | rfl) | (refine renL_rec hL6.flat ?_; (conv => whnf); first | done | rfl) | (refine renL_rec hL7.flat ?_; (conv => whnf); first | done | rfl) | (refine renL_rec hL8.flat ?_; (conv => whnf); first | done | rfl)) (by (conv => whnf); try rfl) ?_
  conv => whnf
  refine renL_rec hL7.flat ?_
  conv => whnf
  refine ACalls.useE (k8) [2, 3, 4, 5, 6, 7, 8, 9, 10, 11, 12, 13, 14, 15, 16, 17, 18, 19, 20, 21, 22, 23, 24, 25, 26, 27, 28, 29, 30, 31, 32, 33, 34, 35, 36, 37, 38, 39, 40, 41] rfl (by (conv => whnf); first | done | rfl | (refine renL_rec hL0.flat ?_; (conv => whnf); first | done | rfl) | (refine renL_rec hL1.flat ?_; (conv => whnf); first | done | rfl) | (refine renL_rec hL2.flat ?_; (conv => whnf); first | done | rfl) | (refine renL_rec hL3.flat ?_; (conv => whnf); first | done | rfl) | (refine renL_rec hL4.flat ?_; (conv => whnf); first | done | rfl) | (refine renL_rec hL5.flat ?_; (conv => whnf); first | done | rfl) | (refine renL_rec hL6.flat ?_; (conv => whnf); first | done | rfl) | (refine renL_rec hL7.flat ?_; (conv => whnf); first | done | rfl) | (refine renL_rec hL8.flat ?_; (conv => whnf); first | done | rfl)) (by (conv => whnf); try rfl) ?_
  conv => whnf
  refine renL_rec hL8.flat ?_
  conv => whnf
  refine ALoop.fd (σ := Nat) (fun n => [.chan none, .int .u8 ct, .chan none, .pointer (some ⟨0, 0, none⟩), .chan none, .pointer (some ⟨1, 0, none⟩), .chan none, .pointer (some ⟨2, 0, none⟩), .chan none, .chan none, .int .i64 n, .chan none, .chan none, .chan none, .chan none, .chan none, .chan none, .chan none, .chan none, .chan none, .chan none, .chan none, .chan none, .chan none, .chan none, .chan none, .chan none, .chan none, .chan none, .chan none, .chan none, .chan none, .chan none, .chan none, .chan none, .chan none, .chan none, .chan none, .chan none, .chan none, .chan none, .chan none, .chan none, .chan none, .chan none, .chan none, .chan none, .chan none, .chan none, .chan none, .chan none, .chan none, .chan none, .chan none, .chan none, .chan none, .chan none, .chan none, .chan none, .chan none, .chan none, .chan none, .chan none, .chan none, .chan none, .chan none, .chan none, .chan none, .chan none, .chan none]) (fun n => [.cells [.int .u8 p0, .int .u8 p1, .int .u8 p2] 22, .cells [.int .u8 c0, .int .u8 c1, .int .u8 c2, .int .u8 c3] 23] ++ tsH2 (qs n)) (fun n => n ≤ 2) (fun n => 2 - n) 0 [] rfl rfl (by omega) (fun n => ⟨rfl, rfl, ?hok, rfl⟩) ?_
  case hok =>
    simp only [tsH2, List.cons_append, List.nil_append, List.all_cons, List.all_nil, Bool.and_true, Bool.and_eq_true]
    exact ⟨rfl, rfl, recC_all rfl ((sq n).L.all fun _ => rfl) rfl, rfl, rfl, rfl, rfl, rfl, rfl, rfl, rfl, rfl, rfl, rfl, rfl, rfl, rfl, rfl, rfl, rfl, rfl, rfl, rfl, rfl, rfl, rfl, rfl, rfl, rfl, rfl, rfl, rfl, rfl, rfl, rfl, rfl, rfl, rfl, rfl, rfl, rfl, rfl⟩
  clear k0 k1 k2 k3 k4 k5 k6 k7 k8 hL0 hL1 hL2 hL3 hL4 hL5 hL6 hL7 hL8 s0 s1 s2 s3 s4 s5 s6 s7
  intro n hn R hR
  have hLa := (sq n).L
  have hLb := (sq (n + 1)).L
  have ei : IntKind.i64.wrap ((n : Int) + 1) = ((n + 1 : Nat) : Int) := by rw [wrap64 (by omega) (by omega)]; rfl
  conv => whnf
  refine Bif.of (fun hc => ?_) fun hc => ?_
  · have hlt : n < 2 := by have := of_decide_eq_true hc; omega
    rw [hc]
    conv => whnf
    refine ACalls.useE ((ks _)) [2, 3, 4, 5, 6, 7, 8, 9, 10, 11, 12, 13, 14, 15, 16, 17, 18, 19, 20, 21, 22, 23, 24, 25, 26, 27, 28, 29, 30, 31, 32, 33, 34, 35, 36, 37, 38, 39, 40, 41] rfl (by (conv => whnf); first | done | rfl | (refine renL_rec hLa.flat ?_; (conv => whnf); first | done | rfl)) (by (conv => whnf); try rfl) ?_
    conv => whnf
    refine renL_rec hLb.flat ?_
    conv => whnf
    refine renL_rowL ?_
    conv => whnf
    refine Req.of ?_ ?_
    · exact row_fits _ _ _ _ rfl fun _ => rfl
    conv => whnf
    refine putF_rowall (List.length_replicate ..) ?_
    conv => whnf
    refine ALoop.fd (σ := Nat) (fun x => [.chan none, .int .u8 ct, .chan none, .pointer (some ⟨0, 0, none⟩), .chan none, .pointer (some ⟨1, 0, none⟩), .chan none, .pointer (some ⟨2, 0, none⟩), .chan none, .chan none, .int .i64 n, .pointer (some ⟨42, 0, none⟩), .int .i64 x, .chan none, .chan none, .chan none, .chan none, .chan none, .chan none, .chan none, .chan none, .chan none, .chan none, .chan none, .chan none, .chan none, .chan none, .chan none, .chan none, .chan none, .chan none, .chan none, .chan none, .chan none, .chan none, .chan none, .chan none, .chan none, .chan none, .chan none, .chan none, .chan none, .chan none, .chan none, .chan none, .chan none, .chan none, .chan none, .chan none, .chan none, .chan none, .chan none, .chan none, .chan none, .chan none, .chan none, .chan none, .chan none, .chan none, .chan none, .chan none, .chan none, .chan none, .chan none, .chan none, .chan none, .chan none, .chan none, .chan none, .chan none]) (fun x => [.cells [.int .u8 p0, .int .u8 p1, .int .u8 p2] 22, .cells [.int .u8 c0, .int .u8 c1, .int .u8 c2, .int .u8 c3] 23] ++ (tsH2 (qs (n + 1)) ++ [.cells (rowL .u8 (tfP p0 p1 p2 ct c0 c1 c2 c3) 160) 29])) (fun x => x ≤ 160) (fun x => 160 - x) 0 [] rfl rfl (by omega) (fun x => ⟨rfl, rfl, ?hok2, rfl⟩) ?_
    case hok2 =>
      simp only [tsH2, List.cons_append, List.nil_append, List.all_cons, List.all_nil, Bool.and_true, Bool.and_eq_true]
      exact ⟨rfl, rfl, recC_all rfl (hLb.all fun _ => rfl) rfl, rfl, rfl, rfl, rfl, rfl, rfl, rfl, rfl, rfl, rfl, rfl, rfl, rfl, rfl, rfl, rfl, rfl, rfl, rfl, rfl, rfl, rfl, rfl, rfl, rfl, rfl, rfl, rfl, rfl, rfl, rfl, rfl, rfl, rfl, rfl, rfl, rfl, rfl, rfl, rowL_all fun _ => rfl⟩
    intro x hx R2 hR2
    have ei2 : IntKind.i64.wrap ((x : Int) + 1) = ((x + 1 : Nat) : Int) := by rw [wrap64 (by omega) (by omega)]; rfl
    conv => whnf
    refine Bif.of (fun hc2 => ?_) fun hc2 => ?_
    · have hlx : x < 160 := by have := of_decide_eq_true hc2; omega
      have hk3 := sfN_le p0 p1 p2 ct x
      have hP : (tfP p0 p1 p2 ct c0 c1 c2 c3 x != bits .andNot .u8 (sel4 c0 c1 c2 c3 (sfN p0 p1 p2 ct x)) 1) = false := by unfold tfP; simp
      rw [hc2]
      clear ks sq hR
      conv => whnf
      refine ACalls.useE (field_lit _ _ _ _ _ h0 h1 h2) [] rfl (by (conv => whnf); try rfl) (by (conv => whnf); try rfl) ?_
      conv => whnf
      refine Req.of ?_ ?_
      · (rw [Bool.and_eq_true]; exact ⟨decide_eq_true (by omega), decide_eq_true (by omega)⟩)
      conv => whnf
      refine getF_rowL x (by show 0 + (x : Int).toNat * 1 = x; omega) hlx ?_
      conv => whnf
      refine ACalls.useE (field_seenK _ _ _ _ _ hct) [] rfl (by (conv => whnf); try rfl) (by (conv => whnf); try rfl) ?_
      conv => whnf
      refine getF_rowL x (by show 0 + (x : Int).toNat * 1 = x; omega) hlx ?_
      conv => whnf
      refine ⟨rfl, ?_⟩
      conv => whnf
      refine Req.of ?_ ?_
      · (rw [Bool.and_eq_true]; exact ⟨decide_eq_true (by omega), decide_eq_true (by omega)⟩)
      conv => whnf
      refine getF_sel4 (sfN p0 p1 p2 ct x) (by show 0 + ((sfN p0 p1 p2 ct x : Nat) : Int).toNat * 1 = _; omega) hk3 ?_
      conv => whnf
      rw [hP]
      conv => whnf
      (rw [ei2]; exact hR2 (x + 1) _ _ _ rfl rfl (by omega) (by omega))
    · have hx2 : x = 160 := by have := of_decide_eq_false hc2; omega
      rw [hc2]
      conv => whnf
      (rw [ei]; exact hR (n + 1) _ _ [_] rfl rfl (by omega) (by omega))
  · rw [hc]
    conv => whnf
end Go.Proofs
