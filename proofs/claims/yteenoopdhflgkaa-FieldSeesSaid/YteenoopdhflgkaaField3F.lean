/-
  Walks through the functions of the program, by contract.
-/
import Derived.Test.YteenoopdhflgkaaField2F
set_option linter.all false
set_option linter.unusedVariables false
set_option linter.unusedSimpArgs false
set_option linter.unnecessarySimpa false
namespace Go.Proofs
open Go.Aw
set_option maxRecDepth 100000
set_option maxHeartbeats 4000000

theorem walk_FieldHalves (p0 p1 p2 c a : Int) (w0 : (Lit.int .u8 p0).wf = true) (w1 : (Lit.int .u8 p1).wf = true) (w2 : (Lit.int .u8 p2).wf = true) (wc : (Lit.int .u8 c).wf = true) (wa : (Lit.int .u8 a).wf = true) : ACalls Try.prog 4 [.agg #[.int .u8 p0, .int .u8 p1, .int .u8 p2], .int .u8 c, .int .u8 a] [] fun v _ => v = .bool true := by
  have h0 := wf_u8 w0
  have h1 := wf_u8 w1
  have h2 := wf_u8 w2
  have hc := wf_u8 wc
  have ha := wf_u8 wa
  have ec : bits .and .u8 c 1 = c % 2 := and1_8 c
  have hx : 0 ≤ (IntKind.i64.wrap a).tmod 80 ∧ (IntKind.i64.wrap a).tmod 80 < 80 := by rw [wrap64 (n := a) (by omega) (by omega), Int.tmod_eq_emod_of_nonneg ha.1]; omega
  generalize hX : (IntKind.i64.wrap a).tmod 80 = x at hx
  have e80 : IntKind.i64.wrap (80 + x) = 80 + x := wrap64 (by omega) (by omega)
  have e79 : IntKind.i64.wrap (79 - x) = 79 - x := wrap64 (by omega) (by omega)
  have l0 : litI p0 p1 p2 0 x = litI p0 p1 p2 c x := by
    have : litN 0 x = litN c x := by unfold litN; rw [if_pos (by omega), if_pos (by omega)]
    unfold litI; rw [this]
  by_cases hcc : c % 2 = 0
  · have l1 : litI p0 p1 p2 c (80 + x) = litI p0 p1 p2 c x := by
      have : litN c (80 + x) = litN c x := by unfold litN; rw [if_neg (by omega), if_neg (by omega), if_pos (by omega)]; omega
      unfold litI; rw [this, if_neg (by omega), if_neg (by omega)]
    refine ACalls.code tabOk h4 Try.func4 Try.call4 ok4 ?_
    conv => whnf
    refine ACalls.useE (field_lit _ _ _ _ _ ?_ ?_ ?_) [] rfl (by (conv => whnf); try rfl) (by (conv => whnf); try rfl) ?_
    · omega
    · omega
    · omega
    conv => whnf
    refine ACalls.useE (field_lit _ _ _ _ _ ?_ ?_ ?_) [] rfl (by (conv => whnf); try rfl) (by (conv => whnf); try rfl) ?_
    · omega
    · omega
    · omega
    conv => whnf
    rw [hX]
    conv => whnf
    rw [ec]
    conv => whnf
    rw [e80]
    conv => whnf
    rw [l0]
    conv => whnf
    rw [l1]
    conv => whnf
    refine Bif.knT ?_ fun h0 => ?_
    · (rw [hcc]; rfl)
    rw [h0]
    conv => whnf
    refine ACalls.useE (field_lit _ _ _ _ _ ?_ ?_ ?_) [] rfl (by (conv => whnf); try rfl) (by (conv => whnf); try rfl) ?_
    · omega
    · omega
    · omega
    conv => whnf
    refine Bif.knT ?_ fun h1 => ?_
    · exact beq_self_eq_true _
    rw [h1]
    conv => whnf
    refine Bif.knT ?_ fun h2 => ?_
    · with_reducible assumption
    rw [h2]
    conv => whnf
    refine ACalls.useE (awake18) [] rfl (by (conv => whnf); try rfl) (by (conv => whnf); try rfl) ?_
    conv => whnf
  · have l1 : litI p0 p1 p2 c (80 + x) = litI p0 p1 p2 c (79 - x) := by
      have : litN c (80 + x) = litN c (79 - x) := by unfold litN; rw [if_neg (by omega), if_pos (show c % 2 = 1 by omega), if_pos (by omega)]; omega
      unfold litI; rw [this, if_neg (by omega), if_neg (by omega)]
    refine ACalls.code tabOk h4 Try.func4 Try.call4 ok4 ?_
    conv => whnf
    refine ACalls.useE (field_lit _ _ _ _ _ ?_ ?_ ?_) [] rfl (by (conv => whnf); try rfl) (by (conv => whnf); try rfl) ?_
    · omega
    · omega
    · omega
    conv => whnf
    refine ACalls.useE (field_lit _ _ _ _ _ ?_ ?_ ?_) [] rfl (by (conv => whnf); try rfl) (by (conv => whnf); try rfl) ?_
    · omega
    · omega
    · omega
    conv => whnf
    rw [hX]
    conv => whnf
    rw [ec]
    conv => whnf
    rw [e80]
    conv => whnf
    rw [l0]
    conv => whnf
    rw [l1]
    conv => whnf
    refine Bif.knF ?_ fun h0 => ?_
    · (simp; omega)
    rw [h0]
    conv => whnf
    refine ACalls.useE (field_lit _ _ _ _ _ ?_ ?_ ?_) [] rfl (by (conv => whnf); try rfl) (by (conv => whnf); try rfl) ?_
    · omega
    · omega
    · omega
    conv => whnf
    refine Bif.knT ?_ fun h1 => ?_
    · exact beq_self_eq_true _
    rw [h1]
    conv => whnf
    refine ACalls.useE (field_lit _ _ _ _ _ ?_ ?_ ?_) [] rfl (by (conv => whnf); try rfl) (by (conv => whnf); try rfl) ?_
    · omega
    · omega
    · omega
    conv => whnf
    rw [e79]
    conv => whnf
    refine Bif.knT ?_ fun h2 => ?_
    · exact beq_self_eq_true _
    rw [h2]
    conv => whnf
    refine ACalls.useE (awake18) [] rfl (by (conv => whnf); try rfl) (by (conv => whnf); try rfl) ?_
    conv => whnf

/-! What a register tells -/
def tb (m : Int) (k : Nat) : Int := m / 2 ^ k % 2
theorem tb_01 (m : Int) (k : Nat) : tb m k = 0 ∨ tb m k = 1 := by unfold tb; omega
def tellI (m r : Int) : Int := if 0 ≤ r ∧ r ≤ 5 then 128 * tb m (2 * r).toNat + 64 * tb m (2 * r + 1).toNat else if r = 6 then 128 * tb m 12 else if r = 7 then 128 * tb m 13 + 64 * tb m 14 else 0
theorem tb_and (m : Int) (k : Nat) (n : Int) (hn : min n.toNat 16 = k) : bits .and .u16 (m.fdiv (2 ^ min n.toNat IntKind.u16.bits)) 1 = tb m k := by
  rw [show min n.toNat IntKind.u16.bits = k from hn, Int.fdiv_eq_ediv_of_nonneg _ (Int.le_of_lt (Int.pow_pos (by decide)))]
  exact and_mask .u16 _ 1 (by decide)
theorem tell_end : ∀ f : Nat, f < 2 → ∀ s : Nat, s < 2 → IntKind.u8.wrap (bits .or .u16 (IntKind.u16.wrap ((f : Int) * 2 ^ min (7 : Int).toNat IntKind.u16.bits)) (IntKind.u16.wrap ((s : Int) * 2 ^ min (6 : Int).toNat IntKind.u16.bits))) = 128 * (f : Int) + 64 * (s : Int) := by decide
theorem tell_end' {f s : Int} (hf : f = 0 ∨ f = 1) (hs : s = 0 ∨ s = 1) : IntKind.u8.wrap (bits .or .u16 (IntKind.u16.wrap (f * 2 ^ min (7 : Int).toNat IntKind.u16.bits)) (IntKind.u16.wrap (s * 2 ^ min (6 : Int).toNat IntKind.u16.bits))) = 128 * f + 64 * s := by
  rcases hf with rfl | rfl <;> rcases hs with rfl | rfl <;> decide
theorem field_tell_out (m r : Int) (h : r < 0 ∨ 7 < r) : ACalls Try.prog 19 [.int .u16 m, .int .i64 r] [] fun v H => v = .int .u8 (tellI m r) ∧ H = [] := by
  have e : tellI m r = 0 := by unfold tellI; rw [if_neg (by omega), if_neg (by omega), if_neg (by omega)]
  rw [e]
  rcases h with h | h
  · refine ACalls.code tabOk h19 Try.func19 Try.call19 ok19 ?_
    conv => whnf
    refine Bif.knT ?_ fun h0 => ?_
    · (simp_all; done)
    rw [h0]
    conv => whnf
    exact ⟨rfl, rfl⟩
  · refine ACalls.code tabOk h19 Try.func19 Try.call19 ok19 ?_
    conv => whnf
    refine Bif.knF ?_ fun h0 => ?_
    · (simp_all; omega)
    rw [h0]
    conv => whnf
    refine Bif.knT ?_ fun h1 => ?_
    · (simp_all; done)
    rw [h1]
    conv => whnf
    exact ⟨rfl, rfl⟩
theorem ref_tell_out (m r : Int) (h : r < 0 ∨ 7 < r) : ACalls Try.prog 20 [.int .i64 m, .int .i64 r] [] fun v H => v = .int .i64 (tellI m r) ∧ H = [] := by
  have e : tellI m r = 0 := by unfold tellI; rw [if_neg (by omega), if_neg (by omega), if_neg (by omega)]
  rw [e]
  rcases h with h | h
  · refine ACalls.code tabOk h20 Try.func20 Try.call20 ok20 ?_
    conv => whnf
    refine Bif.knF ?_ fun h0 => ?_
    · (simp_all; done)
    rw [h0]
    conv => whnf
    refine Bif.knF ?_ fun h1 => ?_
    · (simp_all; omega)
    rw [h1]
    conv => whnf
    refine Bif.knF ?_ fun h2 => ?_
    · (simp_all; omega)
    rw [h2]
    conv => whnf
    exact ⟨rfl, rfl⟩
  · refine ACalls.code tabOk h20 Try.func20 Try.call20 ok20 ?_
    conv => whnf
    refine Bif.knT ?_ fun h0 => ?_
    · (simp_all; omega)
    rw [h0]
    conv => whnf
    refine Bif.knF ?_ fun h1 => ?_
    · (simp_all; omega)
    rw [h1]
    conv => whnf
    refine Bif.knF ?_ fun h2 => ?_
    · (simp_all; omega)
    rw [h2]
    conv => whnf
    refine Bif.knF ?_ fun h3 => ?_
    · (simp_all; omega)
    rw [h3]
    conv => whnf
    exact ⟨rfl, rfl⟩
theorem field_tell_0 (m : Int) : ACalls Try.prog 19 [.int .u16 m, .int .i64 0] [] fun v H => v = .int .u8 (tellI m 0) ∧ H = [] := by
  have ef := tb_and m 0 (IntKind.i64.wrap (2 * 0)) (by decide)
  have es := tb_and m 1 (IntKind.i64.wrap (IntKind.i64.wrap (2 * 0) + 1)) (by decide)
  have ee := tell_end' (tb_01 m 0) (tb_01 m 1)
  refine ACalls.code tabOk h19 Try.func19 Try.call19 ok19 ?_
  conv => whnf
  (rw [ef, es, ee]; exact ⟨rfl, rfl⟩)
theorem ref_tell_0 (m : Int) (hm : 0 ≤ m ∧ m ≤ 65535) : ACalls Try.prog 20 [.int .i64 m, .int .i64 0] [] fun v H => v = .int .i64 (tellI m 0) ∧ H = [] := by
  have hm2 : 0 ≤ m ∧ m ≤ 9223372036854775807 := by omega
  have ef : decide (m / 2 ^ (IntKind.i64.wrap (2 * 0)).toNat % 2 = 1) = decide (tb m 0 = 1) := rfl
  have hf := tb_01 m 0
  have es : decide (m / 2 ^ (IntKind.i64.wrap (IntKind.i64.wrap (2 * 0) + 1)).toNat % 2 = 1) = decide (tb m 1 = 1) := rfl
  have hs := tb_01 m 1
  have ee : tellI m 0 = 128 * tb m 0 + 64 * tb m 1 := rfl
  rw [ee]
  rcases hf with hf | hf <;> rcases hs with hs | hs <;> rw [hf, hs] <;> rw [hf] at ef <;> rw [hs] at es
  · refine ACalls.code tabOk h20 Try.func20 Try.call20 ok20 ?_
    conv => whnf
    refine ACalls.useE (ref_pow _ ?_) [] rfl (by (conv => whnf); try rfl) (by (conv => whnf); try rfl) ?_
    · decide
    conv => whnf
    refine ACalls.useE (ref_has _ _ ?_ ?_) [] rfl (by (conv => whnf); try rfl) (by (conv => whnf); try rfl) ?_
    · omega
    · decide
    conv => whnf
    rw [ef]
    conv => whnf
    refine ACalls.useE (ref_pow _ ?_) [] rfl (by (conv => whnf); try rfl) (by (conv => whnf); try rfl) ?_
    · decide
    conv => whnf
    refine ACalls.useE (ref_has _ _ ?_ ?_) [] rfl (by (conv => whnf); try rfl) (by (conv => whnf); try rfl) ?_
    · omega
    · decide
    conv => whnf
    rw [es]
    conv => whnf
    exact ⟨rfl, rfl⟩
  · refine ACalls.code tabOk h20 Try.func20 Try.call20 ok20 ?_
    conv => whnf
    refine ACalls.useE (ref_pow _ ?_) [] rfl (by (conv => whnf); try rfl) (by (conv => whnf); try rfl) ?_
    · decide
    conv => whnf
    refine ACalls.useE (ref_has _ _ ?_ ?_) [] rfl (by (conv => whnf); try rfl) (by (conv => whnf); try rfl) ?_
    · omega
    · decide
    conv => whnf
    rw [ef]
    conv => whnf
    refine ACalls.useE (ref_pow _ ?_) [] rfl (by (conv => whnf); try rfl) (by (conv => whnf); try rfl) ?_
    · decide
    conv => whnf
    refine ACalls.useE (ref_has _ _ ?_ ?_) [] rfl (by (conv => whnf); try rfl) (by (conv => whnf); try rfl) ?_
    · omega
    · decide
    conv => whnf
    rw [es]
    conv => whnf
    exact ⟨rfl, rfl⟩
  · refine ACalls.code tabOk h20 Try.func20 Try.call20 ok20 ?_
    conv => whnf
    refine ACalls.useE (ref_pow _ ?_) [] rfl (by (conv => whnf); try rfl) (by (conv => whnf); try rfl) ?_
    · decide
    conv => whnf
    refine ACalls.useE (ref_has _ _ ?_ ?_) [] rfl (by (conv => whnf); try rfl) (by (conv => whnf); try rfl) ?_
    · omega
    · decide
    conv => whnf
    rw [ef]
    conv => whnf
    refine ACalls.useE (ref_pow _ ?_) [] rfl (by (conv => whnf); try rfl) (by (conv => whnf); try rfl) ?_
    · decide
    conv => whnf
    refine ACalls.useE (ref_has _ _ ?_ ?_) [] rfl (by (conv => whnf); try rfl) (by (conv => whnf); try rfl) ?_
    · omega
    · decide
    conv => whnf
    rw [es]
    conv => whnf
    exact ⟨rfl, rfl⟩
  · refine ACalls.code tabOk h20 Try.func20 Try.call20 ok20 ?_
    conv => whnf
    refine ACalls.useE (ref_pow _ ?_) [] rfl (by (conv => whnf); try rfl) (by (conv => whnf); try rfl) ?_
    · decide
    conv => whnf
    refine ACalls.useE (ref_has _ _ ?_ ?_) [] rfl (by (conv => whnf); try rfl) (by (conv => whnf); try rfl) ?_
    · omega
    · decide
    conv => whnf
    rw [ef]
    conv => whnf
    refine ACalls.useE (ref_pow _ ?_) [] rfl (by (conv => whnf); try rfl) (by (conv => whnf); try rfl) ?_
    · decide
    conv => whnf
    refine ACalls.useE (ref_has _ _ ?_ ?_) [] rfl (by (conv => whnf); try rfl) (by (conv => whnf); try rfl) ?_
    · omega
    · decide
    conv => whnf
    rw [es]
    conv => whnf
    exact ⟨rfl, rfl⟩
theorem field_tell_1 (m : Int) : ACalls Try.prog 19 [.int .u16 m, .int .i64 1] [] fun v H => v = .int .u8 (tellI m 1) ∧ H = [] := by
  have ef := tb_and m 2 (IntKind.i64.wrap (2 * 1)) (by decide)
  have es := tb_and m 3 (IntKind.i64.wrap (IntKind.i64.wrap (2 * 1) + 1)) (by decide)
  have ee := tell_end' (tb_01 m 2) (tb_01 m 3)
  refine ACalls.code tabOk h19 Try.func19 Try.call19 ok19 ?_
  conv => whnf
  (rw [ef, es, ee]; exact ⟨rfl, rfl⟩)
theorem ref_tell_1 (m : Int) (hm : 0 ≤ m ∧ m ≤ 65535) : ACalls Try.prog 20 [.int .i64 m, .int .i64 1] [] fun v H => v = .int .i64 (tellI m 1) ∧ H = [] := by
  have hm2 : 0 ≤ m ∧ m ≤ 9223372036854775807 := by omega
  have ef : decide (m / 2 ^ (IntKind.i64.wrap (2 * 1)).toNat % 2 = 1) = decide (tb m 2 = 1) := rfl
  have hf := tb_01 m 2
  have es : decide (m / 2 ^ (IntKind.i64.wrap (IntKind.i64.wrap (2 * 1) + 1)).toNat % 2 = 1) = decide (tb m 3 = 1) := rfl
  have hs := tb_01 m 3
  have ee : tellI m 1 = 128 * tb m 2 + 64 * tb m 3 := rfl
  rw [ee]
  rcases hf with hf | hf <;> rcases hs with hs | hs <;> rw [hf, hs] <;> rw [hf] at ef <;> rw [hs] at es
  · refine ACalls.code tabOk h20 Try.func20 Try.call20 ok20 ?_
    conv => whnf
    refine ACalls.useE (ref_pow _ ?_) [] rfl (by (conv => whnf); try rfl) (by (conv => whnf); try rfl) ?_
    · decide
    conv => whnf
    refine ACalls.useE (ref_has _ _ ?_ ?_) [] rfl (by (conv => whnf); try rfl) (by (conv => whnf); try rfl) ?_
    · omega
    · decide
    conv => whnf
    rw [ef]
    conv => whnf
    refine ACalls.useE (ref_pow _ ?_) [] rfl (by (conv => whnf); try rfl) (by (conv => whnf); try rfl) ?_
    · decide
    conv => whnf
    refine ACalls.useE (ref_has _ _ ?_ ?_) [] rfl (by (conv => whnf); try rfl) (by (conv => whnf); try rfl) ?_
    · omega
    · decide
    conv => whnf
    rw [es]
    conv => whnf
    exact ⟨rfl, rfl⟩
  · refine ACalls.code tabOk h20 Try.func20 Try.call20 ok20 ?_
    conv => whnf
    refine ACalls.useE (ref_pow _ ?_) [] rfl (by (conv => whnf); try rfl) (by (conv => whnf); try rfl) ?_
    · decide
    conv => whnf
    refine ACalls.useE (ref_has _ _ ?_ ?_) [] rfl (by (conv => whnf); try rfl) (by (conv => whnf); try rfl) ?_
    · omega
    · decide
    conv => whnf
    rw [ef]
    conv => whnf
    refine ACalls.useE (ref_pow _ ?_) [] rfl (by (conv => whnf); try rfl) (by (conv => whnf); try rfl) ?_
    · decide
    conv => whnf
    refine ACalls.useE (ref_has _ _ ?_ ?_) [] rfl (by (conv => whnf); try rfl) (by (conv => whnf); try rfl) ?_
    · omega
    · decide
    conv => whnf
    rw [es]
    conv => whnf
    exact ⟨rfl, rfl⟩
  · refine ACalls.code tabOk h20 Try.func20 Try.call20 ok20 ?_
    conv => whnf
    refine ACalls.useE (ref_pow _ ?_) [] rfl (by (conv => whnf); try rfl) (by (conv => whnf); try rfl) ?_
    · decide
    conv => whnf
    refine ACalls.useE (ref_has _ _ ?_ ?_) [] rfl (by (conv => whnf); try rfl) (by (conv => whnf); try rfl) ?_
    · omega
    · decide
    conv => whnf
    rw [ef]
    conv => whnf
    refine ACalls.useE (ref_pow _ ?_) [] rfl (by (conv => whnf); try rfl) (by (conv => whnf); try rfl) ?_
    · decide
    conv => whnf
    refine ACalls.useE (ref_has _ _ ?_ ?_) [] rfl (by (conv => whnf); try rfl) (by (conv => whnf); try rfl) ?_
    · omega
    · decide
    conv => whnf
    rw [es]
    conv => whnf
    exact ⟨rfl, rfl⟩
  · refine ACalls.code tabOk h20 Try.func20 Try.call20 ok20 ?_
    conv => whnf
    refine ACalls.useE (ref_pow _ ?_) [] rfl (by (conv => whnf); try rfl) (by (conv => whnf); try rfl) ?_
    · decide
    conv => whnf
    refine ACalls.useE (ref_has _ _ ?_ ?_) [] rfl (by (conv => whnf); try rfl) (by (conv => whnf); try rfl) ?_
    · omega
    · decide
    conv => whnf
    rw [ef]
    conv => whnf
    refine ACalls.useE (ref_pow _ ?_) [] rfl (by (conv => whnf); try rfl) (by (conv => whnf); try rfl) ?_
    · decide
    conv => whnf
    refine ACalls.useE (ref_has _ _ ?_ ?_) [] rfl (by (conv => whnf); try rfl) (by (conv => whnf); try rfl) ?_
    · omega
    · decide
    conv => whnf
    rw [es]
    conv => whnf
    exact ⟨rfl, rfl⟩
theorem field_tell_2 (m : Int) : ACalls Try.prog 19 [.int .u16 m, .int .i64 2] [] fun v H => v = .int .u8 (tellI m 2) ∧ H = [] := by
  have ef := tb_and m 4 (IntKind.i64.wrap (2 * 2)) (by decide)
  have es := tb_and m 5 (IntKind.i64.wrap (IntKind.i64.wrap (2 * 2) + 1)) (by decide)
  have ee := tell_end' (tb_01 m 4) (tb_01 m 5)
  refine ACalls.code tabOk h19 Try.func19 Try.call19 ok19 ?_
  conv => whnf
  (rw [ef, es, ee]; exact ⟨rfl, rfl⟩)
theorem ref_tell_2 (m : Int) (hm : 0 ≤ m ∧ m ≤ 65535) : ACalls Try.prog 20 [.int .i64 m, .int .i64 2] [] fun v H => v = .int .i64 (tellI m 2) ∧ H = [] := by
  have hm2 : 0 ≤ m ∧ m ≤ 9223372036854775807 := by omega
  have ef : decide (m / 2 ^ (IntKind.i64.wrap (2 * 2)).toNat % 2 = 1) = decide (tb m 4 = 1) := rfl
  have hf := tb_01 m 4
  have es : decide (m / 2 ^ (IntKind.i64.wrap (IntKind.i64.wrap (2 * 2) + 1)).toNat % 2 = 1) = decide (tb m 5 = 1) := rfl
  have hs := tb_01 m 5
  have ee : tellI m 2 = 128 * tb m 4 + 64 * tb m 5 := rfl
  rw [ee]
  rcases hf with hf | hf <;> rcases hs with hs | hs <;> rw [hf, hs] <;> rw [hf] at ef <;> rw [hs] at es
  · refine ACalls.code tabOk h20 Try.func20 Try.call20 ok20 ?_
    conv => whnf
    refine ACalls.useE (ref_pow _ ?_) [] rfl (by (conv => whnf); try rfl) (by (conv => whnf); try rfl) ?_
    · decide
    conv => whnf
    refine ACalls.useE (ref_has _ _ ?_ ?_) [] rfl (by (conv => whnf); try rfl) (by (conv => whnf); try rfl) ?_
    · omega
    · decide
    conv => whnf
    rw [ef]
    conv => whnf
    refine ACalls.useE (ref_pow _ ?_) [] rfl (by (conv => whnf); try rfl) (by (conv => whnf); try rfl) ?_
    · decide
    conv => whnf
    refine ACalls.useE (ref_has _ _ ?_ ?_) [] rfl (by (conv => whnf); try rfl) (by (conv => whnf); try rfl) ?_
    · omega
    · decide
    conv => whnf
    rw [es]
    conv => whnf
    exact ⟨rfl, rfl⟩
  · refine ACalls.code tabOk h20 Try.func20 Try.call20 ok20 ?_
    conv => whnf
    refine ACalls.useE (ref_pow _ ?_) [] rfl (by (conv => whnf); try rfl) (by (conv => whnf); try rfl) ?_
    · decide
    conv => whnf
    refine ACalls.useE (ref_has _ _ ?_ ?_) [] rfl (by (conv => whnf); try rfl) (by (conv => whnf); try rfl) ?_
    · omega
    · decide
    conv => whnf
    rw [ef]
    conv => whnf
    refine ACalls.useE (ref_pow _ ?_) [] rfl (by (conv => whnf); try rfl) (by (conv => whnf); try rfl) ?_
    · decide
    conv => whnf
    refine ACalls.useE (ref_has _ _ ?_ ?_) [] rfl (by (conv => whnf); try rfl) (by (conv => whnf); try rfl) ?_
    · omega
    · decide
    conv => whnf
    rw [es]
    conv => whnf
    exact ⟨rfl, rfl⟩
  · refine ACalls.code tabOk h20 Try.func20 Try.call20 ok20 ?_
    conv => whnf
    refine ACalls.useE (ref_pow _ ?_) [] rfl (by (conv => whnf); try rfl) (by (conv => whnf); try rfl) ?_
    · decide
    conv => whnf
    refine ACalls.useE (ref_has _ _ ?_ ?_) [] rfl (by (conv => whnf); try rfl) (by (conv => whnf); try rfl) ?_
    · omega
    · decide
    conv => whnf
    rw [ef]
    conv => whnf
    refine ACalls.useE (ref_pow _ ?_) [] rfl (by (conv => whnf); try rfl) (by (conv => whnf); try rfl) ?_
    · decide
    conv => whnf
    refine ACalls.useE (ref_has _ _ ?_ ?_) [] rfl (by (conv => whnf); try rfl) (by (conv => whnf); try rfl) ?_
    · omega
    · decide
    conv => whnf
    rw [es]
    conv => whnf
    exact ⟨rfl, rfl⟩
  · refine ACalls.code tabOk h20 Try.func20 Try.call20 ok20 ?_
    conv => whnf
    refine ACalls.useE (ref_pow _ ?_) [] rfl (by (conv => whnf); try rfl) (by (conv => whnf); try rfl) ?_
    · decide
    conv => whnf
    refine ACalls.useE (ref_has _ _ ?_ ?_) [] rfl (by (conv => whnf); try rfl) (by (conv => whnf); try rfl) ?_
    · omega
    · decide
    conv => whnf
    rw [ef]
    conv => whnf
    refine ACalls.useE (ref_pow _ ?_) [] rfl (by (conv => whnf); try rfl) (by (conv => whnf); try rfl) ?_
    · decide
    conv => whnf
    refine ACalls.useE (ref_has _ _ ?_ ?_) [] rfl (by (conv => whnf); try rfl) (by (conv => whnf); try rfl) ?_
    · omega
    · decide
    conv => whnf
    rw [es]
    conv => whnf
    exact ⟨rfl, rfl⟩
theorem field_tell_3 (m : Int) : ACalls Try.prog 19 [.int .u16 m, .int .i64 3] [] fun v H => v = .int .u8 (tellI m 3) ∧ H = [] := by
  have ef := tb_and m 6 (IntKind.i64.wrap (2 * 3)) (by decide)
  have es := tb_and m 7 (IntKind.i64.wrap (IntKind.i64.wrap (2 * 3) + 1)) (by decide)
  have ee := tell_end' (tb_01 m 6) (tb_01 m 7)
  refine ACalls.code tabOk h19 Try.func19 Try.call19 ok19 ?_
  conv => whnf
  (rw [ef, es, ee]; exact ⟨rfl, rfl⟩)
theorem ref_tell_3 (m : Int) (hm : 0 ≤ m ∧ m ≤ 65535) : ACalls Try.prog 20 [.int .i64 m, .int .i64 3] [] fun v H => v = .int .i64 (tellI m 3) ∧ H = [] := by
  have hm2 : 0 ≤ m ∧ m ≤ 9223372036854775807 := by omega
  have ef : decide (m / 2 ^ (IntKind.i64.wrap (2 * 3)).toNat % 2 = 1) = decide (tb m 6 = 1) := rfl
  have hf := tb_01 m 6
  have es : decide (m / 2 ^ (IntKind.i64.wrap (IntKind.i64.wrap (2 * 3) + 1)).toNat % 2 = 1) = decide (tb m 7 = 1) := rfl
  have hs := tb_01 m 7
  have ee : tellI m 3 = 128 * tb m 6 + 64 * tb m 7 := rfl
  rw [ee]
  rcases hf with hf | hf <;> rcases hs with hs | hs <;> rw [hf, hs] <;> rw [hf] at ef <;> rw [hs] at es
  · refine ACalls.code tabOk h20 Try.func20 Try.call20 ok20 ?_
    conv => whnf
    refine ACalls.useE (ref_pow _ ?_) [] rfl (by (conv => whnf); try rfl) (by (conv => whnf); try rfl) ?_
    · decide
    conv => whnf
    refine ACalls.useE (ref_has _ _ ?_ ?_) [] rfl (by (conv => whnf); try rfl) (by (conv => whnf); try rfl) ?_
    · omega
    · decide
    conv => whnf
    rw [ef]
    conv => whnf
    refine ACalls.useE (ref_pow _ ?_) [] rfl (by (conv => whnf); try rfl) (by (conv => whnf); try rfl) ?_
    · decide
    conv => whnf
    refine ACalls.useE (ref_has _ _ ?_ ?_) [] rfl (by (conv => whnf); try rfl) (by (conv => whnf); try rfl) ?_
    · omega
    · decide
    conv => whnf
    rw [es]
    conv => whnf
    exact ⟨rfl, rfl⟩
  · refine ACalls.code tabOk h20 Try.func20 Try.call20 ok20 ?_
    conv => whnf
    refine ACalls.useE (ref_pow _ ?_) [] rfl (by (conv => whnf); try rfl) (by (conv => whnf); try rfl) ?_
    · decide
    conv => whnf
    refine ACalls.useE (ref_has _ _ ?_ ?_) [] rfl (by (conv => whnf); try rfl) (by (conv => whnf); try rfl) ?_
    · omega
    · decide
    conv => whnf
    rw [ef]
    conv => whnf
    refine ACalls.useE (ref_pow _ ?_) [] rfl (by (conv => whnf); try rfl) (by (conv => whnf); try rfl) ?_
    · decide
    conv => whnf
    refine ACalls.useE (ref_has _ _ ?_ ?_) [] rfl (by (conv => whnf); try rfl) (by (conv => whnf); try rfl) ?_
    · omega
    · decide
    conv => whnf
    rw [es]
    conv => whnf
    exact ⟨rfl, rfl⟩
  · refine ACalls.code tabOk h20 Try.func20 Try.call20 ok20 ?_
    conv => whnf
    refine ACalls.useE (ref_pow _ ?_) [] rfl (by (conv => whnf); try rfl) (by (conv => whnf); try rfl) ?_
    · decide
    conv => whnf
    refine ACalls.useE (ref_has _ _ ?_ ?_) [] rfl (by (conv => whnf); try rfl) (by (conv => whnf); try rfl) ?_
    · omega
    · decide
    conv => whnf
    rw [ef]
    conv => whnf
    refine ACalls.useE (ref_pow _ ?_) [] rfl (by (conv => whnf); try rfl) (by (conv => whnf); try rfl) ?_
    · decide
    conv => whnf
    refine ACalls.useE (ref_has _ _ ?_ ?_) [] rfl (by (conv => whnf); try rfl) (by (conv => whnf); try rfl) ?_
    · omega
    · decide
    conv => whnf
    rw [es]
    conv => whnf
    exact ⟨rfl, rfl⟩
  · refine ACalls.code tabOk h20 Try.func20 Try.call20 ok20 ?_
    conv => whnf
    refine ACalls.useE (ref_pow _ ?_) [] rfl (by (conv => whnf); try rfl) (by (conv => whnf); try rfl) ?_
    · decide
    conv => whnf
    refine ACalls.useE (ref_has _ _ ?_ ?_) [] rfl (by (conv => whnf); try rfl) (by (conv => whnf); try rfl) ?_
    · omega
    · decide
    conv => whnf
    rw [ef]
    conv => whnf
    refine ACalls.useE (ref_pow _ ?_) [] rfl (by (conv => whnf); try rfl) (by (conv => whnf); try rfl) ?_
    · decide
    conv => whnf
    refine ACalls.useE (ref_has _ _ ?_ ?_) [] rfl (by (conv => whnf); try rfl) (by (conv => whnf); try rfl) ?_
    · omega
    · decide
    conv => whnf
    rw [es]
    conv => whnf
    exact ⟨rfl, rfl⟩
theorem field_tell_4 (m : Int) : ACalls Try.prog 19 [.int .u16 m, .int .i64 4] [] fun v H => v = .int .u8 (tellI m 4) ∧ H = [] := by
  have ef := tb_and m 8 (IntKind.i64.wrap (2 * 4)) (by decide)
  have es := tb_and m 9 (IntKind.i64.wrap (IntKind.i64.wrap (2 * 4) + 1)) (by decide)
  have ee := tell_end' (tb_01 m 8) (tb_01 m 9)
  refine ACalls.code tabOk h19 Try.func19 Try.call19 ok19 ?_
  conv => whnf
  (rw [ef, es, ee]; exact ⟨rfl, rfl⟩)
theorem ref_tell_4 (m : Int) (hm : 0 ≤ m ∧ m ≤ 65535) : ACalls Try.prog 20 [.int .i64 m, .int .i64 4] [] fun v H => v = .int .i64 (tellI m 4) ∧ H = [] := by
  have hm2 : 0 ≤ m ∧ m ≤ 9223372036854775807 := by omega
  have ef : decide (m / 2 ^ (IntKind.i64.wrap (2 * 4)).toNat % 2 = 1) = decide (tb m 8 = 1) := rfl
  have hf := tb_01 m 8
  have es : decide (m / 2 ^ (IntKind.i64.wrap (IntKind.i64.wrap (2 * 4) + 1)).toNat % 2 = 1) = decide (tb m 9 = 1) := rfl
  have hs := tb_01 m 9
  have ee : tellI m 4 = 128 * tb m 8 + 64 * tb m 9 := rfl
  rw [ee]
  rcases hf with hf | hf <;> rcases hs with hs | hs <;> rw [hf, hs] <;> rw [hf] at ef <;> rw [hs] at es
  · refine ACalls.code tabOk h20 Try.func20 Try.call20 ok20 ?_
    conv => whnf
    refine ACalls.useE (ref_pow _ ?_) [] rfl (by (conv => whnf); try rfl) (by (conv => whnf); try rfl) ?_
    · decide
    conv => whnf
    refine ACalls.useE (ref_has _ _ ?_ ?_) [] rfl (by (conv => whnf); try rfl) (by (conv => whnf); try rfl) ?_
    · omega
    · decide
    conv => whnf
    rw [ef]
    conv => whnf
    refine ACalls.useE (ref_pow _ ?_) [] rfl (by (conv => whnf); try rfl) (by (conv => whnf); try rfl) ?_
    · decide
    conv => whnf
    refine ACalls.useE (ref_has _ _ ?_ ?_) [] rfl (by (conv => whnf); try rfl) (by (conv => whnf); try rfl) ?_
    · omega
    · decide
    conv => whnf
    rw [es]
    conv => whnf
    exact ⟨rfl, rfl⟩
  · refine ACalls.code tabOk h20 Try.func20 Try.call20 ok20 ?_
    conv => whnf
    refine ACalls.useE (ref_pow _ ?_) [] rfl (by (conv => whnf); try rfl) (by (conv => whnf); try rfl) ?_
    · decide
    conv => whnf
    refine ACalls.useE (ref_has _ _ ?_ ?_) [] rfl (by (conv => whnf); try rfl) (by (conv => whnf); try rfl) ?_
    · omega
    · decide
    conv => whnf
    rw [ef]
    conv => whnf
    refine ACalls.useE (ref_pow _ ?_) [] rfl (by (conv => whnf); try rfl) (by (conv => whnf); try rfl) ?_
    · decide
    conv => whnf
    refine ACalls.useE (ref_has _ _ ?_ ?_) [] rfl (by (conv => whnf); try rfl) (by (conv => whnf); try rfl) ?_
    · omega
    · decide
    conv => whnf
    rw [es]
    conv => whnf
    exact ⟨rfl, rfl⟩
  · refine ACalls.code tabOk h20 Try.func20 Try.call20 ok20 ?_
    conv => whnf
    refine ACalls.useE (ref_pow _ ?_) [] rfl (by (conv => whnf); try rfl) (by (conv => whnf); try rfl) ?_
    · decide
    conv => whnf
    refine ACalls.useE (ref_has _ _ ?_ ?_) [] rfl (by (conv => whnf); try rfl) (by (conv => whnf); try rfl) ?_
    · omega
    · decide
    conv => whnf
    rw [ef]
    conv => whnf
    refine ACalls.useE (ref_pow _ ?_) [] rfl (by (conv => whnf); try rfl) (by (conv => whnf); try rfl) ?_
    · decide
    conv => whnf
    refine ACalls.useE (ref_has _ _ ?_ ?_) [] rfl (by (conv => whnf); try rfl) (by (conv => whnf); try rfl) ?_
    · omega
    · decide
    conv => whnf
    rw [es]
    conv => whnf
    exact ⟨rfl, rfl⟩
  · refine ACalls.code tabOk h20 Try.func20 Try.call20 ok20 ?_
    conv => whnf
    refine ACalls.useE (ref_pow _ ?_) [] rfl (by (conv => whnf); try rfl) (by (conv => whnf); try rfl) ?_
    · decide
    conv => whnf
    refine ACalls.useE (ref_has _ _ ?_ ?_) [] rfl (by (conv => whnf); try rfl) (by (conv => whnf); try rfl) ?_
    · omega
    · decide
    conv => whnf
    rw [ef]
    conv => whnf
    refine ACalls.useE (ref_pow _ ?_) [] rfl (by (conv => whnf); try rfl) (by (conv => whnf); try rfl) ?_
    · decide
    conv => whnf
    refine ACalls.useE (ref_has _ _ ?_ ?_) [] rfl (by (conv => whnf); try rfl) (by (conv => whnf); try rfl) ?_
    · omega
    · decide
    conv => whnf
    rw [es]
    conv => whnf
    exact ⟨rfl, rfl⟩
theorem field_tell_5 (m : Int) : ACalls Try.prog 19 [.int .u16 m, .int .i64 5] [] fun v H => v = .int .u8 (tellI m 5) ∧ H = [] := by
  have ef := tb_and m 10 (IntKind.i64.wrap (2 * 5)) (by decide)
  have es := tb_and m 11 (IntKind.i64.wrap (IntKind.i64.wrap (2 * 5) + 1)) (by decide)
  have ee := tell_end' (tb_01 m 10) (tb_01 m 11)
  refine ACalls.code tabOk h19 Try.func19 Try.call19 ok19 ?_
  conv => whnf
  (rw [ef, es, ee]; exact ⟨rfl, rfl⟩)
theorem ref_tell_5 (m : Int) (hm : 0 ≤ m ∧ m ≤ 65535) : ACalls Try.prog 20 [.int .i64 m, .int .i64 5] [] fun v H => v = .int .i64 (tellI m 5) ∧ H = [] := by
  have hm2 : 0 ≤ m ∧ m ≤ 9223372036854775807 := by omega
  have ef : decide (m / 2 ^ (IntKind.i64.wrap (2 * 5)).toNat % 2 = 1) = decide (tb m 10 = 1) := rfl
  have hf := tb_01 m 10
  have es : decide (m / 2 ^ (IntKind.i64.wrap (IntKind.i64.wrap (2 * 5) + 1)).toNat % 2 = 1) = decide (tb m 11 = 1) := rfl
  have hs := tb_01 m 11
  have ee : tellI m 5 = 128 * tb m 10 + 64 * tb m 11 := rfl
  rw [ee]
  rcases hf with hf | hf <;> rcases hs with hs | hs <;> rw [hf, hs] <;> rw [hf] at ef <;> rw [hs] at es
  · refine ACalls.code tabOk h20 Try.func20 Try.call20 ok20 ?_
    conv => whnf
    refine ACalls.useE (ref_pow _ ?_) [] rfl (by (conv => whnf); try rfl) (by (conv => whnf); try rfl) ?_
    · decide
    conv => whnf
    refine ACalls.useE (ref_has _ _ ?_ ?_) [] rfl (by (conv => whnf); try rfl) (by (conv => whnf); try rfl) ?_
    · omega
    · decide
    conv => whnf
    rw [ef]
    conv => whnf
    refine ACalls.useE (ref_pow _ ?_) [] rfl (by (conv => whnf); try rfl) (by (conv => whnf); try rfl) ?_
    · decide
    conv => whnf
    refine ACalls.useE (ref_has _ _ ?_ ?_) [] rfl (by (conv => whnf); try rfl) (by (conv => whnf); try rfl) ?_
    · omega
    · decide
    conv => whnf
    rw [es]
    conv => whnf
    exact ⟨rfl, rfl⟩
  · refine ACalls.code tabOk h20 Try.func20 Try.call20 ok20 ?_
    conv => whnf
    refine ACalls.useE (ref_pow _ ?_) [] rfl (by (conv => whnf); try rfl) (by (conv => whnf); try rfl) ?_
    · decide
    conv => whnf
    refine ACalls.useE (ref_has _ _ ?_ ?_) [] rfl (by (conv => whnf); try rfl) (by (conv => whnf); try rfl) ?_
    · omega
    · decide
    conv => whnf
    rw [ef]
    conv => whnf
    refine ACalls.useE (ref_pow _ ?_) [] rfl (by (conv => whnf); try rfl) (by (conv => whnf); try rfl) ?_
    · decide
    conv => whnf
    refine ACalls.useE (ref_has _ _ ?_ ?_) [] rfl (by (conv => whnf); try rfl) (by (conv => whnf); try rfl) ?_
    · omega
    · decide
    conv => whnf
    rw [es]
    conv => whnf
    exact ⟨rfl, rfl⟩
  · refine ACalls.code tabOk h20 Try.func20 Try.call20 ok20 ?_
    conv => whnf
    refine ACalls.useE (ref_pow _ ?_) [] rfl (by (conv => whnf); try rfl) (by (conv => whnf); try rfl) ?_
    · decide
    conv => whnf
    refine ACalls.useE (ref_has _ _ ?_ ?_) [] rfl (by (conv => whnf); try rfl) (by (conv => whnf); try rfl) ?_
    · omega
    · decide
    conv => whnf
    rw [ef]
    conv => whnf
    refine ACalls.useE (ref_pow _ ?_) [] rfl (by (conv => whnf); try rfl) (by (conv => whnf); try rfl) ?_
    · decide
    conv => whnf
    refine ACalls.useE (ref_has _ _ ?_ ?_) [] rfl (by (conv => whnf); try rfl) (by (conv => whnf); try rfl) ?_
    · omega
    · decide
    conv => whnf
    rw [es]
    conv => whnf
    exact ⟨rfl, rfl⟩
  · refine ACalls.code tabOk h20 Try.func20 Try.call20 ok20 ?_
    conv => whnf
    refine ACalls.useE (ref_pow _ ?_) [] rfl (by (conv => whnf); try rfl) (by (conv => whnf); try rfl) ?_
    · decide
    conv => whnf
    refine ACalls.useE (ref_has _ _ ?_ ?_) [] rfl (by (conv => whnf); try rfl) (by (conv => whnf); try rfl) ?_
    · omega
    · decide
    conv => whnf
    rw [ef]
    conv => whnf
    refine ACalls.useE (ref_pow _ ?_) [] rfl (by (conv => whnf); try rfl) (by (conv => whnf); try rfl) ?_
    · decide
    conv => whnf
    refine ACalls.useE (ref_has _ _ ?_ ?_) [] rfl (by (conv => whnf); try rfl) (by (conv => whnf); try rfl) ?_
    · omega
    · decide
    conv => whnf
    rw [es]
    conv => whnf
    exact ⟨rfl, rfl⟩
theorem field_tell_6 (m : Int) : ACalls Try.prog 19 [.int .u16 m, .int .i64 6] [] fun v H => v = .int .u8 (tellI m 6) ∧ H = [] := by
  have ef := tb_and m 12 (((12) : Int)) (by decide)
  have ee := tell_end' (tb_01 m 12) (.inl rfl)
  refine ACalls.code tabOk h19 Try.func19 Try.call19 ok19 ?_
  conv => whnf
  (rw [ef, ee]; exact ⟨by show Value.int .u8 (128 * tb m 12 + 64 * 0) = Value.int .u8 (128 * tb m 12); rw [Int.mul_zero, Int.add_zero], rfl⟩)
theorem ref_tell_6 (m : Int) (hm : 0 ≤ m ∧ m ≤ 65535) : ACalls Try.prog 20 [.int .i64 m, .int .i64 6] [] fun v H => v = .int .i64 (tellI m 6) ∧ H = [] := by
  have hm2 : 0 ≤ m ∧ m ≤ 9223372036854775807 := by omega
  have ef : decide (m / 2 ^ (IntKind.i64.wrap (2 * 6)).toNat % 2 = 1) = decide (tb m 12 = 1) := rfl
  have hf := tb_01 m 12
  have ee : tellI m 6 = 128 * tb m 12 := rfl
  rw [ee]
  rcases hf with hf | hf <;> rw [hf] <;> rw [hf] at ef
  · refine ACalls.code tabOk h20 Try.func20 Try.call20 ok20 ?_
    conv => whnf
    refine ACalls.useE (ref_pow _ ?_) [] rfl (by (conv => whnf); try rfl) (by (conv => whnf); try rfl) ?_
    · decide
    conv => whnf
    refine ACalls.useE (ref_has _ _ ?_ ?_) [] rfl (by (conv => whnf); try rfl) (by (conv => whnf); try rfl) ?_
    · omega
    · decide
    conv => whnf
    rw [ef]
    conv => whnf
    exact ⟨rfl, rfl⟩
  · refine ACalls.code tabOk h20 Try.func20 Try.call20 ok20 ?_
    conv => whnf
    refine ACalls.useE (ref_pow _ ?_) [] rfl (by (conv => whnf); try rfl) (by (conv => whnf); try rfl) ?_
    · decide
    conv => whnf
    refine ACalls.useE (ref_has _ _ ?_ ?_) [] rfl (by (conv => whnf); try rfl) (by (conv => whnf); try rfl) ?_
    · omega
    · decide
    conv => whnf
    rw [ef]
    conv => whnf
    exact ⟨rfl, rfl⟩
theorem field_tell_7 (m : Int) : ACalls Try.prog 19 [.int .u16 m, .int .i64 7] [] fun v H => v = .int .u8 (tellI m 7) ∧ H = [] := by
  have ef := tb_and m 13 (((13) : Int)) (by decide)
  have es := tb_and m 14 (((14) : Int)) (by decide)
  have ee := tell_end' (tb_01 m 13) (tb_01 m 14)
  refine ACalls.code tabOk h19 Try.func19 Try.call19 ok19 ?_
  conv => whnf
  (rw [ef, es, ee]; exact ⟨rfl, rfl⟩)
theorem ref_tell_7 (m : Int) (hm : 0 ≤ m ∧ m ≤ 65535) : ACalls Try.prog 20 [.int .i64 m, .int .i64 7] [] fun v H => v = .int .i64 (tellI m 7) ∧ H = [] := by
  have hm2 : 0 ≤ m ∧ m ≤ 9223372036854775807 := by omega
  have ef : decide (m / 2 ^ (((13) : Int)).toNat % 2 = 1) = decide (tb m 13 = 1) := rfl
  have hf := tb_01 m 13
  have es : decide (m / 2 ^ (((14) : Int)).toNat % 2 = 1) = decide (tb m 14 = 1) := rfl
  have hs := tb_01 m 14
  have ee : tellI m 7 = 128 * tb m 13 + 64 * tb m 14 := rfl
  rw [ee]
  rcases hf with hf | hf <;> rcases hs with hs | hs <;> rw [hf, hs] <;> rw [hf] at ef <;> rw [hs] at es
  · refine ACalls.code tabOk h20 Try.func20 Try.call20 ok20 ?_
    conv => whnf
    refine ACalls.useE (ref_pow _ ?_) [] rfl (by (conv => whnf); try rfl) (by (conv => whnf); try rfl) ?_
    · decide
    conv => whnf
    refine ACalls.useE (ref_has _ _ ?_ ?_) [] rfl (by (conv => whnf); try rfl) (by (conv => whnf); try rfl) ?_
    · omega
    · decide
    conv => whnf
    rw [ef]
    conv => whnf
    refine ACalls.useE (ref_pow _ ?_) [] rfl (by (conv => whnf); try rfl) (by (conv => whnf); try rfl) ?_
    · decide
    conv => whnf
    refine ACalls.useE (ref_has _ _ ?_ ?_) [] rfl (by (conv => whnf); try rfl) (by (conv => whnf); try rfl) ?_
    · omega
    · decide
    conv => whnf
    rw [es]
    conv => whnf
    exact ⟨rfl, rfl⟩
  · refine ACalls.code tabOk h20 Try.func20 Try.call20 ok20 ?_
    conv => whnf
    refine ACalls.useE (ref_pow _ ?_) [] rfl (by (conv => whnf); try rfl) (by (conv => whnf); try rfl) ?_
    · decide
    conv => whnf
    refine ACalls.useE (ref_has _ _ ?_ ?_) [] rfl (by (conv => whnf); try rfl) (by (conv => whnf); try rfl) ?_
    · omega
    · decide
    conv => whnf
    rw [ef]
    conv => whnf
    refine ACalls.useE (ref_pow _ ?_) [] rfl (by (conv => whnf); try rfl) (by (conv => whnf); try rfl) ?_
    · decide
    conv => whnf
    refine ACalls.useE (ref_has _ _ ?_ ?_) [] rfl (by (conv => whnf); try rfl) (by (conv => whnf); try rfl) ?_
    · omega
    · decide
    conv => whnf
    rw [es]
    conv => whnf
    exact ⟨rfl, rfl⟩
  · refine ACalls.code tabOk h20 Try.func20 Try.call20 ok20 ?_
    conv => whnf
    refine ACalls.useE (ref_pow _ ?_) [] rfl (by (conv => whnf); try rfl) (by (conv => whnf); try rfl) ?_
    · decide
    conv => whnf
    refine ACalls.useE (ref_has _ _ ?_ ?_) [] rfl (by (conv => whnf); try rfl) (by (conv => whnf); try rfl) ?_
    · omega
    · decide
    conv => whnf
    rw [ef]
    conv => whnf
    refine ACalls.useE (ref_pow _ ?_) [] rfl (by (conv => whnf); try rfl) (by (conv => whnf); try rfl) ?_
    · decide
    conv => whnf
    refine ACalls.useE (ref_has _ _ ?_ ?_) [] rfl (by (conv => whnf); try rfl) (by (conv => whnf); try rfl) ?_
    · omega
    · decide
    conv => whnf
    rw [es]
    conv => whnf
    exact ⟨rfl, rfl⟩
  · refine ACalls.code tabOk h20 Try.func20 Try.call20 ok20 ?_
    conv => whnf
    refine ACalls.useE (ref_pow _ ?_) [] rfl (by (conv => whnf); try rfl) (by (conv => whnf); try rfl) ?_
    · decide
    conv => whnf
    refine ACalls.useE (ref_has _ _ ?_ ?_) [] rfl (by (conv => whnf); try rfl) (by (conv => whnf); try rfl) ?_
    · omega
    · decide
    conv => whnf
    rw [ef]
    conv => whnf
    refine ACalls.useE (ref_pow _ ?_) [] rfl (by (conv => whnf); try rfl) (by (conv => whnf); try rfl) ?_
    · decide
    conv => whnf
    refine ACalls.useE (ref_has _ _ ?_ ?_) [] rfl (by (conv => whnf); try rfl) (by (conv => whnf); try rfl) ?_
    · omega
    · decide
    conv => whnf
    rw [es]
    conv => whnf
    exact ⟨rfl, rfl⟩
theorem field_tell (m r : Int) : ACalls Try.prog 19 [.int .u16 m, .int .i64 r] [] fun v H => v = .int .u8 (tellI m r) ∧ H = [] := by
  by_cases h : r < 0 ∨ 7 < r
  · exact field_tell_out m r h
  · have h' : r = 0 ∨ r = 1 ∨ r = 2 ∨ r = 3 ∨ r = 4 ∨ r = 5 ∨ r = 6 ∨ r = 7 := by omega
    rcases h' with rfl | rfl | rfl | rfl | rfl | rfl | rfl | rfl
    · exact field_tell_0 m
    · exact field_tell_1 m
    · exact field_tell_2 m
    · exact field_tell_3 m
    · exact field_tell_4 m
    · exact field_tell_5 m
    · exact field_tell_6 m
    · exact field_tell_7 m
theorem ref_tell (m r : Int) (hm : 0 ≤ m ∧ m ≤ 65535) : ACalls Try.prog 20 [.int .i64 m, .int .i64 r] [] fun v H => v = .int .i64 (tellI m r) ∧ H = [] := by
  by_cases h : r < 0 ∨ 7 < r
  · exact ref_tell_out m r h
  · have h' : r = 0 ∨ r = 1 ∨ r = 2 ∨ r = 3 ∨ r = 4 ∨ r = 5 ∨ r = 6 ∨ r = 7 := by omega
    rcases h' with rfl | rfl | rfl | rfl | rfl | rfl | rfl | rfl
    · exact ref_tell_0 m hm
    · exact ref_tell_1 m hm
    · exact ref_tell_2 m hm
    · exact ref_tell_3 m hm
    · exact ref_tell_4 m hm
    · exact ref_tell_5 m hm
    · exact ref_tell_6 m hm
    · exact ref_tell_7 m hm
theorem tellI_bd (m r : Int) : 0 ≤ tellI m r ∧ tellI m r ≤ 255 := by
  unfold tellI
  have a := tb_01 m (2 * r).toNat
  have b := tb_01 m (2 * r + 1).toNat
  have c := tb_01 m 12
  have d := tb_01 m 13
  have e := tb_01 m 14
  (repeat split) <;> omega
theorem walk_FieldTells (m r : Int) (wm : (Lit.int .u16 m).wf = true) (wr : (Lit.int .i64 r).wf = true) : ACalls Try.prog 9 [.int .u16 m, .int .i64 r] [] fun v _ => v = .bool true := by
  have hm := wf_u16 wm
  have em : IntKind.i64.wrap m = m := wrap64 (by omega) (by omega)
  have hb := tellI_bd m r
  have et : IntKind.i64.wrap (tellI m r) = tellI m r := wrap64 (by omega) (by omega)
  refine ACalls.code tabOk h9 Try.func9 Try.call9 ok9 ?_
  conv => whnf
  refine ACalls.useE (field_tell _ _) [] rfl (by (conv => whnf); try rfl) (by (conv => whnf); try rfl) ?_
  conv => whnf
  refine ACalls.useE (ref_tell _ _ ?_) [] rfl (by (conv => whnf); try rfl) (by (conv => whnf); try rfl) ?_
  · omega
  conv => whnf
  rw [em]
  conv => whnf
  rw [et]
  conv => whnf
  refine Bif.knT ?_ fun h0 => ?_
  · exact beq_self_eq_true _
  rw [h0]
  conv => whnf
  refine ACalls.useE (awake18) [] rfl (by (conv => whnf); try rfl) (by (conv => whnf); try rfl) ?_
  conv => whnf
theorem walk_FieldSees (d0 d1 d2 d3 d4 d5 : Bool) (c x : Int) (wc : (Lit.int .u8 c).wf = true) (wx : (Lit.int .i64 x).wf = true) : ACalls Try.prog 8 [.agg #[.bool d0, .bool d1, .bool d2, .bool d3, .bool d4, .bool d5], .int .u8 c, .int .i64 x] [] fun v _ => v = .bool true := by
  have hc := wf_u8 wc
  have ec : IntKind.i64.wrap c = c := wrap64 (by omega) (by omega)
  have hm := meetN_bd d0 d1 d2 d3 d4 d5 15
  have hm2 : (2 : Int) ^ 15 = 32768 := by decide
  have em : IntKind.i64.wrap (meetN d0 d1 d2 d3 d4 d5 15) = meetN d0 d1 d2 d3 d4 d5 15 := wrap64 (by omega) (by omega)
  have hb := tellI_bd (meetN d0 d1 d2 d3 d4 d5 15) x
  have et : IntKind.i64.wrap (tellI (meetN d0 d1 d2 d3 d4 d5 15) x) = tellI (meetN d0 d1 d2 d3 d4 d5 15) x := wrap64 (by omega) (by omega)
  refine ACalls.code tabOk h8 Try.func8 Try.call8 ok8 ?_
  conv => whnf
  refine ACalls.useE (field_meet _ _ _ _ _ _) [] rfl (by (conv => whnf); try rfl) (by (conv => whnf); try rfl) ?_
  conv => whnf
  refine ACalls.useE (field_seen _ _ _ _ _ _ _ _ ?_) [] rfl (by (conv => whnf); try rfl) (by (conv => whnf); try rfl) ?_
  · omega
  conv => whnf
  rw [ec]
  conv => whnf
  refine ⟨rfl, ?_⟩
  conv => whnf
  refine ACalls.useE (ref_seen _ _ _ _ _ _ _ _ ?_) [] rfl (by (conv => whnf); try rfl) (by (conv => whnf); try rfl) ?_
  · omega
  conv => whnf
  refine Bif.knT ?_ fun h0 => ?_
  · exact beq_self_eq_true _
  rw [h0]
  conv => whnf
  refine ACalls.useE (ref_meet _ _ _ _ _ _) [] rfl (by (conv => whnf); try rfl) (by (conv => whnf); try rfl) ?_
  conv => whnf
  rw [em]
  conv => whnf
  refine Bif.knT ?_ fun h1 => ?_
  · exact beq_self_eq_true _
  rw [h1]
  conv => whnf
  refine ACalls.useE (field_tell _ _) [] rfl (by (conv => whnf); try rfl) (by (conv => whnf); try rfl) ?_
  conv => whnf
  refine ACalls.useE (ref_tell _ _ ?_) [] rfl (by (conv => whnf); try rfl) (by (conv => whnf); try rfl) ?_
  · omega
  conv => whnf
  rw [em]
  conv => whnf
  rw [et]
  conv => whnf
  refine Bif.knT ?_ fun h2 => ?_
  · exact beq_self_eq_true _
  rw [h2]
  conv => whnf
  refine ACalls.useE (awake18) [] rfl (by (conv => whnf); try rfl) (by (conv => whnf); try rfl) ?_
  conv => whnf

/-! Eight bits -/
def graphI (b : Int) (mir : Bool) (w d : Int) : Bool := if w < 1 ∨ d < 0 then false else if 7 < d / w then false else if mir then bitN b (d / w).toNat else bitN (revI b) (d / w).toNat
theorem g_end (b n : Int) (hb : 0 ≤ b ∧ b ≤ 255) (hn : 0 ≤ n ∧ n ≤ 7) : (bits .and .u8 (b.fdiv (2 ^ min n.toNat IntKind.u8.bits)) 1 != 0) = bitN b n.toNat := by
  rw [show min n.toNat IntKind.u8.bits = n.toNat by show min n.toNat 8 = _; omega, Int.fdiv_eq_ediv_of_nonneg _ (Int.le_of_lt (Int.pow_pos (by decide))), and1_8]
  unfold bitN
  generalize b / 2 ^ n.toNat = q
  by_cases h : q % 2 = 1
  · simp [h]
  · have : q % 2 = 0 := by omega
    simp [this]
theorem field_graph_out (b : Int) (mir : Bool) (w d : Int) (h : w < 1 ∨ d < 0) : ACalls Try.prog 14 [.int .u8 b, .bool mir, .int .i64 w, .int .i64 d] [] fun v H => v = .bool (graphI b mir w d) ∧ H = [] := by
  have e : graphI b mir w d = false := by unfold graphI; rw [if_pos h]
  rw [e]
  rcases h with h | h
  · refine ACalls.code tabOk h14 Try.func14 Try.call14 ok14 ?_
    conv => whnf
    refine Bif.knT ?_ fun h0 => ?_
    · (simp_all; done)
    rw [h0]
    conv => whnf
    exact ⟨rfl, rfl⟩
  · refine ACalls.code tabOk h14 Try.func14 Try.call14 ok14 ?_
    conv => whnf
    refine Bif.of (fun h0 => ?_) fun h0 => ?_
    · rw [h0]
      conv => whnf
      exact ⟨rfl, rfl⟩
    · rw [h0]
      conv => whnf
      refine Bif.knT ?_ fun h1 => ?_
      · (simp_all; done)
      rw [h1]
      conv => whnf
      exact ⟨rfl, rfl⟩
theorem ref_graph_out (b : Int) (mir : Bool) (w d : Int) (h : w < 1 ∨ d < 0) : ACalls Try.prog 15 [.int .i64 b, .bool mir, .int .i64 w, .int .i64 d] [] fun v H => v = .bool (graphI b mir w d) ∧ H = [] := by
  have e : graphI b mir w d = false := by unfold graphI; rw [if_pos h]
  rw [e]
  rcases h with h | h
  · refine ACalls.code tabOk h15 Try.func15 Try.call15 ok15 ?_
    conv => whnf
    refine Bif.knT ?_ fun h0 => ?_
    · (simp_all; done)
    rw [h0]
    conv => whnf
    exact ⟨rfl, rfl⟩
  · refine ACalls.code tabOk h15 Try.func15 Try.call15 ok15 ?_
    conv => whnf
    refine Bif.of (fun h0 => ?_) fun h0 => ?_
    · rw [h0]
      conv => whnf
      exact ⟨rfl, rfl⟩
    · rw [h0]
      conv => whnf
      refine Bif.knT ?_ fun h1 => ?_
      · (simp_all; done)
      rw [h1]
      conv => whnf
      exact ⟨rfl, rfl⟩

theorem field_graph_0 (b : Int) (mir : Bool) (w d : Int) (hb : 0 ≤ b ∧ b ≤ 255) (hd2 : d ≤ 9223372036854775807) (h : 1 ≤ w ∧ 0 ≤ d) (hk : 7 < d / w) : ACalls Try.prog 14 [.int .u8 b, .bool mir, .int .i64 w, .int .i64 d] [] fun v H => v = .bool (graphI b mir w d) ∧ H = [] := by
  have hd : 0 ≤ d / w ∧ d / w ≤ d := ⟨Int.ediv_nonneg h.2 (by omega), Int.ediv_le_self _ h.2⟩
  have hr := revI_bd hb
  have ed : IntKind.i64.wrap (d.tdiv w) = d / w := by rw [Int.tdiv_eq_ediv_of_nonneg h.2, wrap64 (by omega) (by omega)]
  have hw : (w == 0) = false := by simp; omega
  have e : graphI b mir w d = (if 7 < d / w then false else if mir then bitN b (d / w).toNat else bitN (revI b) (d / w).toNat) := by unfold graphI; rw [if_neg (by omega)]
  rw [e]
  cases mir with
  | true =>
    refine ACalls.code tabOk h14 Try.func14 Try.call14 ok14 ?_
    conv => whnf
    refine Bif.knF ?_ fun h0 => ?_
    · (simp; omega)
    rw [h0]
    conv => whnf
    refine Bif.knF ?_ fun h1 => ?_
    · (simp; omega)
    rw [h1]
    conv => whnf
    rw [ed]
    conv => whnf
    refine Req.of ?_ ?_
    · (simp; omega)
    conv => whnf
    refine Bif.knF ?_ fun h2 => ?_
    · (simp; omega)
    rw [h2]
    conv => whnf
    (simp; omega)
  | false =>
    refine ACalls.code tabOk h14 Try.func14 Try.call14 ok14 ?_
    conv => whnf
    refine Bif.knF ?_ fun h0 => ?_
    · (simp; omega)
    rw [h0]
    conv => whnf
    refine Bif.knF ?_ fun h1 => ?_
    · (simp; omega)
    rw [h1]
    conv => whnf
    rw [ed]
    conv => whnf
    refine Req.of ?_ ?_
    · (simp; omega)
    conv => whnf
    refine ACalls.useE (reverse8 _ ?_) [] rfl (by (conv => whnf); try rfl) (by (conv => whnf); try rfl) ?_
    · omega
    conv => whnf
    refine Bif.knF ?_ fun h2 => ?_
    · (simp; omega)
    rw [h2]
    conv => whnf
    (simp; omega)
theorem ref_graph_0 (b : Int) (mir : Bool) (w d : Int) (hb : 0 ≤ b ∧ b ≤ 255) (hd2 : d ≤ 9223372036854775807) (h : 1 ≤ w ∧ 0 ≤ d) (hk : 7 < d / w) : ACalls Try.prog 15 [.int .i64 b, .bool mir, .int .i64 w, .int .i64 d] [] fun v H => v = .bool (graphI b mir w d) ∧ H = [] := by
  have hd : 0 ≤ d / w ∧ d / w ≤ d := ⟨Int.ediv_nonneg h.2 (by omega), Int.ediv_le_self _ h.2⟩
  have hb2 : 0 ≤ b ∧ b ≤ 9223372036854775807 := by omega
  have ed : IntKind.i64.wrap (d.tdiv w) = d / w := by rw [Int.tdiv_eq_ediv_of_nonneg h.2, wrap64 (by omega) (by omega)]
  have hw : (w == 0) = false := by simp; omega
  have e : graphI b mir w d = (if 7 < d / w then false else if mir then bitN b (d / w).toNat else bitN (revI b) (d / w).toNat) := by unfold graphI; rw [if_neg (by omega)]
  have e7 : d / w ≤ 7 → IntKind.i64.wrap (7 - d / w) = 7 - d / w := fun hq => wrap64 (by omega) (by omega)
  have er : d / w ≤ 7 → bitN (revI b) (d / w).toNat = decide (b / 2 ^ (7 - d / w).toNat % 2 = 1) := fun hq => by
    have := revI_bits hb (d / w).toNat (by omega)
    unfold bitN
    rw [this, show 7 - (d / w).toNat = (7 - d / w).toNat by omega]
  rw [e]
  cases mir with
  | true =>
    refine ACalls.code tabOk h15 Try.func15 Try.call15 ok15 ?_
    conv => whnf
    refine Bif.knF ?_ fun h0 => ?_
    · (simp; omega)
    rw [h0]
    conv => whnf
    refine Bif.knF ?_ fun h1 => ?_
    · (simp; omega)
    rw [h1]
    conv => whnf
    rw [ed]
    conv => whnf
    refine Req.of ?_ ?_
    · (simp; omega)
    conv => whnf
    refine Bif.knT ?_ fun h2 => ?_
    · (simp; omega)
    rw [h2]
    conv => whnf
    (simp; omega)
  | false =>
    refine ACalls.code tabOk h15 Try.func15 Try.call15 ok15 ?_
    conv => whnf
    refine Bif.knF ?_ fun h0 => ?_
    · (simp; omega)
    rw [h0]
    conv => whnf
    refine Bif.knF ?_ fun h1 => ?_
    · (simp; omega)
    rw [h1]
    conv => whnf
    rw [ed]
    conv => whnf
    refine Req.of ?_ ?_
    · (simp; omega)
    conv => whnf
    refine Bif.knT ?_ fun h2 => ?_
    · (simp; omega)
    rw [h2]
    conv => whnf
    (simp; omega)
theorem field_graph_1 (b : Int) (mir : Bool) (w d : Int) (hb : 0 ≤ b ∧ b ≤ 255) (hd2 : d ≤ 9223372036854775807) (h : 1 ≤ w ∧ 0 ≤ d) (hk : d / w ≤ 7) : ACalls Try.prog 14 [.int .u8 b, .bool mir, .int .i64 w, .int .i64 d] [] fun v H => v = .bool (graphI b mir w d) ∧ H = [] := by
  have hd : 0 ≤ d / w ∧ d / w ≤ d := ⟨Int.ediv_nonneg h.2 (by omega), Int.ediv_le_self _ h.2⟩
  have hr := revI_bd hb
  have ed : IntKind.i64.wrap (d.tdiv w) = d / w := by rw [Int.tdiv_eq_ediv_of_nonneg h.2, wrap64 (by omega) (by omega)]
  have hw : (w == 0) = false := by simp; omega
  have e : graphI b mir w d = (if 7 < d / w then false else if mir then bitN b (d / w).toNat else bitN (revI b) (d / w).toNat) := by unfold graphI; rw [if_neg (by omega)]
  rw [e]
  cases mir with
  | true =>
    refine ACalls.code tabOk h14 Try.func14 Try.call14 ok14 ?_
    conv => whnf
    refine Bif.knF ?_ fun h0 => ?_
    · (simp; omega)
    rw [h0]
    conv => whnf
    refine Bif.knF ?_ fun h1 => ?_
    · (simp; omega)
    rw [h1]
    conv => whnf
    rw [ed]
    conv => whnf
    refine Req.of ?_ ?_
    · (simp; omega)
    conv => whnf
    refine Bif.knT ?_ fun h2 => ?_
    · (simp; omega)
    rw [h2]
    conv => whnf
    refine Req.of ?_ ?_
    · (simp; omega)
    conv => whnf
    (rw [g_end b _ hb (by omega), if_neg (by omega)]; exact ⟨rfl, rfl⟩)
  | false =>
    refine ACalls.code tabOk h14 Try.func14 Try.call14 ok14 ?_
    conv => whnf
    refine Bif.knF ?_ fun h0 => ?_
    · (simp; omega)
    rw [h0]
    conv => whnf
    refine Bif.knF ?_ fun h1 => ?_
    · (simp; omega)
    rw [h1]
    conv => whnf
    rw [ed]
    conv => whnf
    refine Req.of ?_ ?_
    · (simp; omega)
    conv => whnf
    refine ACalls.useE (reverse8 _ ?_) [] rfl (by (conv => whnf); try rfl) (by (conv => whnf); try rfl) ?_
    · omega
    conv => whnf
    refine Bif.knT ?_ fun h2 => ?_
    · (simp; omega)
    rw [h2]
    conv => whnf
    refine Req.of ?_ ?_
    · (simp; omega)
    conv => whnf
    (rw [g_end (revI b) _ (by omega) (by omega), if_neg (by omega)]; exact ⟨rfl, rfl⟩)
theorem ref_graph_1 (b : Int) (mir : Bool) (w d : Int) (hb : 0 ≤ b ∧ b ≤ 255) (hd2 : d ≤ 9223372036854775807) (h : 1 ≤ w ∧ 0 ≤ d) (hk : d / w ≤ 7) : ACalls Try.prog 15 [.int .i64 b, .bool mir, .int .i64 w, .int .i64 d] [] fun v H => v = .bool (graphI b mir w d) ∧ H = [] := by
  have hd : 0 ≤ d / w ∧ d / w ≤ d := ⟨Int.ediv_nonneg h.2 (by omega), Int.ediv_le_self _ h.2⟩
  have hb2 : 0 ≤ b ∧ b ≤ 9223372036854775807 := by omega
  have ed : IntKind.i64.wrap (d.tdiv w) = d / w := by rw [Int.tdiv_eq_ediv_of_nonneg h.2, wrap64 (by omega) (by omega)]
  have hw : (w == 0) = false := by simp; omega
  have e : graphI b mir w d = (if 7 < d / w then false else if mir then bitN b (d / w).toNat else bitN (revI b) (d / w).toNat) := by unfold graphI; rw [if_neg (by omega)]
  have e7 : d / w ≤ 7 → IntKind.i64.wrap (7 - d / w) = 7 - d / w := fun hq => wrap64 (by omega) (by omega)
  have er : d / w ≤ 7 → bitN (revI b) (d / w).toNat = decide (b / 2 ^ (7 - d / w).toNat % 2 = 1) := fun hq => by
    have := revI_bits hb (d / w).toNat (by omega)
    unfold bitN
    rw [this, show 7 - (d / w).toNat = (7 - d / w).toNat by omega]
  rw [e]
  cases mir with
  | true =>
    refine ACalls.code tabOk h15 Try.func15 Try.call15 ok15 ?_
    conv => whnf
    refine Bif.knF ?_ fun h0 => ?_
    · (simp; omega)
    rw [h0]
    conv => whnf
    refine Bif.knF ?_ fun h1 => ?_
    · (simp; omega)
    rw [h1]
    conv => whnf
    rw [ed]
    conv => whnf
    refine Req.of ?_ ?_
    · (simp; omega)
    conv => whnf
    refine Bif.knF ?_ fun h2 => ?_
    · (simp; omega)
    rw [h2]
    conv => whnf
    rw [ed]
    conv => whnf
    refine Req.of ?_ ?_
    · (simp; omega)
    conv => whnf
    refine ACalls.useE (ref_pow _ ?_) [] rfl (by (conv => whnf); try rfl) (by (conv => whnf); try rfl) ?_
    · omega
    conv => whnf
    refine ACalls.useE (ref_has _ _ ?_ ?_) [] rfl (by (conv => whnf); try rfl) (by (conv => whnf); try rfl) ?_
    · omega
    · (exact Int.pow_pos (by decide))
    conv => whnf
    (rw [if_neg (by omega)]; exact ⟨rfl, rfl⟩)
  | false =>
    refine ACalls.code tabOk h15 Try.func15 Try.call15 ok15 ?_
    conv => whnf
    refine Bif.knF ?_ fun h0 => ?_
    · (simp; omega)
    rw [h0]
    conv => whnf
    refine Bif.knF ?_ fun h1 => ?_
    · (simp; omega)
    rw [h1]
    conv => whnf
    rw [ed]
    conv => whnf
    refine Req.of ?_ ?_
    · (simp; omega)
    conv => whnf
    refine Bif.knF ?_ fun h2 => ?_
    · (simp; omega)
    rw [h2]
    conv => whnf
    rw [ed]
    conv => whnf
    refine Req.of ?_ ?_
    · (simp; omega)
    conv => whnf
    refine ACalls.useE (ref_pow _ ?_) [] rfl (by (conv => whnf); try rfl) (by (conv => whnf); try rfl) ?_
    · omega
    conv => whnf
    refine ACalls.useE (ref_has _ _ ?_ ?_) [] rfl (by (conv => whnf); try rfl) (by (conv => whnf); try rfl) ?_
    · omega
    · (exact Int.pow_pos (by decide))
    conv => whnf
    rw [e7 (by omega)]
    conv => whnf
    (rw [if_neg (by omega), er (by omega)]; exact ⟨rfl, rfl⟩)
theorem field_graph (b : Int) (mir : Bool) (w d : Int) (hb : 0 ≤ b ∧ b ≤ 255) (hd2 : d ≤ 9223372036854775807) : ACalls Try.prog 14 [.int .u8 b, .bool mir, .int .i64 w, .int .i64 d] [] fun v H => v = .bool (graphI b mir w d) ∧ H = [] := by
  by_cases h : w < 1 ∨ d < 0
  · exact field_graph_out b mir w d h
  · by_cases hk : 7 < d / w
    · exact field_graph_0 b mir w d hb hd2 (by omega) hk
    · exact field_graph_1 b mir w d hb hd2 (by omega) (by omega)
theorem ref_graph (b : Int) (mir : Bool) (w d : Int) (hb : 0 ≤ b ∧ b ≤ 255) (hd2 : d ≤ 9223372036854775807) : ACalls Try.prog 15 [.int .i64 b, .bool mir, .int .i64 w, .int .i64 d] [] fun v H => v = .bool (graphI b mir w d) ∧ H = [] := by
  by_cases h : w < 1 ∨ d < 0
  · exact ref_graph_out b mir w d h
  · by_cases hk : 7 < d / w
    · exact ref_graph_0 b mir w d hb hd2 (by omega) hk
    · exact ref_graph_1 b mir w d hb hd2 (by omega) (by omega)
theorem walk_FieldGraphs (b : Int) (mir : Bool) (w d : Int) (wb : (Lit.int .u8 b).wf = true) (ww : (Lit.int .i64 w).wf = true) (wd : (Lit.int .i64 d).wf = true) : ACalls Try.prog 6 [.agg #[.int .u8 b, .bool mir, .int .i64 w, .int .i64 d]] [] fun v _ => v = .bool true := by
  have hb := wf_u8 wb
  have hd := (wf_i64 wd).2
  have eb : IntKind.i64.wrap b = b := wrap64 (by omega) (by omega)
  refine ACalls.code tabOk h6 Try.func6 Try.call6 ok6 ?_
  conv => whnf
  refine ACalls.useE (field_graph _ _ _ _ ?_ ?_) [] rfl (by (conv => whnf); try rfl) (by (conv => whnf); try rfl) ?_
  · omega
  · omega
  conv => whnf
  rw [eb]
  conv => whnf
  refine ⟨rfl, ?_⟩
  conv => whnf
  refine ⟨rfl, ?_⟩
  conv => whnf
  refine ⟨rfl, ?_⟩
  conv => whnf
  refine ⟨rfl, ?_⟩
  conv => whnf
  refine ACalls.useE (ref_graph _ _ _ _ ?_ ?_) [] rfl (by (conv => whnf); try rfl) (by (conv => whnf); try rfl) ?_
  · omega
  · omega
  conv => whnf
  refine Bif.knT ?_ fun h0 => ?_
  · exact beq_self_eq_true _
  rw [h0]
  conv => whnf
  refine ACalls.useE (awake18) [] rfl (by (conv => whnf); try rfl) (by (conv => whnf); try rfl) ?_
  conv => whnf
theorem graph_in (b : Int) (mir : Bool) {w d : Int} (hw : 1 ≤ w) (hd : 0 ≤ d) (h : d / w ≤ 7) : graphI b mir w d = if mir then bitN b (d / w).toNat else bitN (revI b) (d / w).toNat := by
  unfold graphI; rw [if_neg (by omega), if_neg (by omega)]
theorem flip_eq {b : Int} (hb : 0 ≤ b ∧ b ≤ 255) {w n : Int} (hw : 1 ≤ w ∧ w ≤ 8) (hn : 0 ≤ n ∧ n < 8 * w) : graphI b true w n = graphI b false w (8 * w - 1 - n) ∧ graphI b false w n = graphI b false 1 (n / w) := by
  have hq : 0 ≤ n / w ∧ n / w ≤ 7 ∧ (8 * w - 1 - n) / w = 7 - n / w := by
    have : w = 1 ∨ w = 2 ∨ w = 3 ∨ w = 4 ∨ w = 5 ∨ w = 6 ∨ w = 7 ∨ w = 8 := by omega
    rcases this with rfl | rfl | rfl | rfl | rfl | rfl | rfl | rfl <;> omega
  have hr := revI_bits hb (7 - n / w).toNat (by omega)
  have g1 : 0 ≤ (8 * w - 1 - n) := by omega
  rw [graph_in b true hw.1 hn.1 hq.2.1, graph_in b false hw.1 g1 (by omega), graph_in b false hw.1 hn.1 hq.2.1, graph_in b false (w := 1) (by decide) hq.1 (by rw [Int.ediv_one]; exact hq.2.1), hq.2.2, Int.ediv_one]
  refine ⟨?_, rfl⟩
  simp only [if_true, Bool.false_eq_true, if_false]
  unfold bitN
  rw [hr, show 7 - (7 - n / w).toNat = (n / w).toNat by omega]
theorem walk_FieldFlips (b u v : Int) (wb : (Lit.int .u8 b).wf = true) (wu : (Lit.int .u8 u).wf = true) (wv : (Lit.int .u8 v).wf = true) : ACalls Try.prog 7 [.int .u8 b, .int .u8 u, .int .u8 v] [] fun v _ => v = .bool true := by
  have hb := wf_u8 wb
  have hu := wf_u8 wu
  have hv := wf_u8 wv
  have ew : IntKind.i64.wrap ((IntKind.i64.wrap u).tmod 8 + 1) = u % 8 + 1 := by rw [wrap64 (n := u) (by omega) (by omega), Int.tmod_eq_emod_of_nonneg hu.1, wrap64 (by omega) (by omega)]
  have e8 : IntKind.i64.wrap (8 * (u % 8 + 1)) = 8 * (u % 8 + 1) := wrap64 (by omega) (by omega)
  have hn : (IntKind.i64.wrap v).tmod (8 * (u % 8 + 1)) = v % (8 * (u % 8 + 1)) := by rw [wrap64 (n := v) (by omega) (by omega), Int.tmod_eq_emod_of_nonneg hv.1]
  have hn0 : 0 ≤ v % (8 * (u % 8 + 1)) ∧ v % (8 * (u % 8 + 1)) < 8 * (u % 8 + 1) := ⟨Int.emod_nonneg _ (by omega), Int.emod_lt_of_pos _ (by omega)⟩
  have hw : 1 ≤ u % 8 + 1 ∧ u % 8 + 1 ≤ 8 := by omega
  generalize u % 8 + 1 = w at *
  generalize v % (8 * w) = n at *
  have e9 : IntKind.i64.wrap (8 * w - 1) = 8 * w - 1 := wrap64 (by omega) (by omega)
  have e10 : IntKind.i64.wrap (8 * w - 1 - n) = 8 * w - 1 - n := wrap64 (by omega) (by omega)
  have hd : 0 ≤ n / w ∧ n / w ≤ n := ⟨Int.ediv_nonneg hn0.1 (by omega), Int.ediv_le_self _ hn0.1⟩
  have e11 : IntKind.i64.wrap (n.tdiv w) = n / w := by rw [Int.tdiv_eq_ediv_of_nonneg hn0.1, wrap64 (by omega) (by omega)]
  obtain ⟨f1, f2⟩ := flip_eq hb hw hn0
  refine ACalls.code tabOk h7 Try.func7 Try.call7 ok7 ?_
  conv => whnf
  rw [ew]
  conv => whnf
  rw [e8]
  conv => whnf
  rw [hn]
  conv => whnf
  refine Req.of ?_ ?_
  · (simp; omega)
  conv => whnf
  refine ACalls.useE (field_graph _ _ _ _ ?_ ?_) [] rfl (by (conv => whnf); try rfl) (by (conv => whnf); try rfl) ?_
  · omega
  · omega
  conv => whnf
  refine ACalls.useE (field_graph _ _ _ _ ?_ ?_) [] rfl (by (conv => whnf); try rfl) (by (conv => whnf); try rfl) ?_
  · omega
  · (simp (disch := omega) only [wrap64]; omega)
  conv => whnf
  rw [e8]
  conv => whnf
  rw [e9]
  conv => whnf
  rw [e10]
  conv => whnf
  rw [f1]
  conv => whnf
  refine Bif.knT ?_ fun h0 => ?_
  · exact beq_self_eq_true _
  rw [h0]
  conv => whnf
  rw [e11]
  conv => whnf
  refine Req.of ?_ ?_
  · (simp; omega)
  conv => whnf
  refine ACalls.useE (field_graph _ _ _ _ ?_ ?_) [] rfl (by (conv => whnf); try rfl) (by (conv => whnf); try rfl) ?_
  · omega
  · omega
  conv => whnf
  refine ACalls.useE (field_graph _ _ _ _ ?_ ?_) [] rfl (by (conv => whnf); try rfl) (by (conv => whnf); try rfl) ?_
  · omega
  · omega
  conv => whnf
  rw [f2]
  conv => whnf
  refine Bif.knT ?_ fun h1 => ?_
  · exact beq_self_eq_true _
  rw [h1]
  conv => whnf
  refine ACalls.useE (awake18) [] rfl (by (conv => whnf); try rfl) (by (conv => whnf); try rfl) ?_
  conv => whnf
end Go.Proofs
