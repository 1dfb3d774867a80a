/-
  Walks through the functions of the program, by contract.
-/
import Derived.Test.YteenoopdhflgkaaBaseD
import Derived.Test.YteenoopdhflgkaaCore20
import Derived.Lib.Tables
set_option linter.all false
set_option linter.unusedVariables false
set_option linter.unusedSimpArgs false
set_option linter.unnecessarySimpa false
namespace Go.Proofs
open Go.Aw
set_option maxRecDepth 100000
set_option maxHeartbeats 4000000

/-! Words -/
theorem or_nat (k : IntKind) (hk : k.signed = false) (a b : Nat) (ha : a < 2 ^ k.bits) (hb : b < 2 ^ k.bits) : bits .or k (a : Int) (b : Int) = ((a ||| b : Nat) : Int) := by
  show k.wrap _ = _
  rw [BitVec.ofInt_natCast, BitVec.ofInt_natCast, BitVec.toNat_or, BitVec.toNat_ofNat, BitVec.toNat_ofNat, Nat.mod_eq_of_lt ha, Nat.mod_eq_of_lt hb]
  have := Nat.or_lt_two_pow ha hb
  unfold IntKind.wrap
  rw [hk]
  simp only [Bool.false_and, Bool.false_eq_true, if_false]
  exact_mod_cast Nat.mod_eq_of_lt this
theorem or_add (k : IntKind) (hk : k.signed = false) (i : Nat) (a m : Int) (ha : 0 ≤ a ∧ a < 2 ^ i) (hm : 0 ≤ m) (hb : m * 2 ^ i < 2 ^ k.bits) (hi : i ≤ k.bits) : bits .or k a (m * 2 ^ i) = a + m * 2 ^ i := by
  obtain ⟨x, rfl⟩ : ∃ x : Nat, a = x := ⟨a.toNat, by omega⟩
  obtain ⟨y, rfl⟩ : ∃ y : Nat, m = y := ⟨m.toNat, by omega⟩
  have hx : x < 2 ^ i := by exact_mod_cast ha.2
  have hy : y * 2 ^ i < 2 ^ k.bits := by exact_mod_cast hb
  have hxk : x < 2 ^ k.bits := Nat.lt_of_lt_of_le hx (Nat.pow_le_pow_right (by decide) hi)
  have e : ((y : Int) * 2 ^ i) = ((y * 2 ^ i : Nat) : Int) := by push_cast; rfl
  rw [e, or_nat k hk x _ hxk hy, Nat.or_comm, Nat.mul_comm y, ← Nat.two_pow_add_eq_or_of_lt hx]
  push_cast; omega
theorem wrap32 {n : Int} (h : 0 ≤ n) (h2 : n ≤ 4294967295) : IntKind.u32.wrap n = n := by
  simp only [IntKind.wrap, IntKind.signed, IntKind.bits, Bool.false_and, Bool.false_eq_true, if_false]
  omega
theorem and1_32 (n : Int) : bits .and .u32 n 1 = n % 2 := and_mask .u32 n 1 (by decide)
theorem and1_8 (n : Int) : bits .and .u8 n 1 = n % 2 := and_mask .u8 n 1 (by decide)

/-! A byte, mirrored -/
@[irreducible] def revI (n : Int) : Int := Go.Lib.rev8 n
theorem rev_bits : ∀ b : Nat, b < 256 → ∀ j : Nat, j < 8 → (Go.Lib.rev8 (b : Int)).toNat / 2 ^ j % 2 = b / 2 ^ (7 - j) % 2 := by decide +kernel
theorem rev_lt : ∀ b : Nat, b < 256 → 0 ≤ Go.Lib.rev8 (b : Int) ∧ Go.Lib.rev8 (b : Int) < 256 := by decide +kernel
theorem revI_bd {b : Int} (h : 0 ≤ b ∧ b ≤ 255) : 0 ≤ revI b ∧ revI b < 256 := by
  obtain ⟨x, rfl⟩ : ∃ x : Nat, b = x := ⟨b.toNat, by omega⟩
  unfold revI; exact rev_lt x (by omega)
theorem revI_bits {b : Int} (h : 0 ≤ b ∧ b ≤ 255) (j : Nat) (hj : j < 8) : revI b / 2 ^ j % 2 = b / 2 ^ (7 - j) % 2 := by
  obtain ⟨x, rfl⟩ : ∃ x : Nat, b = x := ⟨b.toNat, by omega⟩
  have h1 := rev_bits x (by omega) j hj
  have h2 := rev_lt x (by omega)
  unfold revI
  obtain ⟨y, hy⟩ : ∃ y : Nat, Go.Lib.rev8 (x : Int) = y := ⟨(Go.Lib.rev8 (x : Int)).toNat, by omega⟩
  rw [hy] at h1 ⊢
  exact_mod_cast h1
theorem str_rev (x : Int) : strAt Go.Lib.rev8tab x = revI x := by unfold strAt revI Go.Lib.rev8; rfl

theorem reverse8 (x : Int) (h : 0 ≤ x ∧ x ≤ 255) : ACalls Try.prog 24 [.int .u8 x] [] fun r H => r = .int .u8 (revI x) ∧ H = [] := by
  have hs : Go.Lib.rev8tab.size = 256 := Go.Lib.rev8tab_size
  rw [← str_rev]
  refine ACalls.code tabOk h24 Try.func24 Try.call24 ok24 ?_
  conv => whnf
  refine Req.of ?_ ?_
  · show (decide (0 ≤ x) && decide (x < ((Go.Lib.rev8tab.size : Nat) : Int))) = true
    rw [hs]; simp; omega
  conv => whnf
  exact ⟨rfl, rfl⟩

/-! The field's row -/
def rowI (p0 p1 p2 : Int) : Int := p0 / 16 + revI p1 * 16 + p2 * 4096
theorem rowI_bd {p0 p1 p2 : Int} (h0 : 0 ≤ p0 ∧ p0 ≤ 255) (h1 : 0 ≤ p1 ∧ p1 ≤ 255) (h2 : 0 ≤ p2 ∧ p2 ≤ 255) : 0 ≤ rowI p0 p1 p2 ∧ rowI p0 p1 p2 < 1048576 := by
  have := revI_bd h1
  unfold rowI; omega
theorem field_row (p0 p1 p2 : Int) (h0 : 0 ≤ p0 ∧ p0 ≤ 255) (h1 : 0 ≤ p1 ∧ p1 ≤ 255) (h2 : 0 ≤ p2 ∧ p2 ≤ 255) : ACalls Try.prog 21 [.agg #[.int .u8 p0, .int .u8 p1, .int .u8 p2]] [] fun r H => r = .int .u32 (rowI p0 p1 p2) ∧ H = [] := by
  have hr := revI_bd h1
  have e0 : IntKind.u32.wrap (p0.fdiv (2 ^ min (4 : Int).toNat IntKind.u8.bits)) = p0 / 16 := by
    rw [show (2 : Int) ^ min (4 : Int).toNat IntKind.u8.bits = 16 from rfl, Int.fdiv_eq_ediv_of_nonneg _ (by decide), wrap32 (by omega) (by omega)]
  have e1 : IntKind.u32.wrap (IntKind.u32.wrap (revI p1) * 2 ^ min (4 : Int).toNat IntKind.u32.bits) = revI p1 * 2 ^ 4 := by
    rw [show (2 : Int) ^ min (4 : Int).toNat IntKind.u32.bits = 2 ^ 4 from rfl, wrap32 (n := revI p1) (by omega) (by omega), wrap32 (by omega) (by omega)]
  have e2 : IntKind.u32.wrap (IntKind.u32.wrap p2 * 2 ^ min (12 : Int).toNat IntKind.u32.bits) = p2 * 2 ^ 12 := by
    rw [show (2 : Int) ^ min (12 : Int).toNat IntKind.u32.bits = 2 ^ 12 from rfl, wrap32 (n := p2) (by omega) (by omega), wrap32 (by omega) (by omega)]
  have e3 := or_add .u32 rfl 4 (p0 / 16) (revI p1) (by omega) (by omega) (by show revI p1 * 2 ^ 4 < 4294967296; omega) (by decide)
  have e4 := or_add .u32 rfl 12 (p0 / 16 + revI p1 * 2 ^ 4) p2 (by omega) (by omega) (by show p2 * 2 ^ 12 < 4294967296; omega) (by decide)
  refine ACalls.code tabOk h21 Try.func21 Try.call21 ok21 ?_
  conv => whnf
  refine ACalls.useE (reverse8 _ ?_) [] rfl (by (conv => whnf); try rfl) (by (conv => whnf); try rfl) ?_
  · omega
  conv => whnf
  refine ⟨rfl, ?_⟩
  conv => whnf
  refine ⟨rfl, ?_⟩
  conv => whnf
  (rw [e0, e1, e2, e3, e4]; exact ⟨rfl, rfl⟩)

def bitN (w : Int) (n : Nat) : Bool := decide (w / 2 ^ n % 2 = 1)
def litN (c x : Int) : Nat := (if x < 80 then x / 4 else if c % 2 = 1 then 19 - (x - 80) / 4 else (x - 80) / 4).toNat
def litI (p0 p1 p2 c x : Int) : Bool := if x < 0 ∨ 160 ≤ x then false else bitN (rowI p0 p1 p2) (litN c x)
theorem field_lit_out (p0 p1 p2 c x : Int) (hx : x < 0 ∨ 160 ≤ x) : ACalls Try.prog 10 [.agg #[.int .u8 p0, .int .u8 p1, .int .u8 p2], .int .u8 c, .int .i64 x] [] fun r H => r = .bool (litI p0 p1 p2 c x) ∧ H = [] := by
  have e : litI p0 p1 p2 c x = false := by unfold litI; rw [if_pos hx]
  rw [e]
  rcases hx with hx | hx
  · refine ACalls.code tabOk h10 Try.func10 Try.call10 ok10 ?_
    conv => whnf
    refine Bif.knT ?_ fun h0 => ?_
    · (simp_all; done)
    rw [h0]
    conv => whnf
    exact ⟨rfl, rfl⟩
  · refine ACalls.code tabOk h10 Try.func10 Try.call10 ok10 ?_
    conv => whnf
    refine Bif.knF ?_ fun h0 => ?_
    · (simp_all; omega)
    rw [h0]
    conv => whnf
    refine Bif.knT ?_ fun h1 => ?_
    · (simp_all; done)
    rw [h1]
    conv => whnf
    exact ⟨rfl, rfl⟩
theorem lit_end {p0 p1 p2 : Int} (h0 : 0 ≤ p0 ∧ p0 ≤ 255) (h1 : 0 ≤ p1 ∧ p1 ≤ 255) (h2 : 0 ≤ p2 ∧ p2 ≤ 255) (n : Int) (m : Nat) (hn : n = m) (hm : m ≤ 19) :
    (bits .and .u32 ((rowI p0 p1 p2).fdiv (2 ^ min n.toNat IntKind.u32.bits)) 1 != 0) = bitN (rowI p0 p1 p2) m := by
  subst hn
  have hb := rowI_bd h0 h1 h2
  rw [show min ((m : Int)).toNat IntKind.u32.bits = m by show min m 32 = m; omega, Int.fdiv_eq_ediv_of_nonneg _ (Int.le_of_lt (Int.pow_pos (by decide))), and1_32]
  unfold bitN
  generalize rowI p0 p1 p2 / 2 ^ m = q
  by_cases h : q % 2 = 1
  · simp [h]
  · have : q % 2 = 0 := by omega
    simp [this]

theorem field_lit_0 (p0 p1 p2 c x : Int) (h0 : 0 ≤ p0 ∧ p0 ≤ 255) (h1 : 0 ≤ p1 ∧ p1 ≤ 255) (h2 : 0 ≤ p2 ∧ p2 ≤ 255) (hx : 0 ≤ x ∧ x < 160) (h : x < 80) : ACalls Try.prog 10 [.agg #[.int .u8 p0, .int .u8 p1, .int .u8 p2], .int .u8 c, .int .i64 x] [] fun r H => r = .bool (litI p0 p1 p2 c x) ∧ H = [] := by
  have e : litI p0 p1 p2 c x = bitN (rowI p0 p1 p2) (litN c x) := by unfold litI; rw [if_neg (by omega)]
  have ed : IntKind.i64.wrap ((x.tmod 80).tdiv 4) = x % 80 / 4 := by rw [Int.tmod_eq_emod_of_nonneg hx.1, Int.tdiv_eq_ediv_of_nonneg (by omega), wrap64 (by omega) (by omega)]
  have en : IntKind.i64.wrap (19 - x % 80 / 4) = 19 - x % 80 / 4 := wrap64 (by omega) (by omega)
  have ec : bits .and .u8 c 1 = c % 2 := and1_8 c
  have hl1 := fun n => lit_end h0 h1 h2 n (litN c x)
  rw [e]
  refine ACalls.code tabOk h10 Try.func10 Try.call10 ok10 ?_
  conv => whnf
  refine Bif.knF ?_ fun h0 => ?_
  · (simp; omega)
  rw [h0]
  conv => whnf
  refine Bif.knF ?_ fun h1 => ?_
  · (simp; omega)
  rw [h1]
  conv => whnf
  rw [ed]
  conv => whnf
  refine Bif.knF ?_ fun h2 => ?_
  · (simp; omega)
  rw [h2]
  conv => whnf
  refine ACalls.useE (field_row _ _ _ ?_ ?_ ?_) [] rfl (by (conv => whnf); try rfl) (by (conv => whnf); try rfl) ?_
  · omega
  · omega
  · omega
  conv => whnf
  refine Req.of ?_ ?_
  · (simp; omega)
  conv => whnf
  (rw [hl1 _ (by unfold litN; (repeat split) <;> omega) (by unfold litN; (repeat split) <;> omega)]; exact ⟨rfl, rfl⟩)
theorem field_lit_1 (p0 p1 p2 c x : Int) (h0 : 0 ≤ p0 ∧ p0 ≤ 255) (h1 : 0 ≤ p1 ∧ p1 ≤ 255) (h2 : 0 ≤ p2 ∧ p2 ≤ 255) (hx : 0 ≤ x ∧ x < 160) (h : 80 ≤ x ∧ c % 2 = 1) : ACalls Try.prog 10 [.agg #[.int .u8 p0, .int .u8 p1, .int .u8 p2], .int .u8 c, .int .i64 x] [] fun r H => r = .bool (litI p0 p1 p2 c x) ∧ H = [] := by
  have e : litI p0 p1 p2 c x = bitN (rowI p0 p1 p2) (litN c x) := by unfold litI; rw [if_neg (by omega)]
  have ed : IntKind.i64.wrap ((x.tmod 80).tdiv 4) = x % 80 / 4 := by rw [Int.tmod_eq_emod_of_nonneg hx.1, Int.tdiv_eq_ediv_of_nonneg (by omega), wrap64 (by omega) (by omega)]
  have en : IntKind.i64.wrap (19 - x % 80 / 4) = 19 - x % 80 / 4 := wrap64 (by omega) (by omega)
  have ec : bits .and .u8 c 1 = c % 2 := and1_8 c
  have hl1 := fun n => lit_end h0 h1 h2 n (litN c x)
  rw [e]
  refine ACalls.code tabOk h10 Try.func10 Try.call10 ok10 ?_
  conv => whnf
  refine Bif.knF ?_ fun h0 => ?_
  · (simp; omega)
  rw [h0]
  conv => whnf
  refine Bif.knF ?_ fun h1 => ?_
  · (simp; omega)
  rw [h1]
  conv => whnf
  rw [ed]
  conv => whnf
  refine Bif.knT ?_ fun h2 => ?_
  · (simp; omega)
  rw [h2]
  conv => whnf
  rw [ec]
  conv => whnf
  refine Bif.knT ?_ fun h3 => ?_
  · (simp; omega)
  rw [h3]
  conv => whnf
  refine ACalls.useE (field_row _ _ _ ?_ ?_ ?_) [] rfl (by (conv => whnf); try rfl) (by (conv => whnf); try rfl) ?_
  · omega
  · omega
  · omega
  conv => whnf
  rw [en]
  conv => whnf
  refine Req.of ?_ ?_
  · (simp; omega)
  conv => whnf
  (rw [hl1 _ (by unfold litN; (repeat split) <;> omega) (by unfold litN; (repeat split) <;> omega)]; exact ⟨rfl, rfl⟩)
theorem field_lit_2 (p0 p1 p2 c x : Int) (h0 : 0 ≤ p0 ∧ p0 ≤ 255) (h1 : 0 ≤ p1 ∧ p1 ≤ 255) (h2 : 0 ≤ p2 ∧ p2 ≤ 255) (hx : 0 ≤ x ∧ x < 160) (h : 80 ≤ x ∧ c % 2 = 0) : ACalls Try.prog 10 [.agg #[.int .u8 p0, .int .u8 p1, .int .u8 p2], .int .u8 c, .int .i64 x] [] fun r H => r = .bool (litI p0 p1 p2 c x) ∧ H = [] := by
  have e : litI p0 p1 p2 c x = bitN (rowI p0 p1 p2) (litN c x) := by unfold litI; rw [if_neg (by omega)]
  have ed : IntKind.i64.wrap ((x.tmod 80).tdiv 4) = x % 80 / 4 := by rw [Int.tmod_eq_emod_of_nonneg hx.1, Int.tdiv_eq_ediv_of_nonneg (by omega), wrap64 (by omega) (by omega)]
  have en : IntKind.i64.wrap (19 - x % 80 / 4) = 19 - x % 80 / 4 := wrap64 (by omega) (by omega)
  have ec : bits .and .u8 c 1 = c % 2 := and1_8 c
  have hl1 := fun n => lit_end h0 h1 h2 n (litN c x)
  rw [e]
  refine ACalls.code tabOk h10 Try.func10 Try.call10 ok10 ?_
  conv => whnf
  refine Bif.knF ?_ fun h0 => ?_
  · (simp; omega)
  rw [h0]
  conv => whnf
  refine Bif.knF ?_ fun h1 => ?_
  · (simp; omega)
  rw [h1]
  conv => whnf
  rw [ed]
  conv => whnf
  refine Bif.knT ?_ fun h2 => ?_
  · (simp; omega)
  rw [h2]
  conv => whnf
  rw [ec]
  conv => whnf
  refine Bif.knF ?_ fun h3 => ?_
  · (simp; omega)
  rw [h3]
  conv => whnf
  refine ACalls.useE (field_row _ _ _ ?_ ?_ ?_) [] rfl (by (conv => whnf); try rfl) (by (conv => whnf); try rfl) ?_
  · omega
  · omega
  · omega
  conv => whnf
  refine Req.of ?_ ?_
  · (simp; omega)
  conv => whnf
  (rw [hl1 _ (by unfold litN; (repeat split) <;> omega) (by unfold litN; (repeat split) <;> omega)]; exact ⟨rfl, rfl⟩)
theorem field_lit (p0 p1 p2 c x : Int) (h0 : 0 ≤ p0 ∧ p0 ≤ 255) (h1 : 0 ≤ p1 ∧ p1 ≤ 255) (h2 : 0 ≤ p2 ∧ p2 ≤ 255) : ACalls Try.prog 10 [.agg #[.int .u8 p0, .int .u8 p1, .int .u8 p2], .int .u8 c, .int .i64 x] [] fun r H => r = .bool (litI p0 p1 p2 c x) ∧ H = [] := by
  by_cases hx : x < 0 ∨ 160 ≤ x
  · exact field_lit_out p0 p1 p2 c x hx
  · by_cases h : x < 80
    · exact field_lit_0 p0 p1 p2 c x h0 h1 h2 (by omega) h
    · by_cases hc : c % 2 = 1
      · exact field_lit_1 p0 p1 p2 c x h0 h1 h2 (by omega) (by omega)
      · exact field_lit_2 p0 p1 p2 c x h0 h1 h2 (by omega) (by omega)
end Go.Proofs
