/-
  Walks through the functions of the program, by contract.
-/
import Derived.Test.YteenoopdhflgkaaFieldF
set_option linter.all false
set_option linter.unusedVariables false
set_option linter.unusedSimpArgs false
set_option linter.unnecessarySimpa false
namespace Go.Proofs
open Go.Aw
set_option maxRecDepth 100000
set_option maxHeartbeats 4000000

theorem pow_lt60 {m : Nat} (h : m ≤ 60) : (0 : Int) < 2 ^ m ∧ (2 : Int) ^ m ≤ 1152921504606846976 := by
  refine ⟨Int.pow_pos (by decide), ?_⟩
  have h2 : (2 : Nat) ^ m ≤ 2 ^ 60 := Nat.pow_le_pow_right (by decide) h
  rw [show (2 : Int) ^ m = ((2 ^ m : Nat) : Int) by push_cast; rfl]
  exact Int.ofNat_le.2 (Nat.le_trans h2 (by decide))
theorem ref_pow (n : Int) (h : 0 ≤ n ∧ n ≤ 60) : ACalls Try.prog 26 [.int .i64 n] [] fun r H => r = .int .i64 (2 ^ n.toNat) ∧ H = [] := by
  refine ACalls.code tabOk h26 Try.func26 Try.call26 ok26 ?_
  conv => whnf

  refine ALoop.fd (σ := Nat) (fun i => [.int .i64 n, .chan none, .chan none, .int .i64 (2 ^ i), .int .i64 i, .chan none, .chan none, .chan none, .chan none, .chan none, .chan none, .chan none, .chan none]) (fun _ => []) (fun i => i ≤ n.toNat) (fun i => n.toNat - i) 0 [] rfl rfl (Nat.zero_le _) (fun _ => ⟨rfl, rfl, rfl, rfl⟩) ?_
  intro i hi R hR
  have e2 : IntKind.i64.wrap ((i : Int) + 1) = ((i + 1 : Nat) : Int) := by rw [wrap64 (by omega) (by omega)]; rfl
  conv => whnf
  refine Bif.of (fun h0 => ?_) fun h0 => ?_
  · have hlt : (i : Int) < n := by simpa using h0
    have hp := pow_lt60 (m := i) (by omega)
    have e3 : IntKind.i64.wrap ((2 : Int) ^ i * 2) = 2 ^ (i + 1) := by rw [wrap64 (by omega) (by omega)]; exact (Int.pow_succ 2 i).symm
    conv => whnf
    (rw [e2, e3]; exact hR (i + 1) _ _ _ rfl rfl (by omega) (by omega))
  · have hlt : ¬ (i : Int) < n := by simpa using h0
    have hn : n.toNat = i := by omega
    clear hR
    rw [hn]
    conv => whnf
    exact ⟨rfl, rfl⟩
theorem ref_has (n b : Int) (hn : 0 ≤ n ∧ n ≤ 9223372036854775807) (hb : 0 < b) : ACalls Try.prog 25 [.int .i64 n, .int .i64 b] [] fun r H => r = .bool (decide (n / b % 2 = 1)) ∧ H = [] := by
  have hd : 0 ≤ n / b ∧ n / b ≤ n := ⟨Int.ediv_nonneg hn.1 (by omega), Int.ediv_le_self _ hn.1⟩
  have e : ((IntKind.i64.wrap (n.tdiv b)).tmod 2 == 1) = decide (n / b % 2 = 1) := by
    rw [Int.tdiv_eq_ediv_of_nonneg hn.1, wrap64 (by omega) (by omega), Int.tmod_eq_emod_of_nonneg hd.1]; rfl
  refine ACalls.code tabOk h25 Try.func25 Try.call25 ok25 ?_
  conv => whnf
  refine Req.of ?_ ?_
  · (simp; omega)
  conv => whnf
  (simp; omega)
def bitR (p0 p1 p2 n : Int) : Bool := if n < 4 then decide (p0 / 2 ^ (n + 4).toNat % 2 = 1) else if n < 12 then decide (p1 / 2 ^ (11 - n).toNat % 2 = 1) else decide (p2 / 2 ^ (n - 12).toNat % 2 = 1)

theorem ref_bit_0 (p0 p1 p2 n : Int) (h0 : 0 ≤ p0 ∧ p0 ≤ 255) (h1 : 0 ≤ p1 ∧ p1 ≤ 255) (h2 : 0 ≤ p2 ∧ p2 ≤ 255) (h : 0 ≤ n ∧ n < 4) : ACalls Try.prog 22 [.agg #[.int .u8 p0, .int .u8 p1, .int .u8 p2], .int .i64 n] [] fun r H => r = .bool (bitR p0 p1 p2 n) ∧ H = [] := by
  have x0 : IntKind.i64.wrap p0 = p0 := wrap64 (by omega) (by omega)
  have x1 : IntKind.i64.wrap p1 = p1 := wrap64 (by omega) (by omega)
  have x2 : IntKind.i64.wrap p2 = p2 := wrap64 (by omega) (by omega)
  have y0 : IntKind.i64.wrap (n + 4) = n + 4 := wrap64 (by omega) (by omega)
  have y1 : IntKind.i64.wrap (11 - n) = 11 - n := wrap64 (by omega) (by omega)
  have y2 : IntKind.i64.wrap (n - 12) = n - 12 := wrap64 (by omega) (by omega)
  have ppos : ∀ m : Nat, (0 : Int) < 2 ^ m := fun m => Int.pow_pos (by decide)
  unfold bitR
  refine ACalls.code tabOk h22 Try.func22 Try.call22 ok22 ?_
  conv => whnf
  refine Bif.knT ?_ fun h0 => ?_
  · (simp; omega)
  rw [h0]
  conv => whnf
  refine ACalls.useE (ref_pow _ ?_) [] rfl (by (conv => whnf); try rfl) (by (conv => whnf); try rfl) ?_
  · omega
  conv => whnf
  refine ⟨rfl, ?_⟩
  conv => whnf
  refine ACalls.useE (ref_has _ _ ?_ ?_) [] rfl (by (conv => whnf); try rfl) (by (conv => whnf); try rfl) ?_
  · omega
  · exact ppos _
  conv => whnf
  (rw [x0, y0, if_pos (by omega)]; exact ⟨rfl, rfl⟩)
theorem ref_bit_1 (p0 p1 p2 n : Int) (h0 : 0 ≤ p0 ∧ p0 ≤ 255) (h1 : 0 ≤ p1 ∧ p1 ≤ 255) (h2 : 0 ≤ p2 ∧ p2 ≤ 255) (h : 4 ≤ n ∧ n < 12) : ACalls Try.prog 22 [.agg #[.int .u8 p0, .int .u8 p1, .int .u8 p2], .int .i64 n] [] fun r H => r = .bool (bitR p0 p1 p2 n) ∧ H = [] := by
  have x0 : IntKind.i64.wrap p0 = p0 := wrap64 (by omega) (by omega)
  have x1 : IntKind.i64.wrap p1 = p1 := wrap64 (by omega) (by omega)
  have x2 : IntKind.i64.wrap p2 = p2 := wrap64 (by omega) (by omega)
  have y0 : IntKind.i64.wrap (n + 4) = n + 4 := wrap64 (by omega) (by omega)
  have y1 : IntKind.i64.wrap (11 - n) = 11 - n := wrap64 (by omega) (by omega)
  have y2 : IntKind.i64.wrap (n - 12) = n - 12 := wrap64 (by omega) (by omega)
  have ppos : ∀ m : Nat, (0 : Int) < 2 ^ m := fun m => Int.pow_pos (by decide)
  unfold bitR
  refine ACalls.code tabOk h22 Try.func22 Try.call22 ok22 ?_
  conv => whnf
  refine Bif.knF ?_ fun h0 => ?_
  · (simp; omega)
  rw [h0]
  conv => whnf
  refine Bif.knT ?_ fun h1 => ?_
  · (simp; omega)
  rw [h1]
  conv => whnf
  refine ACalls.useE (ref_pow _ ?_) [] rfl (by (conv => whnf); try rfl) (by (conv => whnf); try rfl) ?_
  · omega
  conv => whnf
  refine ⟨rfl, ?_⟩
  conv => whnf
  refine ACalls.useE (ref_has _ _ ?_ ?_) [] rfl (by (conv => whnf); try rfl) (by (conv => whnf); try rfl) ?_
  · omega
  · exact ppos _
  conv => whnf
  (rw [x1, y1, if_neg (by omega), if_pos (by omega)]; exact ⟨rfl, rfl⟩)
theorem ref_bit_2 (p0 p1 p2 n : Int) (h0 : 0 ≤ p0 ∧ p0 ≤ 255) (h1 : 0 ≤ p1 ∧ p1 ≤ 255) (h2 : 0 ≤ p2 ∧ p2 ≤ 255) (h : 12 ≤ n ∧ n ≤ 19) : ACalls Try.prog 22 [.agg #[.int .u8 p0, .int .u8 p1, .int .u8 p2], .int .i64 n] [] fun r H => r = .bool (bitR p0 p1 p2 n) ∧ H = [] := by
  have x0 : IntKind.i64.wrap p0 = p0 := wrap64 (by omega) (by omega)
  have x1 : IntKind.i64.wrap p1 = p1 := wrap64 (by omega) (by omega)
  have x2 : IntKind.i64.wrap p2 = p2 := wrap64 (by omega) (by omega)
  have y0 : IntKind.i64.wrap (n + 4) = n + 4 := wrap64 (by omega) (by omega)
  have y1 : IntKind.i64.wrap (11 - n) = 11 - n := wrap64 (by omega) (by omega)
  have y2 : IntKind.i64.wrap (n - 12) = n - 12 := wrap64 (by omega) (by omega)
  have ppos : ∀ m : Nat, (0 : Int) < 2 ^ m := fun m => Int.pow_pos (by decide)
  unfold bitR
  refine ACalls.code tabOk h22 Try.func22 Try.call22 ok22 ?_
  conv => whnf
  refine Bif.knF ?_ fun h0 => ?_
  · (simp; omega)
  rw [h0]
  conv => whnf
  refine Bif.knF ?_ fun h1 => ?_
  · (simp; omega)
  rw [h1]
  conv => whnf
  refine ACalls.useE (ref_pow _ ?_) [] rfl (by (conv => whnf); try rfl) (by (conv => whnf); try rfl) ?_
  · omega
  conv => whnf
  refine ⟨rfl, ?_⟩
  conv => whnf
  refine ACalls.useE (ref_has _ _ ?_ ?_) [] rfl (by (conv => whnf); try rfl) (by (conv => whnf); try rfl) ?_
  · omega
  · exact ppos _
  conv => whnf
  (rw [x2, y2, if_neg (by omega), if_neg (by omega)]; exact ⟨rfl, rfl⟩)
theorem ref_bit (p0 p1 p2 n : Int) (h0 : 0 ≤ p0 ∧ p0 ≤ 255) (h1 : 0 ≤ p1 ∧ p1 ≤ 255) (h2 : 0 ≤ p2 ∧ p2 ≤ 255) (h : 0 ≤ n ∧ n ≤ 19) : ACalls Try.prog 22 [.agg #[.int .u8 p0, .int .u8 p1, .int .u8 p2], .int .i64 n] [] fun r H => r = .bool (bitR p0 p1 p2 n) ∧ H = [] := by
  by_cases h3 : n < 4
  · exact ref_bit_0 p0 p1 p2 n h0 h1 h2 (by omega)
  · by_cases h4 : n < 12
    · exact ref_bit_1 p0 p1 p2 n h0 h1 h2 (by omega)
    · exact ref_bit_2 p0 p1 p2 n h0 h1 h2 (by omega)
theorem bits_agree {p0 p1 p2 : Int} (h0 : 0 ≤ p0 ∧ p0 ≤ 255) (h1 : 0 ≤ p1 ∧ p1 ≤ 255) (h2 : 0 ≤ p2 ∧ p2 ≤ 255) (n : Nat) (hn : n ≤ 19) : bitR p0 p1 p2 n = bitN (rowI p0 p1 p2) n := by
  have hr := revI_bd h1
  have r0 := revI_bits h1 0 (by decide)
  have r1 := revI_bits h1 1 (by decide)
  have r2 := revI_bits h1 2 (by decide)
  have r3 := revI_bits h1 3 (by decide)
  have r4 := revI_bits h1 4 (by decide)
  have r5 := revI_bits h1 5 (by decide)
  have r6 := revI_bits h1 6 (by decide)
  have r7 := revI_bits h1 7 (by decide)
  simp only [Nat.sub_zero, Nat.reduceSub, Nat.reducePow, Int.reducePow] at r0 r1 r2 r3 r4 r5 r6 r7
  unfold bitN rowI
  generalize revI p1 = r at *
  have hc : n = 0 ∨ n = 1 ∨ n = 2 ∨ n = 3 ∨ n = 4 ∨ n = 5 ∨ n = 6 ∨ n = 7 ∨ n = 8 ∨ n = 9 ∨ n = 10 ∨ n = 11 ∨ n = 12 ∨ n = 13 ∨ n = 14 ∨ n = 15 ∨ n = 16 ∨ n = 17 ∨ n = 18 ∨ n = 19 := by omega
  rcases hc with rfl | rfl | rfl | rfl | rfl | rfl | rfl | rfl | rfl | rfl | rfl | rfl | rfl | rfl | rfl | rfl | rfl | rfl | rfl | rfl
  · show decide (p0 / 16 % 2 = 1) = decide ((p0 / 16 + r * 16 + p2 * 4096) / 1 % 2 = 1)
    rw [decide_eq_decide]; omega
  · show decide (p0 / 32 % 2 = 1) = decide ((p0 / 16 + r * 16 + p2 * 4096) / 2 % 2 = 1)
    rw [decide_eq_decide]; omega
  · show decide (p0 / 64 % 2 = 1) = decide ((p0 / 16 + r * 16 + p2 * 4096) / 4 % 2 = 1)
    rw [decide_eq_decide]; omega
  · show decide (p0 / 128 % 2 = 1) = decide ((p0 / 16 + r * 16 + p2 * 4096) / 8 % 2 = 1)
    rw [decide_eq_decide]; omega
  · show decide (p1 / 128 % 2 = 1) = decide ((p0 / 16 + r * 16 + p2 * 4096) / 16 % 2 = 1)
    have e : (p0 / 16 + r * 16 + p2 * 4096) / 16 % 2 = r / 1 % 2 := by clear r0 r1 r2 r3 r4 r5 r6 r7; omega
    have e2 := r0
    clear r0 r1 r2 r3 r4 r5 r6 r7
    rw [e, decide_eq_decide]; omega
  · show decide (p1 / 64 % 2 = 1) = decide ((p0 / 16 + r * 16 + p2 * 4096) / 32 % 2 = 1)
    have e : (p0 / 16 + r * 16 + p2 * 4096) / 32 % 2 = r / 2 % 2 := by clear r0 r1 r2 r3 r4 r5 r6 r7; omega
    have e2 := r1
    clear r0 r1 r2 r3 r4 r5 r6 r7
    rw [e, decide_eq_decide]; omega
  · show decide (p1 / 32 % 2 = 1) = decide ((p0 / 16 + r * 16 + p2 * 4096) / 64 % 2 = 1)
    have e : (p0 / 16 + r * 16 + p2 * 4096) / 64 % 2 = r / 4 % 2 := by clear r0 r1 r2 r3 r4 r5 r6 r7; omega
    have e2 := r2
    clear r0 r1 r2 r3 r4 r5 r6 r7
    rw [e, decide_eq_decide]; omega
  · show decide (p1 / 16 % 2 = 1) = decide ((p0 / 16 + r * 16 + p2 * 4096) / 128 % 2 = 1)
    have e : (p0 / 16 + r * 16 + p2 * 4096) / 128 % 2 = r / 8 % 2 := by clear r0 r1 r2 r3 r4 r5 r6 r7; omega
    have e2 := r3
    clear r0 r1 r2 r3 r4 r5 r6 r7
    rw [e, decide_eq_decide]; omega
  · show decide (p1 / 8 % 2 = 1) = decide ((p0 / 16 + r * 16 + p2 * 4096) / 256 % 2 = 1)
    have e : (p0 / 16 + r * 16 + p2 * 4096) / 256 % 2 = r / 16 % 2 := by clear r0 r1 r2 r3 r4 r5 r6 r7; omega
    have e2 := r4
    clear r0 r1 r2 r3 r4 r5 r6 r7
    rw [e, decide_eq_decide]; omega
  · show decide (p1 / 4 % 2 = 1) = decide ((p0 / 16 + r * 16 + p2 * 4096) / 512 % 2 = 1)
    have e : (p0 / 16 + r * 16 + p2 * 4096) / 512 % 2 = r / 32 % 2 := by clear r0 r1 r2 r3 r4 r5 r6 r7; omega
    have e2 := r5
    clear r0 r1 r2 r3 r4 r5 r6 r7
    rw [e, decide_eq_decide]; omega
  · show decide (p1 / 2 % 2 = 1) = decide ((p0 / 16 + r * 16 + p2 * 4096) / 1024 % 2 = 1)
    have e : (p0 / 16 + r * 16 + p2 * 4096) / 1024 % 2 = r / 64 % 2 := by clear r0 r1 r2 r3 r4 r5 r6 r7; omega
    have e2 := r6
    clear r0 r1 r2 r3 r4 r5 r6 r7
    rw [e, decide_eq_decide]; omega
  · show decide (p1 / 1 % 2 = 1) = decide ((p0 / 16 + r * 16 + p2 * 4096) / 2048 % 2 = 1)
    have e : (p0 / 16 + r * 16 + p2 * 4096) / 2048 % 2 = r / 128 % 2 := by clear r0 r1 r2 r3 r4 r5 r6 r7; omega
    have e2 := r7
    clear r0 r1 r2 r3 r4 r5 r6 r7
    rw [e, decide_eq_decide]; omega
  · show decide (p2 / 1 % 2 = 1) = decide ((p0 / 16 + r * 16 + p2 * 4096) / 4096 % 2 = 1)
    rw [decide_eq_decide]; omega
  · show decide (p2 / 2 % 2 = 1) = decide ((p0 / 16 + r * 16 + p2 * 4096) / 8192 % 2 = 1)
    rw [decide_eq_decide]; omega
  · show decide (p2 / 4 % 2 = 1) = decide ((p0 / 16 + r * 16 + p2 * 4096) / 16384 % 2 = 1)
    rw [decide_eq_decide]; omega
  · show decide (p2 / 8 % 2 = 1) = decide ((p0 / 16 + r * 16 + p2 * 4096) / 32768 % 2 = 1)
    rw [decide_eq_decide]; omega
  · show decide (p2 / 16 % 2 = 1) = decide ((p0 / 16 + r * 16 + p2 * 4096) / 65536 % 2 = 1)
    rw [decide_eq_decide]; omega
  · show decide (p2 / 32 % 2 = 1) = decide ((p0 / 16 + r * 16 + p2 * 4096) / 131072 % 2 = 1)
    rw [decide_eq_decide]; omega
  · show decide (p2 / 64 % 2 = 1) = decide ((p0 / 16 + r * 16 + p2 * 4096) / 262144 % 2 = 1)
    rw [decide_eq_decide]; omega
  · show decide (p2 / 128 % 2 = 1) = decide ((p0 / 16 + r * 16 + p2 * 4096) / 524288 % 2 = 1)
    rw [decide_eq_decide]; omega
end Go.Proofs
