/-
  Walks through the functions of the program, by contract.
-/
import Derived.Test.YtlodkcpaoljdlaaLawuF
set_option linter.all false
set_option linter.unusedVariables false
set_option linter.unusedSimpArgs false
set_option linter.unnecessarySimpa false
namespace Go.Proofs
open Go.Aw
set_option maxRecDepth 100000
set_option maxHeartbeats 4000000
theorem chk4 : chk0 4 1 14 (nxI 4 1 0) = true := by kernel_rfl
theorem chk5 : chk0 5 2 30 (nxI 5 2 0) = true := by kernel_rfl
theorem chk6 : chk0 6 1 62 (nxI 6 1 0) = true := by kernel_rfl
theorem chk9 : chk0 9 4 510 (nxI 9 4 0) = true := by kernel_rfl
theorem on4 : nxI 4 1 (2 ^ 4 - 1) = 2 ^ 4 - 1 := by decide
theorem on5 : nxI 5 2 (2 ^ 5 - 1) = 2 ^ 5 - 1 := by decide
theorem on6 : nxI 6 1 (2 ^ 6 - 1) = 2 ^ 6 - 1 := by decide
theorem on9 : nxI 9 4 (2 ^ 9 - 1) = 2 ^ 9 - 1 := by decide

theorem per4 (b : Int) (hb : 0 ≤ b ∧ b < 16) (hne : b ≠ 15) : (∀ k, k < 14 → itX16 4 1 b (k + 1) ≠ b) ∧ itX16 4 1 b (14 + 1) = b :=
  chipX (nn := 4) (tt := 1) (p := 14) (by decide) (by decide) chk4 on4 hb hne
theorem perO4 : itX16 4 1 15 (0 + 1) = 15 := chip_ones (nn := 4) (tt := 1) (by decide) on4
theorem msk4 (s : Int) : bits .and .u16 s (IntKind.u16.wrap (IntKind.u16.wrap (1 * 2 ^ min (4 : Int).toNat IntKind.u16.bits) - 1)) = s % 16 := by
  have e : IntKind.u16.wrap (IntKind.u16.wrap (1 * 2 ^ min (4 : Int).toNat IntKind.u16.bits) - 1) = 2 ^ 4 - 1 := by decide
  rw [e]
  exact and_mask .u16 s 4 (by decide)
theorem per5 (b : Int) (hb : 0 ≤ b ∧ b < 32) (hne : b ≠ 31) : (∀ k, k < 30 → itX16 5 2 b (k + 1) ≠ b) ∧ itX16 5 2 b (30 + 1) = b :=
  chipX (nn := 5) (tt := 2) (p := 30) (by decide) (by decide) chk5 on5 hb hne
theorem perO5 : itX16 5 2 31 (0 + 1) = 31 := chip_ones (nn := 5) (tt := 2) (by decide) on5
theorem msk5 (s : Int) : bits .and .u16 s (IntKind.u16.wrap (IntKind.u16.wrap (1 * 2 ^ min (5 : Int).toNat IntKind.u16.bits) - 1)) = s % 32 := by
  have e : IntKind.u16.wrap (IntKind.u16.wrap (1 * 2 ^ min (5 : Int).toNat IntKind.u16.bits) - 1) = 2 ^ 5 - 1 := by decide
  rw [e]
  exact and_mask .u16 s 5 (by decide)
theorem per6 (b : Int) (hb : 0 ≤ b ∧ b < 64) (hne : b ≠ 63) : (∀ k, k < 62 → itX16 6 1 b (k + 1) ≠ b) ∧ itX16 6 1 b (62 + 1) = b :=
  chipX (nn := 6) (tt := 1) (p := 62) (by decide) (by decide) chk6 on6 hb hne
theorem perO6 : itX16 6 1 63 (0 + 1) = 63 := chip_ones (nn := 6) (tt := 1) (by decide) on6
theorem msk6 (s : Int) : bits .and .u16 s (IntKind.u16.wrap (IntKind.u16.wrap (1 * 2 ^ min (6 : Int).toNat IntKind.u16.bits) - 1)) = s % 64 := by
  have e : IntKind.u16.wrap (IntKind.u16.wrap (1 * 2 ^ min (6 : Int).toNat IntKind.u16.bits) - 1) = 2 ^ 6 - 1 := by decide
  rw [e]
  exact and_mask .u16 s 6 (by decide)
theorem per9 (b : Int) (hb : 0 ≤ b ∧ b < 512) (hne : b ≠ 511) : (∀ k, k < 510 → itX16 9 4 b (k + 1) ≠ b) ∧ itX16 9 4 b (510 + 1) = b :=
  chipX (nn := 9) (tt := 4) (p := 510) (by decide) (by decide) chk9 on9 hb hne
theorem perO9 : itX16 9 4 511 (0 + 1) = 511 := chip_ones (nn := 9) (tt := 4) (by decide) on9
theorem msk9 (s : Int) : bits .and .u16 s (IntKind.u16.wrap (IntKind.u16.wrap (1 * 2 ^ min (9 : Int).toNat IntKind.u16.bits) - 1)) = s % 512 := by
  have e : IntKind.u16.wrap (IntKind.u16.wrap (1 * 2 ^ min (9 : Int).toNat IntKind.u16.bits) - 1) = 2 ^ 9 - 1 := by decide
  rw [e]
  exact and_mask .u16 s 9 (by decide)
theorem walk_PolyChips (s : Int) (ws : (Lit.int .u16 s).wf = true) :
    ACalls Try.prog 6 [.int .u16 s] [] fun v _ => v = .bool true := by
  have hs := wf_u16 ws
  refine ACalls.code tabOk h6 Try.func6 Try.call6 ok6 ?_
  conv => whnf

  refine ALoop.fd (σ := Nat) (fun i => [.int .u16 s, .chan none, .bool false, .pointer (some ⟨0, 0, none⟩), .pointer (some ⟨1, 0, none⟩), .pointer (some ⟨2, 0, none⟩), .int .i64 i, .chan none, .chan none, .chan none, .chan none, .chan none, .chan none, .chan none, .chan none, .chan none, .chan none, .chan none, .chan none, .chan none, .chan none, .chan none, .chan none, .chan none, .chan none, .chan none, .chan none, .chan none, .chan none, .chan none, .chan none, .chan none, .chan none, .chan none, .chan none, .chan none, .chan none, .chan none, .chan none, .chan none, .chan none, .chan none, .chan none, .chan none, .chan none, .chan none, .chan none, .chan none]) (fun _ => [.cells [.int .i64 4, .int .i64 5, .int .i64 6, .int .i64 9] 50, .cells [.int .i64 1, .int .i64 2, .int .i64 1, .int .i64 4] 50, .cells [.int .i64 15, .int .i64 31, .int .i64 63, .int .i64 511] 50]) (fun i => i ≤ 4) (fun i => 4 - i) 0 [] rfl rfl (by decide) (fun _ => ⟨rfl, rfl, rfl, rfl⟩) ?_
  intro i hi R hR'
  have hi' : i = 0 ∨ i = 1 ∨ i = 2 ∨ i = 3 ∨ i = 4 := by omega
  rcases hi' with rfl | rfl | rfl | rfl | rfl
  · have hm := msk4 s
    have hbd : 0 ≤ s % 16 ∧ s % 16 < 16 := by omega
    have hR : 2 ≤ (4 : Int) ∧ (4 : Int) ≤ 16 ∧ 1 ≤ (1 : Int) ∧ (1 : Int) < 4 := by decide
    generalize hx : s % 16 = x at hm hbd
    have hFSm : 0 ≤ bits .and .u16 s (IntKind.u16.wrap (IntKind.u16.wrap (1 * 2 ^ min (4 : Int).toNat IntKind.u16.bits) - 1)) ∧ bits .and .u16 s (IntKind.u16.wrap (IntKind.u16.wrap (1 * 2 ^ min (4 : Int).toNat IntKind.u16.bits) - 1)) < 2 ^ (4 : Int).toNat := by rw [hm]; exact hbd
    by_cases hne : x = 15
    · subst hne
      have hb1 : ∀ k, k < 0 → itX16 4 1 15 (k + 1) ≠ 15 := fun k hk => absurd hk (Nat.not_lt_zero _)
      have he1 : itX16 4 1 15 (0 + 1) = 15 := perO4
      obtain ⟨k1, hk1⟩ : ∃ k1 : Nat, k1 = 0 := ⟨0, rfl⟩
      rw [← hk1] at hb1 he1
      conv => whnf
      refine ACalls.useE (poly16_new _ _ hR) [] rfl (by (conv => whnf); try rfl) (by (conv => whnf); try rfl) ?_
      conv => whnf
      refine ACalls.useE (poly16_set _ _ _ _ ?_ hFSm ?_) [3] rfl (by (conv => whnf); try rfl) (by (conv => whnf); try rfl) ?_
      · decide
      · omega
      conv => whnf
      rw [hm]
      conv => whnf
      refine ACalls.useE (period16 _ _ _ ?_ k1 ?_ hb1 he1) [3] rfl (by (conv => whnf); try rfl) (by (conv => whnf); try rfl) ?_
      · decide
      · omega
      conv => whnf
      rw [hk1]
      conv => whnf
      (exact hR' 1 _ _ _ rfl rfl (by decide) (by decide))
    · obtain ⟨hb1, he1⟩ := per4 x hbd hne
      obtain ⟨k1, hk1⟩ : ∃ k1 : Nat, k1 = 14 := ⟨14, rfl⟩
      rw [← hk1] at hb1 he1
      have hne2 : (x == 15) = false := beq_eq_false_iff_ne.2 hne
      conv => whnf
      refine ACalls.useE (poly16_new _ _ hR) [] rfl (by (conv => whnf); try rfl) (by (conv => whnf); try rfl) ?_
      conv => whnf
      refine ACalls.useE (poly16_set _ _ _ _ ?_ hFSm ?_) [3] rfl (by (conv => whnf); try rfl) (by (conv => whnf); try rfl) ?_
      · decide
      · omega
      conv => whnf
      rw [hm]
      conv => whnf
      refine Bif.knF ?_ fun h0 => ?_
      · exact hne2
      rw [h0]
      conv => whnf
      refine ACalls.useE (period16 _ _ _ ?_ k1 ?_ hb1 he1) [3] rfl (by (conv => whnf); try rfl) (by (conv => whnf); try rfl) ?_
      · decide
      · omega
      conv => whnf
      rw [hk1]
      conv => whnf
      (exact hR' 1 _ _ _ rfl rfl (by decide) (by decide))
  · have hm := msk5 s
    have hbd : 0 ≤ s % 32 ∧ s % 32 < 32 := by omega
    have hR : 2 ≤ (5 : Int) ∧ (5 : Int) ≤ 16 ∧ 1 ≤ (2 : Int) ∧ (2 : Int) < 5 := by decide
    generalize hx : s % 32 = x at hm hbd
    have hFSm : 0 ≤ bits .and .u16 s (IntKind.u16.wrap (IntKind.u16.wrap (1 * 2 ^ min (5 : Int).toNat IntKind.u16.bits) - 1)) ∧ bits .and .u16 s (IntKind.u16.wrap (IntKind.u16.wrap (1 * 2 ^ min (5 : Int).toNat IntKind.u16.bits) - 1)) < 2 ^ (5 : Int).toNat := by rw [hm]; exact hbd
    by_cases hne : x = 31
    · subst hne
      have hb1 : ∀ k, k < 0 → itX16 5 2 31 (k + 1) ≠ 31 := fun k hk => absurd hk (Nat.not_lt_zero _)
      have he1 : itX16 5 2 31 (0 + 1) = 31 := perO5
      obtain ⟨k1, hk1⟩ : ∃ k1 : Nat, k1 = 0 := ⟨0, rfl⟩
      rw [← hk1] at hb1 he1
      conv => whnf
      refine ACalls.useE (poly16_new _ _ hR) [] rfl (by (conv => whnf); try rfl) (by (conv => whnf); try rfl) ?_
      conv => whnf
      refine ACalls.useE (poly16_set _ _ _ _ ?_ hFSm ?_) [3] rfl (by (conv => whnf); try rfl) (by (conv => whnf); try rfl) ?_
      · decide
      · omega
      conv => whnf
      rw [hm]
      conv => whnf
      refine ACalls.useE (period16 _ _ _ ?_ k1 ?_ hb1 he1) [3] rfl (by (conv => whnf); try rfl) (by (conv => whnf); try rfl) ?_
      · decide
      · omega
      conv => whnf
      rw [hk1]
      conv => whnf
      (exact hR' 2 _ _ _ rfl rfl (by decide) (by decide))
    · obtain ⟨hb1, he1⟩ := per5 x hbd hne
      obtain ⟨k1, hk1⟩ : ∃ k1 : Nat, k1 = 30 := ⟨30, rfl⟩
      rw [← hk1] at hb1 he1
      have hne2 : (x == 31) = false := beq_eq_false_iff_ne.2 hne
      conv => whnf
      refine ACalls.useE (poly16_new _ _ hR) [] rfl (by (conv => whnf); try rfl) (by (conv => whnf); try rfl) ?_
      conv => whnf
      refine ACalls.useE (poly16_set _ _ _ _ ?_ hFSm ?_) [3] rfl (by (conv => whnf); try rfl) (by (conv => whnf); try rfl) ?_
      · decide
      · omega
      conv => whnf
      rw [hm]
      conv => whnf
      refine Bif.knF ?_ fun h0 => ?_
      · exact hne2
      rw [h0]
      conv => whnf
      refine ACalls.useE (period16 _ _ _ ?_ k1 ?_ hb1 he1) [3] rfl (by (conv => whnf); try rfl) (by (conv => whnf); try rfl) ?_
      · decide
      · omega
      conv => whnf
      rw [hk1]
      conv => whnf
      (exact hR' 2 _ _ _ rfl rfl (by decide) (by decide))
  · have hm := msk6 s
    have hbd : 0 ≤ s % 64 ∧ s % 64 < 64 := by omega
    have hR : 2 ≤ (6 : Int) ∧ (6 : Int) ≤ 16 ∧ 1 ≤ (1 : Int) ∧ (1 : Int) < 6 := by decide
    generalize hx : s % 64 = x at hm hbd
    have hFSm : 0 ≤ bits .and .u16 s (IntKind.u16.wrap (IntKind.u16.wrap (1 * 2 ^ min (6 : Int).toNat IntKind.u16.bits) - 1)) ∧ bits .and .u16 s (IntKind.u16.wrap (IntKind.u16.wrap (1 * 2 ^ min (6 : Int).toNat IntKind.u16.bits) - 1)) < 2 ^ (6 : Int).toNat := by rw [hm]; exact hbd
    by_cases hne : x = 63
    · subst hne
      have hb1 : ∀ k, k < 0 → itX16 6 1 63 (k + 1) ≠ 63 := fun k hk => absurd hk (Nat.not_lt_zero _)
      have he1 : itX16 6 1 63 (0 + 1) = 63 := perO6
      obtain ⟨k1, hk1⟩ : ∃ k1 : Nat, k1 = 0 := ⟨0, rfl⟩
      rw [← hk1] at hb1 he1
      conv => whnf
      refine ACalls.useE (poly16_new _ _ hR) [] rfl (by (conv => whnf); try rfl) (by (conv => whnf); try rfl) ?_
      conv => whnf
      refine ACalls.useE (poly16_set _ _ _ _ ?_ hFSm ?_) [3] rfl (by (conv => whnf); try rfl) (by (conv => whnf); try rfl) ?_
      · decide
      · omega
      conv => whnf
      rw [hm]
      conv => whnf
      refine ACalls.useE (period16 _ _ _ ?_ k1 ?_ hb1 he1) [3] rfl (by (conv => whnf); try rfl) (by (conv => whnf); try rfl) ?_
      · decide
      · omega
      conv => whnf
      rw [hk1]
      conv => whnf
      (exact hR' 3 _ _ _ rfl rfl (by decide) (by decide))
    · obtain ⟨hb1, he1⟩ := per6 x hbd hne
      obtain ⟨k1, hk1⟩ : ∃ k1 : Nat, k1 = 62 := ⟨62, rfl⟩
      rw [← hk1] at hb1 he1
      have hne2 : (x == 63) = false := beq_eq_false_iff_ne.2 hne
      conv => whnf
      refine ACalls.useE (poly16_new _ _ hR) [] rfl (by (conv => whnf); try rfl) (by (conv => whnf); try rfl) ?_
      conv => whnf
      refine ACalls.useE (poly16_set _ _ _ _ ?_ hFSm ?_) [3] rfl (by (conv => whnf); try rfl) (by (conv => whnf); try rfl) ?_
      · decide
      · omega
      conv => whnf
      rw [hm]
      conv => whnf
      refine Bif.knF ?_ fun h0 => ?_
      · exact hne2
      rw [h0]
      conv => whnf
      refine ACalls.useE (period16 _ _ _ ?_ k1 ?_ hb1 he1) [3] rfl (by (conv => whnf); try rfl) (by (conv => whnf); try rfl) ?_
      · decide
      · omega
      conv => whnf
      rw [hk1]
      conv => whnf
      (exact hR' 3 _ _ _ rfl rfl (by decide) (by decide))
  · have hm := msk9 s
    have hbd : 0 ≤ s % 512 ∧ s % 512 < 512 := by omega
    have hR : 2 ≤ (9 : Int) ∧ (9 : Int) ≤ 16 ∧ 1 ≤ (4 : Int) ∧ (4 : Int) < 9 := by decide
    generalize hx : s % 512 = x at hm hbd
    have hFSm : 0 ≤ bits .and .u16 s (IntKind.u16.wrap (IntKind.u16.wrap (1 * 2 ^ min (9 : Int).toNat IntKind.u16.bits) - 1)) ∧ bits .and .u16 s (IntKind.u16.wrap (IntKind.u16.wrap (1 * 2 ^ min (9 : Int).toNat IntKind.u16.bits) - 1)) < 2 ^ (9 : Int).toNat := by rw [hm]; exact hbd
    by_cases hne : x = 511
    · subst hne
      have hb1 : ∀ k, k < 0 → itX16 9 4 511 (k + 1) ≠ 511 := fun k hk => absurd hk (Nat.not_lt_zero _)
      have he1 : itX16 9 4 511 (0 + 1) = 511 := perO9
      obtain ⟨k1, hk1⟩ : ∃ k1 : Nat, k1 = 0 := ⟨0, rfl⟩
      rw [← hk1] at hb1 he1
      conv => whnf
      refine ACalls.useE (poly16_new _ _ hR) [] rfl (by (conv => whnf); try rfl) (by (conv => whnf); try rfl) ?_
      conv => whnf
      refine ACalls.useE (poly16_set _ _ _ _ ?_ hFSm ?_) [3] rfl (by (conv => whnf); try rfl) (by (conv => whnf); try rfl) ?_
      · decide
      · omega
      conv => whnf
      rw [hm]
      conv => whnf
      refine ACalls.useE (period16 _ _ _ ?_ k1 ?_ hb1 he1) [3] rfl (by (conv => whnf); try rfl) (by (conv => whnf); try rfl) ?_
      · decide
      · omega
      conv => whnf
      rw [hk1]
      conv => whnf
      (exact hR' 4 _ _ _ rfl rfl (by decide) (by decide))
    · obtain ⟨hb1, he1⟩ := per9 x hbd hne
      obtain ⟨k1, hk1⟩ : ∃ k1 : Nat, k1 = 510 := ⟨510, rfl⟩
      rw [← hk1] at hb1 he1
      have hne2 : (x == 511) = false := beq_eq_false_iff_ne.2 hne
      conv => whnf
      refine ACalls.useE (poly16_new _ _ hR) [] rfl (by (conv => whnf); try rfl) (by (conv => whnf); try rfl) ?_
      conv => whnf
      refine ACalls.useE (poly16_set _ _ _ _ ?_ hFSm ?_) [3] rfl (by (conv => whnf); try rfl) (by (conv => whnf); try rfl) ?_
      · decide
      · omega
      conv => whnf
      rw [hm]
      conv => whnf
      refine Bif.knF ?_ fun h0 => ?_
      · exact hne2
      rw [h0]
      conv => whnf
      refine ACalls.useE (period16 _ _ _ ?_ k1 ?_ hb1 he1) [3] rfl (by (conv => whnf); try rfl) (by (conv => whnf); try rfl) ?_
      · decide
      · omega
      conv => whnf
      rw [hk1]
      conv => whnf
      (exact hR' 4 _ _ _ rfl rfl (by decide) (by decide))
  · clear hR'
    conv => whnf
    refine ACalls.useE (awake01) [] rfl (by (conv => whnf); try rfl) (by (conv => whnf); try rfl) ?_
    conv => whnf
end Go.Proofs
