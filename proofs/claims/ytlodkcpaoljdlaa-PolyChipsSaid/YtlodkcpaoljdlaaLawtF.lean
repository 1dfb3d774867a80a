/-
  Walks through the functions of the program, by contract.
-/
import Derived.Test.YtlodkcpaoljdlaaLawrF
set_option linter.all false
set_option linter.unusedVariables false
set_option linter.unusedSimpArgs false
set_option linter.unnecessarySimpa false
namespace Go.Proofs
open Go.Aw
set_option maxRecDepth 100000
set_option maxHeartbeats 4000000
theorem pow16I {nn : Nat} (h : nn ≤ 16) : (2 : Int) ^ nn ≤ 65536 ∧ (0 : Int) < 2 ^ nn ∧ ((2 : Int) ^ nn).toNat = 2 ^ nn := by
  have h1 := pow16_le h
  have e : ((2 ^ nn : Nat) : Int) = (2 : Int) ^ nn := by simp
  exact ⟨by omega, Int.pow_pos (by decide), by rw [← e, Int.toNat_natCast]⟩
theorem ref_place (n t : Nat) (s : Int) (hn : 1 ≤ t ∧ t < n ∧ n ≤ 16) (k0 : Nat) (hk0 : k0 ≤ 2 ^ n) (hb : ∀ k, k < k0 → itI n t k 0 ≠ s ∧ (k = 0 ∨ itI n t k 0 ≠ 0)) (he : itI n t k0 0 = s ∨ (itI n t k0 0 = 0 ∧ 0 < k0)) : ACalls Try.prog 29 [.int .i64 n, .int .i64 t, .int .i64 s] [] fun v H => v = .int .i64 (if itI n t k0 0 = s then k0 else -1) ∧ H = [] := by
  have hp := pow16I (nn := n) hn.2.2
  have hp' := pow16_le (nn := n) hn.2.2
  have ep : IntKind.i64.wrap (2 ^ n + 1) = 2 ^ n + 1 := wrap64 (by omega) (by omega)
  have ep2 : ((2 : Int) ^ n + 1).toNat = 2 ^ n + 1 := by omega
  have hst : ∀ k : Nat, stS (rwB n t 0) k n = itI n t k 0 := fun k => stS_it (by omega) k 0 ⟨Int.le_refl _, hp.2.1⟩
  refine ACalls.code tabOk h29 Try.func29 Try.call29 ok29 ?_
  conv => whnf
  refine ACalls.useE (ref_powI _ ?_) [] rfl (by (conv => whnf); try rfl) (by (conv => whnf); try rfl) ?_
  · omega
  conv => whnf
  refine ACalls.useX (ref_statesI _ _ _ _ ?_ ?_ ?_) [] rfl (by (conv => whnf); try rfl) (by (conv => whnf); try rfl) ?_
  · omega
  · decide
  · (rw [Int.toNat_natCast, ep]; omega)
  intro nx0 hx0
  conv => whnf
  rw [Int.toNat_natCast]
  conv => whnf
  rw [Int.toNat_natCast]
  conv => whnf
  rw [ep]
  conv => whnf
  rw [ep2]
  conv => whnf
  refine renL_row ?_
  conv => whnf
  revert nx0
  intro nc hnc
  have hn2 : 2 ^ n + 1 ≤ nc := by have := hnc; rw [Int.toNat_natCast, ep] at this; omega
  refine ALoop.fd (σ := Nat) (fun i => [.chan none, .chan none, .int .i64 s, .chan none, .chan none, .chan none, .chan none, .slice (some ⟨0, 0, none⟩) (2 ^ n + 1) nc, .int .i64 i, .chan none, .chan none, .chan none, .chan none, .chan none, .chan none, .chan none, .chan none, .chan none, .chan none, .chan none, .chan none, .chan none, .chan none, .chan none, .chan none, .chan none, .chan none, .chan none, .chan none, .chan none, .chan none, .chan none, .chan none, .chan none, .chan none, .chan none, .chan none]) (fun i => [.cells (rowI .i64 (fun j => stS (rwB n t 0) j n) (2 ^ n + 1) nc) 3]) (fun i => i ≤ k0) (fun i => k0 - i) 0 [] rfl rfl (Nat.zero_le _) (fun _ => ⟨rfl, rfl, by simp only [List.all_cons, List.all_nil, Bool.and_true]; exact row_all fun _ => rfl, rfl⟩) ?_
  intro i hi R hR
  have ei : IntKind.i64.wrap ((i : Int) + 1) = ((i + 1 : Nat) : Int) := by rw [wrap64 (by omega) (by omega)]; rfl
  by_cases hlt : i < k0
  · obtain ⟨h1, h2⟩ := hb i hlt
    rcases h2 with rfl | h2
    · conv => whnf
      refine Bif.knT ?_ fun h0 => ?_
      · (clear hR; simp; omega)
      rw [h0]
      conv => whnf
      refine Req.of ?_ ?_
      · (clear hR; simp; omega)
      conv => whnf
      refine getF_row' 0 (by first | omega | (dsimp only; omega)) (by omega) (by omega) ?_
      conv => whnf
      rw [hst]
      conv => whnf
      refine Bif.knF ?_ fun h1 => ?_
      · (clear hR; simp; omega)
      rw [h1]
      conv => whnf
      (rw [ei]; exact hR (0 + 1) _ _ [] rfl rfl (by omega) (by omega))
    · conv => whnf
      refine Bif.knT ?_ fun h0 => ?_
      · (clear hR; simp; omega)
      rw [h0]
      conv => whnf
      refine Req.of ?_ ?_
      · (clear hR; simp; omega)
      conv => whnf
      refine getF_row' i (by first | omega | (dsimp only; omega)) (by omega) (by omega) ?_
      conv => whnf
      rw [hst]
      conv => whnf
      refine Bif.knF ?_ fun h1 => ?_
      · (clear hR; simp; omega)
      rw [h1]
      conv => whnf
      refine Bif.of (fun h2 => ?_) fun h2 => ?_
      · rw [h2]
        conv => whnf
        refine Req.of ?_ ?_
        · (clear hR; simp; omega)
        conv => whnf
        refine getF_row' i (by first | omega | (dsimp only; omega)) (by omega) (by omega) ?_
        conv => whnf
        rw [hst]
        conv => whnf
        refine Bif.knF ?_ fun h3 => ?_
        · (clear hR; simp; omega)
        rw [h3]
        conv => whnf
        (rw [ei]; exact hR (i + 1) _ _ [] rfl rfl (by omega) (by omega))
      · rw [h2]
        conv => whnf
        (rw [ei]; exact hR (i + 1) _ _ [] rfl rfl (by omega) (by omega))
  · obtain rfl : i = k0 := by omega
    clear hR
    by_cases hs : itI n t i 0 = s
    · rw [if_pos hs]
      conv => whnf
      refine Bif.knT ?_ fun h0 => ?_
      · (simp; omega)
      rw [h0]
      conv => whnf
      refine Req.of ?_ ?_
      · (simp; omega)
      conv => whnf
      refine getF_row' i (by first | omega | (dsimp only; omega)) (by omega) (by omega) ?_
      conv => whnf
      rw [hst]
      conv => whnf
      refine Bif.knT ?_ fun h1 => ?_
      · (simp; omega)
      rw [h1]
      conv => whnf
      exact ⟨rfl, rfl⟩
    · rw [if_neg hs]
      have h0 := he.resolve_left hs
      conv => whnf
      refine Bif.knT ?_ fun h0 => ?_
      · (simp; omega)
      rw [h0]
      conv => whnf
      refine Req.of ?_ ?_
      · (simp; omega)
      conv => whnf
      refine getF_row' i (by first | omega | (dsimp only; omega)) (by omega) (by omega) ?_
      conv => whnf
      rw [hst]
      conv => whnf
      refine Bif.knF ?_ fun h1 => ?_
      · (simp; omega)
      rw [h1]
      conv => whnf
      refine Bif.knT ?_ fun h2 => ?_
      · (simp; omega)
      rw [h2]
      conv => whnf
      refine Req.of ?_ ?_
      · (simp; omega)
      conv => whnf
      refine getF_row' i (by first | omega | (dsimp only; omega)) (by omega) (by omega) ?_
      conv => whnf
      rw [hst]
      conv => whnf
      refine Bif.knT ?_ fun h3 => ?_
      · (simp; omega)
      rw [h3]
      conv => whnf
      exact ⟨rfl, rfl⟩
theorem ref_period (n t : Nat) (s : Int) (hn : 1 ≤ t ∧ t < n ∧ n ≤ 16) (hs : 0 ≤ s ∧ s < 2 ^ n) (k0 : Nat) (hk0 : k0 < 2 ^ n) (hb : ∀ k, k < k0 → itI n t (k + 1) s ≠ s) (he : itI n t (k0 + 1) s = s) : ACalls Try.prog 30 [.int .i64 n, .int .i64 t, .int .i64 s] [] fun v H => v = .int .i64 (k0 + 1 : Nat) ∧ H = [] := by
  have hp := pow16I (nn := n) hn.2.2
  have hp' := pow16_le (nn := n) hn.2.2
  have ep : IntKind.i64.wrap (2 ^ n + 1) = 2 ^ n + 1 := wrap64 (by omega) (by omega)
  have ep2 : ((2 : Int) ^ n + 1).toNat = 2 ^ n + 1 := by omega
  have hst : ∀ k : Nat, stS (rwB n t s) k n = itI n t k s := fun k => stS_it (by omega) k s hs
  refine ACalls.code tabOk h30 Try.func30 Try.call30 ok30 ?_
  conv => whnf
  refine ACalls.useE (ref_powI _ ?_) [] rfl (by (conv => whnf); try rfl) (by (conv => whnf); try rfl) ?_
  · omega
  conv => whnf
  refine ACalls.useX (ref_statesI _ _ _ _ ?_ ?_ ?_) [] rfl (by (conv => whnf); try rfl) (by (conv => whnf); try rfl) ?_
  · omega
  · omega
  · (rw [Int.toNat_natCast, ep]; omega)
  intro nx0 hx0
  conv => whnf
  rw [Int.toNat_natCast]
  conv => whnf
  rw [Int.toNat_natCast]
  conv => whnf
  rw [ep]
  conv => whnf
  rw [ep2]
  conv => whnf
  refine renL_row ?_
  conv => whnf
  revert nx0
  intro nc hnc
  have hn2 : 2 ^ n + 1 ≤ nc := by have := hnc; rw [Int.toNat_natCast, ep] at this; omega
  refine ALoop.fd (σ := Nat) (fun i => [.chan none, .chan none, .int .i64 s, .chan none, .chan none, .chan none, .chan none, .slice (some ⟨0, 0, none⟩) (2 ^ n + 1) nc, .int .i64 (i + 1 : Nat), .chan none, .chan none, .chan none, .chan none, .chan none, .chan none, .chan none, .chan none, .chan none, .chan none, .chan none, .chan none, .chan none, .chan none, .chan none, .chan none, .chan none, .chan none, .chan none, .chan none]) (fun i => [.cells (rowI .i64 (fun j => stS (rwB n t s) j n) (2 ^ n + 1) nc) 3]) (fun i => i ≤ k0) (fun i => k0 - i) 0 [] rfl rfl (Nat.zero_le _) (fun _ => ⟨rfl, rfl, by simp only [List.all_cons, List.all_nil, Bool.and_true]; exact row_all fun _ => rfl, rfl⟩) ?_
  intro i hi R hR
  have ei : IntKind.i64.wrap (((i + 1 : Nat) : Int) + 1) = ((i + 1 + 1 : Nat) : Int) := by rw [wrap64 (by omega) (by omega)]; rfl
  by_cases hlt : i < k0
  · have h1 := hb i hlt
    conv => whnf
    refine Bif.knT ?_ fun h0 => ?_
    · (clear hR; simp; omega)
    rw [h0]
    conv => whnf
    refine Req.of ?_ ?_
    · (clear hR; simp; omega)
    conv => whnf
    refine getF_row' (i + 1) (by first | omega | (dsimp only; omega)) (by omega) (by omega) ?_
    conv => whnf
    rw [hst]
    conv => whnf
    refine Bif.knF ?_ fun h1 => ?_
    · (clear hR; simp; omega)
    rw [h1]
    conv => whnf
    (rw [ei]; exact hR (i + 1) _ _ [] rfl rfl (by omega) (by omega))
  · obtain rfl : i = k0 := by omega
    clear hR
    conv => whnf
    refine Bif.knT ?_ fun h0 => ?_
    · (simp; omega)
    rw [h0]
    conv => whnf
    refine Req.of ?_ ?_
    · (simp; omega)
    conv => whnf
    refine getF_row' (i + 1) (by first | omega | (dsimp only; omega)) (by omega) (by omega) ?_
    conv => whnf
    rw [hst]
    conv => whnf
    refine Bif.knT ?_ fun h1 => ?_
    · (simp; omega)
    rw [h1]
    conv => whnf
    exact ⟨rfl, rfl⟩
theorem ref_place_hit (n t s : Int) (hn : 1 ≤ t ∧ t < n ∧ n ≤ 16) (k0 : Nat) (hk0 : k0 ≤ 2 ^ n.toNat) (hb : ∀ k, k < k0 → itI n.toNat t.toNat k 0 ≠ s ∧ (k = 0 ∨ itI n.toNat t.toNat k 0 ≠ 0)) (he : itI n.toNat t.toNat k0 0 = s) : ACalls Try.prog 29 [.int .i64 n, .int .i64 t, .int .i64 s] [] fun v H => v = .int .i64 k0 ∧ H = [] := by
  have := ref_place n.toNat t.toNat s (by omega) k0 hk0 hb (.inl he)
  rw [if_pos he, Int.toNat_of_nonneg (a := n) (by omega), Int.toNat_of_nonneg (a := t) (by omega)] at this
  exact this
theorem ref_place_miss (n t s : Int) (hn : 1 ≤ t ∧ t < n ∧ n ≤ 16) (k0 : Nat) (hk0 : k0 ≤ 2 ^ n.toNat) (hb : ∀ k, k < k0 → itI n.toNat t.toNat k 0 ≠ s ∧ (k = 0 ∨ itI n.toNat t.toNat k 0 ≠ 0)) (he : itI n.toNat t.toNat k0 0 ≠ s) (h0 : itI n.toNat t.toNat k0 0 = 0 ∧ 0 < k0) : ACalls Try.prog 29 [.int .i64 n, .int .i64 t, .int .i64 s] [] fun v H => v = .int .i64 (-1) ∧ H = [] := by
  have := ref_place n.toNat t.toNat s (by omega) k0 hk0 hb (.inr h0)
  rw [if_neg he, Int.toNat_of_nonneg (a := n) (by omega), Int.toNat_of_nonneg (a := t) (by omega)] at this
  exact this
theorem ref_periodI (n t s : Int) (hn : 1 ≤ t ∧ t < n ∧ n ≤ 16) (hs : 0 ≤ s ∧ s < 2 ^ n.toNat) (k0 : Nat) (hk0 : k0 < 2 ^ n.toNat) (hb : ∀ k, k < k0 → itI n.toNat t.toNat (k + 1) s ≠ s) (he : itI n.toNat t.toNat (k0 + 1) s = s) : ACalls Try.prog 30 [.int .i64 n, .int .i64 t, .int .i64 s] [] fun v H => v = .int .i64 (k0 + 1 : Nat) ∧ H = [] := by
  have := ref_period n.toNat t.toNat s (by omega) hs k0 hk0 hb he
  rw [Int.toNat_of_nonneg (a := n) (by omega), Int.toNat_of_nonneg (a := t) (by omega)] at this
  exact this
end Go.Proofs
