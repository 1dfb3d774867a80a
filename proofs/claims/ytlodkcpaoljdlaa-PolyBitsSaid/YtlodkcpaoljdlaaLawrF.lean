/-
  Walks through the functions of the program, by contract.
-/
import Derived.Test.YtlodkcpaoljdlaaLawqF
set_option linter.all false
set_option linter.unusedVariables false
set_option linter.unusedSimpArgs false
set_option linter.unnecessarySimpa false
namespace Go.Proofs
open Go.Aw
set_option maxRecDepth 100000
set_option maxHeartbeats 4000000
theorem nx16_apart {nn tt : Nat} (h : 1 ≤ tt ∧ tt < nn ∧ nn ≤ 16) {a b : Int} (ha : 0 ≤ a ∧ a < 2 ^ nn) (hb : 0 ≤ b ∧ b < 2 ^ nn) : ((nx16 nn tt a == nx16 nn tt b) == (a == b)) = true := by
  by_cases e : a = b
  · subst e; simp
  · have : nx16 nn tt a ≠ nx16 nn tt b := fun h2 => e (nxI_inj (n := nn) (t := tt) (by omega) ha hb (by rw [← nx16_eq (by omega) ha, ← nx16_eq (by omega) hb]; exact h2))
    rw [beq_eq_false_iff_ne.2 this, beq_eq_false_iff_ne.2 e]; rfl
theorem walk_PolyApart (n t a b : Int) (wn : (Lit.int .i64 n).wf = true) (wt : (Lit.int .i64 t).wf = true) (wa : (Lit.int .u16 a).wf = true) (wb : (Lit.int .u16 b).wf = true) :
    ACalls Try.prog 7 [.int .i64 n, .int .i64 t, .agg #[.int .u16 a, .int .u16 b]] [] fun v _ => v = .bool true := by
  have ha := wf_u16 wa
  have hb := wf_u16 wb
  by_cases hR : 2 ≤ n ∧ n ≤ 16 ∧ 1 ≤ t ∧ t < n
  · obtain ⟨nn, rfl⟩ : ∃ nn : Nat, n = nn := ⟨n.toNat, by omega⟩
    obtain ⟨tt, rfl⟩ : ∃ tt : Nat, t = tt := ⟨t.toNat, by omega⟩
    by_cases hA : a < 2 ^ nn
    · have hFS : 0 ≤ a ∧ a < 2 ^ (nn : Int).toNat := ⟨ha.1, hA⟩
      by_cases hB : b < 2 ^ nn
      · have hFS2 : 0 ≤ b ∧ b < 2 ^ (nn : Int).toNat := ⟨hb.1, hB⟩
        have hx := nx16_apart (nn := nn) (tt := tt) (by omega) hFS hFS2
        refine ACalls.code tabOk h7 Try.func7 Try.call7 ok7 ?_
        conv => whnf
        refine ACalls.useE (poly16_new _ _ hR) [] rfl (by (conv => whnf); try rfl) (by (conv => whnf); try rfl) ?_
        conv => whnf
        refine ACalls.useE (poly16_new _ _ hR) [] rfl (by (conv => whnf); try rfl) (by (conv => whnf); try rfl) ?_
        conv => whnf
        refine ACalls.useE (poly16_set _ _ _ _ ?_ hFS ?_) [1] rfl (by (conv => whnf); try rfl) (by (conv => whnf); try rfl) ?_
        · omega
        · omega
        conv => whnf
        refine ⟨rfl, ?_⟩
        conv => whnf
        refine ACalls.useE (poly16_set _ _ _ _ ?_ hFS2 ?_) [2] rfl (by (conv => whnf); try rfl) (by (conv => whnf); try rfl) ?_
        · omega
        · omega
        conv => whnf
        refine ACalls.useE (poly16_step _ _ _ ?_) [1] rfl (by (conv => whnf); try rfl) (by (conv => whnf); try rfl) ?_
        · omega
        conv => whnf
        refine ACalls.useE (poly16_step _ _ _ ?_) [2] rfl (by (conv => whnf); try rfl) (by (conv => whnf); try rfl) ?_
        · omega
        conv => whnf
        refine ACalls.useE (poly16_state _ _ _) [1] rfl (by (conv => whnf); try rfl) (by (conv => whnf); try rfl) ?_
        conv => whnf
        refine ⟨rfl, ?_⟩
        conv => whnf
        refine ⟨rfl, ?_⟩
        conv => whnf
        refine ACalls.useE (poly16_state _ _ _) [2] rfl (by (conv => whnf); try rfl) (by (conv => whnf); try rfl) ?_
        conv => whnf
        refine ⟨rfl, ?_⟩
        conv => whnf
        refine ⟨rfl, ?_⟩
        conv => whnf
        rw [hx]
        conv => whnf
        refine ACalls.useE (awake01) [] rfl (by (conv => whnf); try rfl) (by (conv => whnf); try rfl) ?_
        conv => whnf
        refine ⟨rfl, ?_⟩
        conv => whnf
        refine ⟨rfl, ?_⟩
        conv => whnf
      · have hFB2 : 2 ^ (nn : Int).toNat ≤ b := Int.not_lt.1 hB
        refine ACalls.code tabOk h7 Try.func7 Try.call7 ok7 ?_
        conv => whnf
        refine ACalls.useE (poly16_new _ _ hR) [] rfl (by (conv => whnf); try rfl) (by (conv => whnf); try rfl) ?_
        conv => whnf
        refine ACalls.useE (poly16_new _ _ hR) [] rfl (by (conv => whnf); try rfl) (by (conv => whnf); try rfl) ?_
        conv => whnf
        refine ACalls.useE (poly16_set _ _ _ _ ?_ hFS ?_) [1] rfl (by (conv => whnf); try rfl) (by (conv => whnf); try rfl) ?_
        · omega
        · omega
        conv => whnf
        refine ⟨rfl, ?_⟩
        conv => whnf
        refine ACalls.useE (poly16_set_bad _ _ _ _ ?_ hFB2 ?_) [2] rfl (by (conv => whnf); try rfl) (by (conv => whnf); try rfl) ?_
        · omega
        · omega
        conv => whnf
        refine ACalls.useE (awake01) [] rfl (by (conv => whnf); try rfl) (by (conv => whnf); try rfl) ?_
        conv => whnf
    · have hFB : 2 ^ (nn : Int).toNat ≤ a := Int.not_lt.1 hA
      by_cases hB : b < 2 ^ nn
      · have hFS2 : 0 ≤ b ∧ b < 2 ^ (nn : Int).toNat := ⟨hb.1, hB⟩
        refine ACalls.code tabOk h7 Try.func7 Try.call7 ok7 ?_
        conv => whnf
        refine ACalls.useE (poly16_new _ _ hR) [] rfl (by (conv => whnf); try rfl) (by (conv => whnf); try rfl) ?_
        conv => whnf
        refine ACalls.useE (poly16_new _ _ hR) [] rfl (by (conv => whnf); try rfl) (by (conv => whnf); try rfl) ?_
        conv => whnf
        refine ACalls.useE (poly16_set_bad _ _ _ _ ?_ hFB ?_) [1] rfl (by (conv => whnf); try rfl) (by (conv => whnf); try rfl) ?_
        · omega
        · omega
        conv => whnf
        refine ⟨rfl, ?_⟩
        conv => whnf
        refine ACalls.useE (poly16_set _ _ _ _ ?_ hFS2 ?_) [2] rfl (by (conv => whnf); try rfl) (by (conv => whnf); try rfl) ?_
        · omega
        · omega
        conv => whnf
        refine ACalls.useE (awake01) [] rfl (by (conv => whnf); try rfl) (by (conv => whnf); try rfl) ?_
        conv => whnf
      · have hFB2 : 2 ^ (nn : Int).toNat ≤ b := Int.not_lt.1 hB
        refine ACalls.code tabOk h7 Try.func7 Try.call7 ok7 ?_
        conv => whnf
        refine ACalls.useE (poly16_new _ _ hR) [] rfl (by (conv => whnf); try rfl) (by (conv => whnf); try rfl) ?_
        conv => whnf
        refine ACalls.useE (poly16_new _ _ hR) [] rfl (by (conv => whnf); try rfl) (by (conv => whnf); try rfl) ?_
        conv => whnf
        refine ACalls.useE (poly16_set_bad _ _ _ _ ?_ hFB ?_) [1] rfl (by (conv => whnf); try rfl) (by (conv => whnf); try rfl) ?_
        · omega
        · omega
        conv => whnf
        refine ⟨rfl, ?_⟩
        conv => whnf
        refine ACalls.useE (poly16_set_bad _ _ _ _ ?_ hFB2 ?_) [2] rfl (by (conv => whnf); try rfl) (by (conv => whnf); try rfl) ?_
        · omega
        · omega
        conv => whnf
        refine ACalls.useE (awake01) [] rfl (by (conv => whnf); try rfl) (by (conv => whnf); try rfl) ?_
        conv => whnf
  · refine ACalls.code tabOk h7 Try.func7 Try.call7 ok7 ?_
    conv => whnf
    refine ACalls.useE (poly16_bad _ _ hR) [] rfl (by (conv => whnf); try rfl) (by (conv => whnf); try rfl) ?_
    conv => whnf
    refine ACalls.useE (poly16_bad _ _ hR) [] rfl (by (conv => whnf); try rfl) (by (conv => whnf); try rfl) ?_
    conv => whnf
    refine ACalls.useE (poly16_set_nil _) [] rfl (by (conv => whnf); try rfl) (by (conv => whnf); try rfl) ?_
    conv => whnf
    refine ⟨rfl, ?_⟩
    conv => whnf
    refine ACalls.useE (poly16_set_nil _) [] rfl (by (conv => whnf); try rfl) (by (conv => whnf); try rfl) ?_
    conv => whnf
    refine ACalls.useE (awake01) [] rfl (by (conv => whnf); try rfl) (by (conv => whnf); try rfl) ?_
    conv => whnf
theorem period_ex {nn tt : Nat} (h : 1 ≤ tt ∧ tt < nn ∧ nn ≤ 16) {s : Int} (hs : 0 ≤ s ∧ s < 2 ^ nn) : ∃ k0 : Nat, k0 < 2 ^ nn ∧ (∀ k, k < k0 → itX16 nn tt s (k + 1) ≠ s) ∧ itX16 nn tt s (k0 + 1) = s := by
  obtain ⟨p, h1, h2, h3⟩ := itI_back (n := nn) (t := tt) (by omega) hs
  obtain ⟨m, g1, g2, g3⟩ := least (p := fun k => itX16 nn tt s (k + 1) = s) (p - 1) (by rw [itX16_eq h hs, show p - 1 + 1 = p by omega]; exact h3)
  exact ⟨m, by omega, g3, g2⟩
theorem pow16_le {nn : Nat} (h : nn ≤ 16) : 2 ^ nn ≤ 65536 := by
  have : 2 ^ nn ≤ 2 ^ 16 := Nat.pow_le_pow_right (by decide) h
  omega
theorem walk_PolyRound (n t s k : Int) (wn : (Lit.int .i64 n).wf = true) (wt : (Lit.int .i64 t).wf = true) (ws : (Lit.int .u16 s).wf = true) (wk : (Lit.int .i64 k).wf = true) :
    ACalls Try.prog 8 [.agg #[.int .i64 n, .int .i64 t, .int .u16 s, .int .i64 k]] [] fun v _ => v = .bool true := by
  have hs := wf_u16 ws
  by_cases hR : 2 ≤ n ∧ n ≤ 16 ∧ 1 ≤ t ∧ t < n
  · obtain ⟨nn, rfl⟩ : ∃ nn : Nat, n = nn := ⟨n.toNat, by omega⟩
    obtain ⟨tt, rfl⟩ : ∃ tt : Nat, t = tt := ⟨t.toNat, by omega⟩
    by_cases h12 : nn ≤ 12
    · by_cases hF : s < 2 ^ nn
      · have hFS : 0 ≤ s ∧ s < 2 ^ (nn : Int).toNat := ⟨hs.1, hF⟩
        obtain ⟨k0, hk0, hb, he⟩ := period_ex (nn := nn) (tt := tt) (by omega) hFS
        have hp := pow16_le (nn := nn) (by omega)
        refine ACalls.code tabOk h8 Try.func8 Try.call8 ok8 ?_
        conv => whnf
        refine ACalls.useE (poly16_new _ _ hR) [] rfl (by (conv => whnf); try rfl) (by (conv => whnf); try rfl) ?_
        conv => whnf
        refine Bif.knF ?_ fun h0 => ?_
        · (simp; omega)
        rw [h0]
        conv => whnf
        refine ACalls.useE (poly16_set _ _ _ _ ?_ hFS ?_) [1] rfl (by (conv => whnf); try rfl) (by (conv => whnf); try rfl) ?_
        · omega
        · omega
        conv => whnf
        refine ACalls.useE (period16 _ _ _ ?_ k0 ?_ hb he) [1] rfl (by (conv => whnf); try rfl) (by (conv => whnf); try rfl) ?_
        · omega
        · omega
        conv => whnf
        refine ALoop.fd (σ := Nat) (fun i => [.chan none, .pointer (some ⟨0, 0, none⟩), .bool false, .pointer (some ⟨1, 0, none⟩), .int .i64 (k0 + 1 : Nat), .int .i64 i, .chan none, .chan none, .chan none, .chan none, .chan none, .chan none, .chan none, .chan none, .chan none, .chan none, .chan none, .chan none, .chan none, .chan none, .chan none, .chan none, .chan none, .chan none, .chan none, .chan none, .chan none, .chan none, .chan none, .chan none, .chan none, .chan none, .chan none, .chan none, .chan none, .chan none, .chan none, .chan none, .chan none, .chan none, .chan none, .chan none, .chan none, .chan none, .chan none, .chan none, .chan none, .chan none, .chan none, .chan none, .chan none, .chan none]) (fun i => [.cells [.int .i64 nn, .int .i64 tt, .int .u16 s, .int .i64 k] 39, .cells [.int .u16 (itX16 nn tt s i), .int .i64 nn, .int .i64 tt] 81]) (fun i => i ≤ k0 + 1) (fun i => k0 + 1 - i) 0 [] rfl rfl (Nat.zero_le _) (fun _ => ⟨rfl, rfl, rfl, rfl⟩) ?_
        intro i hi R hR'
        have ei : IntKind.i64.wrap ((i : Int) + 1) = ((i + 1 : Nat) : Int) := by rw [wrap64 (by omega) (by omega)]; rfl
        by_cases hlt : i < k0 + 1
        · conv => whnf
          refine Bif.knT ?_ fun h0 => ?_
          · (clear hR'; simp; omega)
          rw [h0]
          conv => whnf
          refine ACalls.useE (poly16_step _ _ _ ?_) [1] rfl (by (conv => whnf); try rfl) (by (conv => whnf); try rfl) ?_
          · omega
          conv => whnf
          (rw [ei]; exact hR' (i + 1) _ _ [] rfl rfl (by omega) (by omega))
        · obtain rfl : i = k0 + 1 := by omega
          clear hR'
          conv => whnf
          rw [he]
          conv => whnf
          refine Bif.knF ?_ fun h0 => ?_
          · (simp; done)
          rw [h0]
          conv => whnf
          refine ACalls.useE (poly16_state _ _ _) [1] rfl (by (conv => whnf); try rfl) (by (conv => whnf); try rfl) ?_
          conv => whnf
          refine ⟨rfl, ?_⟩
          conv => whnf
          refine Bif.knT ?_ fun h1 => ?_
          · (simp; done)
          rw [h1]
          conv => whnf
          refine Bif.knT ?_ fun h2 => ?_
          · (simp; omega)
          rw [h2]
          conv => whnf
          refine ACalls.useE (awake01) [] rfl (by (conv => whnf); try rfl) (by (conv => whnf); try rfl) ?_
          conv => whnf
          refine ⟨rfl, ?_⟩
          conv => whnf
      · have hFB : 2 ^ (nn : Int).toNat ≤ s := Int.not_lt.1 hF
        refine ACalls.code tabOk h8 Try.func8 Try.call8 ok8 ?_
        conv => whnf
        refine ACalls.useE (poly16_new _ _ hR) [] rfl (by (conv => whnf); try rfl) (by (conv => whnf); try rfl) ?_
        conv => whnf
        refine Bif.knF ?_ fun h0 => ?_
        · (simp; omega)
        rw [h0]
        conv => whnf
        refine ACalls.useE (poly16_set_bad _ _ _ _ ?_ hFB ?_) [1] rfl (by (conv => whnf); try rfl) (by (conv => whnf); try rfl) ?_
        · omega
        · omega
        conv => whnf
        refine Bif.knF ?_ fun h1 => ?_
        · with_reducible assumption
        rw [h1]
        conv => whnf
        refine ACalls.useE (awake01) [] rfl (by (conv => whnf); try rfl) (by (conv => whnf); try rfl) ?_
        conv => whnf
    · refine ACalls.code tabOk h8 Try.func8 Try.call8 ok8 ?_
      conv => whnf
      refine ACalls.useE (poly16_new _ _ hR) [] rfl (by (conv => whnf); try rfl) (by (conv => whnf); try rfl) ?_
      conv => whnf
      refine Bif.knT ?_ fun h0 => ?_
      · (simp; omega)
      rw [h0]
      conv => whnf
      refine Bif.knT ?_ fun h1 => ?_
      · with_reducible assumption
      rw [h1]
      conv => whnf
  · by_cases h12 : n ≤ 12
    · refine ACalls.code tabOk h8 Try.func8 Try.call8 ok8 ?_
      conv => whnf
      refine ACalls.useE (poly16_bad _ _ hR) [] rfl (by (conv => whnf); try rfl) (by (conv => whnf); try rfl) ?_
      conv => whnf
      refine Bif.knF ?_ fun h0 => ?_
      · (simp; omega)
      rw [h0]
      conv => whnf
      refine Bif.knF ?_ fun h1 => ?_
      · with_reducible assumption
      rw [h1]
      conv => whnf
      refine ACalls.useE (awake01) [] rfl (by (conv => whnf); try rfl) (by (conv => whnf); try rfl) ?_
      conv => whnf
    · refine ACalls.code tabOk h8 Try.func8 Try.call8 ok8 ?_
      conv => whnf
      refine ACalls.useE (poly16_bad _ _ hR) [] rfl (by (conv => whnf); try rfl) (by (conv => whnf); try rfl) ?_
      conv => whnf
      refine Bif.knT ?_ fun h0 => ?_
      · (simp; omega)
      rw [h0]
      conv => whnf
      refine Bif.knT ?_ fun h1 => ?_
      · with_reducible assumption
      rw [h1]
      conv => whnf
end Go.Proofs
