/-
  Walks through the functions of the program, by contract.
-/
import Derived.Test.YtlodkcpaoljdlaaLawpF
set_option linter.all false
set_option linter.unusedVariables false
set_option linter.unusedSimpArgs false
set_option linter.unnecessarySimpa false
namespace Go.Proofs
open Go.Aw
set_option maxRecDepth 100000
set_option maxHeartbeats 4000000
theorem ref_rowI (n t s N : Int) (hn : 1 ≤ t ∧ t < n ∧ n ≤ 60) (hs : 0 ≤ s ∧ s ≤ 4294967296) (hN : 1 ≤ N ∧ N ≤ 1000000) : ACalls Try.prog 21 [.int .i64 n, .int .i64 t, .int .i64 s, .int .i64 N] [] fun v H => ∃ nc : Nat, N.toNat ≤ nc ∧ v = .slice (some ⟨0, 0, none⟩) N.toNat nc ∧ H = [.cells (rowI .u8 (rwB n.toNat t.toNat s) N.toNat nc) 5] := by
  have := ref_row n.toNat t.toNat s N.toNat (by omega) hs (by omega)
  rw [Int.toNat_of_nonneg (a := n) (by omega), Int.toNat_of_nonneg (a := t) (by omega), Int.toNat_of_nonneg (a := N) (by omega)] at this
  exact this
theorem ref_statesI (n t s N : Int) (hn : 1 ≤ t ∧ t < n ∧ n ≤ 60) (hs : 0 ≤ s ∧ s ≤ 4294967296) (hN : 1 ≤ N ∧ N ≤ 900000) : ACalls Try.prog 22 [.int .i64 n, .int .i64 t, .int .i64 s, .int .i64 N] [] fun v H => ∃ nc : Nat, N.toNat ≤ nc ∧ v = .slice (some ⟨0, 0, none⟩) N.toNat nc ∧ H = [.cells (rowI .i64 (fun j => stS (rwB n.toNat t.toNat s) j n.toNat) N.toNat nc) 3] := by
  have := ref_states n.toNat t.toNat s N.toNat (by omega) hs (by omega)
  rw [Int.toNat_of_nonneg (a := n) (by omega), Int.toNat_of_nonneg (a := t) (by omega), Int.toNat_of_nonneg (a := N) (by omega)] at this
  exact this
theorem ref_fitsI (n s : Int) (hn : 0 ≤ n ∧ n ≤ 60) (hs : 0 ≤ s) : ACalls Try.prog 20 [.int .i64 n, .int .i64 s] [] fun v H => v = .bool (decide (s < 2 ^ n.toNat)) ∧ H = [] := by
  have := ref_fits n.toNat s (by omega) hs
  rw [Int.toNat_of_nonneg hn.1] at this
  exact this
theorem ref_powI (n : Int) (hn : 0 ≤ n ∧ n ≤ 60) : ACalls Try.prog 51 [.int .i64 n] [] fun v H => v = .int .i64 (2 ^ n.toNat) ∧ H = [] := by
  have := ref_pow n.toNat (by omega)
  rw [Int.toNat_of_nonneg hn.1] at this
  exact this
theorem itX8_eq {n t : Nat} {s : Int} (h : 1 ≤ t ∧ t < n ∧ n ≤ 8) (hs : 0 ≤ s ∧ s < 2 ^ n) : ∀ k : Nat, itX8 n t s k = itI n t k s
  | 0 => rfl
  | k + 1 => by
    show nx8 n t (itX8 n t s k) = nxI n t (itI n t k s)
    rw [itX8_eq h hs k]
    exact nx8_eq (by omega) (itI_le (by omega) hs k)
theorem itX16_eq {n t : Nat} {s : Int} (h : 1 ≤ t ∧ t < n ∧ n ≤ 16) (hs : 0 ≤ s ∧ s < 2 ^ n) : ∀ k : Nat, itX16 n t s k = itI n t k s
  | 0 => rfl
  | k + 1 => by
    show nx16 n t (itX16 n t s k) = nxI n t (itI n t k s)
    rw [itX16_eq h hs k]
    exact nx16_eq (by omega) (itI_le (by omega) hs k)
theorem two_pow_le {n m : Nat} (h : n ≤ m) : (2 : Int) ^ n ≤ 2 ^ m := by
  have h2 : (2 : Nat) ^ n ≤ 2 ^ m := Nat.pow_le_pow_right (by decide) h
  have e : ((2 ^ n : Nat) : Int) = (2 : Int) ^ n := by simp
  have e' : ((2 ^ m : Nat) : Int) = (2 : Int) ^ m := by simp
  omega
theorem walk_PolySteps (n t s k : Int) (wn : (Lit.int .i64 n).wf = true) (wt : (Lit.int .i64 t).wf = true) (ws : (Lit.int .u8 s).wf = true) (wk : (Lit.int .u8 k).wf = true) :
    ACalls Try.prog 3 [.agg #[.int .i64 n, .int .i64 t, .int .u8 s, .int .u8 k]] [] fun v _ => v = .bool true := by
  have hs := wf_u8 ws
  have hk := wf_u8 wk
  have es : IntKind.i64.wrap s = s := wrap64 (by omega) (by omega)
  have ek : IntKind.i64.wrap k = k := wrap64 (by omega) (by omega)
  have ek1 : IntKind.i64.wrap (k + 1) = k + 1 := wrap64 (by omega) (by omega)
  by_cases hR : 2 ≤ n ∧ n ≤ 8 ∧ 1 ≤ t ∧ t < n
  · obtain ⟨nn, rfl⟩ : ∃ nn : Nat, n = nn := ⟨n.toNat, by omega⟩
    obtain ⟨tt, rfl⟩ : ∃ tt : Nat, t = tt := ⟨t.toNat, by omega⟩
    have hp := two_pow_le (n := nn) (m := 8) (by omega)
    by_cases hF : s < 2 ^ nn
    · have hFS : 0 ≤ s ∧ s < 2 ^ (nn : Int).toNat := ⟨hs.1, hF⟩
      by_cases hk0 : k = 0
      · subst hk0
        have e0 : stS (rwB nn tt s) 0 nn = s := stS_it (by omega) 0 s ⟨hs.1, hF⟩
        refine ACalls.code tabOk h3 Try.func3 Try.call3 ok3 ?_
        conv => whnf
        refine ACalls.useE (poly8_new _ _ hR) [] rfl (by (conv => whnf); try rfl) (by (conv => whnf); try rfl) ?_
        conv => whnf
        refine ACalls.useE (ref_right_ok _ _ _ hR (by decide)) [] rfl (by (conv => whnf); try rfl) (by (conv => whnf); try rfl) ?_
        conv => whnf
        refine ACalls.useE (poly8_set _ _ _ _ ?_ hFS ?_) [1] rfl (by (conv => whnf); try rfl) (by (conv => whnf); try rfl) ?_
        · omega
        · omega
        conv => whnf
        refine ACalls.useE (ref_fitsI _ _ ?_ ?_) [] rfl (by (conv => whnf); try rfl) (by (conv => whnf); try rfl) ?_
        · omega
        · omega
        conv => whnf
        rw [es]
        conv => whnf
        rw [Int.toNat_natCast]
        conv => whnf
        refine Bif.knF ?_ fun h0 => ?_
        · (simp; omega)
        rw [h0]
        conv => whnf
        refine ACalls.useE (ref_row_none _ _ _) [] rfl (by (conv => whnf); try rfl) (by (conv => whnf); try rfl) ?_
        conv => whnf
        refine ACalls.useX (ref_statesI _ _ _ _ ?_ ?_ ?_) [] rfl (by (conv => whnf); try rfl) (by (conv => whnf); try rfl) ?_
        · omega
        · omega
        · decide
        intro nx1 hx1
        conv => whnf
        rw [es]
        conv => whnf
        rw [Int.toNat_natCast]
        conv => whnf
        rw [Int.toNat_natCast]
        conv => whnf
        refine renL_row ?_
        conv => whnf
        refine ALoop.run 1 ?_
        conv => whnf
        rw [Int.toNat_natCast]
        conv => whnf
        refine getF_row' 0 (by first | omega | rfl) (by decide) (by assumption) ?_
        conv => whnf
        refine ACalls.useE (poly8_state _ _ _) [1] rfl (by (conv => whnf); try rfl) (by (conv => whnf); try rfl) ?_
        conv => whnf
        refine getF_row' 0 (by first | omega | rfl) (by decide) (by assumption) ?_
        conv => whnf
        rw [e0]
        conv => whnf
        refine ⟨rfl, ?_⟩
        conv => whnf
        rw [es]
        conv => whnf
        refine Bif.knT ?_ fun h2 => ?_
        · (simp [es, hF]; done)
        rw [h2]
        conv => whnf
        refine ACalls.useE (awake01) [] rfl (by (conv => whnf); try rfl) (by (conv => whnf); try rfl) ?_
        conv => whnf
        refine getF_row' 0 (by first | omega | rfl) (by decide) (by assumption) ?_
        conv => whnf
        rw [e0]
        conv => whnf
        refine ⟨rfl, ?_⟩
        conv => whnf
      · obtain ⟨kk, rfl⟩ : ∃ kk : Nat, k = kk := ⟨k.toNat, by omega⟩
        have tk1 : ((kk : Int) + 1).toNat = kk + 1 := by omega
        refine ACalls.code tabOk h3 Try.func3 Try.call3 ok3 ?_
        conv => whnf
        refine ACalls.useE (poly8_new _ _ hR) [] rfl (by (conv => whnf); try rfl) (by (conv => whnf); try rfl) ?_
        conv => whnf
        refine ACalls.useE (ref_right_ok _ _ _ hR (by decide)) [] rfl (by (conv => whnf); try rfl) (by (conv => whnf); try rfl) ?_
        conv => whnf
        refine ACalls.useE (poly8_set _ _ _ _ ?_ hFS ?_) [1] rfl (by (conv => whnf); try rfl) (by (conv => whnf); try rfl) ?_
        · omega
        · omega
        conv => whnf
        refine ACalls.useE (ref_fitsI _ _ ?_ ?_) [] rfl (by (conv => whnf); try rfl) (by (conv => whnf); try rfl) ?_
        · omega
        · omega
        conv => whnf
        rw [es]
        conv => whnf
        rw [Int.toNat_natCast]
        conv => whnf
        refine Bif.knF ?_ fun h0 => ?_
        · (simp; omega)
        rw [h0]
        conv => whnf
        refine ACalls.useX (ref_rowI _ _ _ _ ?_ ?_ ?_) [] rfl (by (conv => whnf); try rfl) (by (conv => whnf); try rfl) ?_
        · omega
        · omega
        · omega
        intro nx1 hx1
        conv => whnf
        rw [es]
        conv => whnf
        rw [ek]
        conv => whnf
        rw [Int.toNat_natCast]
        conv => whnf
        rw [Int.toNat_natCast]
        conv => whnf
        rw [Int.toNat_natCast]
        conv => whnf
        refine renL_row ?_
        conv => whnf
        refine ACalls.useX (ref_statesI _ _ _ _ ?_ ?_ ?_) [] rfl (by (conv => whnf); try rfl) (by (conv => whnf); try rfl) ?_
        · omega
        · omega
        · (rw [ek]; omega)
        intro nx2 hx2
        conv => whnf
        rw [es]
        conv => whnf
        rw [ek]
        conv => whnf
        rw [ek1]
        conv => whnf
        rw [tk1]
        conv => whnf
        rw [Int.toNat_natCast]
        conv => whnf
        rw [Int.toNat_natCast]
        conv => whnf
        refine renL_row ?_
        conv => whnf
        revert nx1
        intro rc hrc
        revert nx2
        intro sc hsc
        rw [ek] at hrc
        rw [ek, ek1] at hsc
        have hit : ∀ i : Nat, itX8 nn tt s i = itI nn tt i s := itX8_eq (by omega) ⟨hs.1, hF⟩
        have hst : ∀ i : Nat, stS (rwB nn tt s) i nn = itI nn tt i s := fun i => stS_it (by omega) i s ⟨hs.1, hF⟩
        have hb : ∀ i : Nat, 0 ≤ itI nn tt i s ∧ itI nn tt i s < 2 ^ nn := itI_le (by omega) ⟨hs.1, hF⟩
        have hw : ∀ i : Nat, IntKind.i64.wrap (itX8 nn tt s i) = stS (rwB nn tt s) i nn := fun i => by rw [hst, hit]; have := hb i; exact wrap64 (by omega) (by omega)
        have hlo : ∀ i : Nat, lo8 (itX8 nn tt s i) = rwB nn tt s i := fun i => by rw [lo8_eq, hit]; exact (rwB_it (by omega) i s ⟨hs.1, hF⟩).symm
        refine ALoop.fd (σ := Nat) (fun i => [.chan none, .pointer (some ⟨0, 0, none⟩), .bool false, .pointer (some ⟨1, 0, none⟩), .int .i64 0, .slice (some ⟨2, 0, none⟩) kk rc, .slice (some ⟨3, 0, none⟩) (kk + 1) sc, .int .i64 i, .chan none, .chan none, .chan none, .chan none, .chan none, .chan none, .chan none, .chan none, .chan none, .chan none, .chan none, .chan none, .chan none, .chan none, .chan none, .chan none, .chan none, .chan none, .chan none, .chan none, .chan none, .chan none, .chan none, .chan none, .chan none, .chan none, .chan none, .chan none, .chan none, .chan none, .chan none, .chan none, .chan none, .chan none, .chan none, .chan none, .chan none, .chan none, .chan none, .chan none, .chan none, .chan none, .chan none, .chan none, .chan none, .chan none, .chan none, .chan none, .chan none, .chan none, .chan none, .chan none, .chan none, .chan none, .chan none, .chan none, .chan none, .chan none, .chan none, .chan none, .chan none, .chan none, .chan none, .chan none, .chan none, .chan none, .chan none, .chan none, .chan none, .chan none, .chan none, .chan none, .chan none, .chan none, .chan none, .chan none, .chan none, .chan none, .chan none, .chan none, .chan none, .chan none, .chan none, .chan none, .chan none, .chan none, .chan none, .chan none, .chan none, .chan none, .chan none, .chan none, .chan none, .chan none, .chan none, .chan none, .chan none, .chan none, .chan none, .chan none, .chan none, .chan none, .chan none, .chan none, .chan none, .chan none, .chan none, .chan none, .chan none, .chan none, .chan none, .chan none, .chan none, .chan none, .chan none, .chan none]) (fun i => [.cells [.int .i64 nn, .int .i64 tt, .int .u8 s, .int .u8 kk] 23, .cells [.int .u8 (itX8 nn tt s i), .int .i64 nn, .int .i64 tt] 76, .cells (rowI .u8 (rwB nn tt s) kk rc) 5, .cells (rowI .i64 (fun j => stS (rwB nn tt s) j nn) (kk + 1) sc) 3]) (fun i => i ≤ kk) (fun i => kk - i) 0 [] rfl rfl (Nat.zero_le _) (fun _ => ⟨rfl, rfl, by simp only [List.all_cons, List.all_nil, Bool.and_true, Bool.and_eq_true]; exact ⟨rfl, rfl, row_all fun _ => rfl, row_all fun _ => rfl⟩, rfl⟩) ?_
        intro i hi R hR
        have ei : IntKind.i64.wrap ((i : Int) + 1) = ((i + 1 : Nat) : Int) := by rw [wrap64 (by omega) (by omega)]; rfl
        by_cases hlt : i < kk
        · conv => whnf
          refine Bif.knT ?_ fun h0 => ?_
          · (clear hR; simp; omega)
          rw [h0]
          conv => whnf
          refine Req.of ?_ ?_
          · (clear hR; simp; omega)
          conv => whnf
          refine getF_row' i (by first | omega | (dsimp only; omega)) (by omega) (by omega) ?_
          conv => whnf
          refine ACalls.useE (poly8_state _ _ _) [1] rfl (by (conv => whnf); try rfl) (by (conv => whnf); try rfl) ?_
          conv => whnf
          refine getF_row' i (by first | omega | (dsimp only; omega)) (by omega) (by omega) ?_
          conv => whnf
          refine ⟨rfl, ?_⟩
          conv => whnf
          rw [hw]
          conv => whnf
          refine Bif.knF ?_ fun h1 => ?_
          · (clear hR; simp; done)
          rw [h1]
          conv => whnf
          refine Req.of ?_ ?_
          · (clear hR; simp; omega)
          conv => whnf
          refine getF_row' i (by first | omega | (dsimp only; omega)) (by omega) (by omega) ?_
          conv => whnf
          refine ACalls.useE (poly8_step _ _ _ ?_) [1] rfl (by (conv => whnf); try rfl) (by (conv => whnf); try rfl) ?_
          · omega
          conv => whnf
          rw [hlo]
          conv => whnf
          refine getF_row' i (by first | omega | (dsimp only; omega)) (by omega) (by omega) ?_
          conv => whnf
          refine ⟨rfl, ?_⟩
          conv => whnf
          refine Bif.knF ?_ fun h2 => ?_
          · (clear hR; simp; done)
          rw [h2]
          conv => whnf
          (rw [ei]; exact hR (i + 1) _ _ [] rfl rfl (by omega) (by omega))
        · obtain rfl : i = kk := by omega
          clear hR
          conv => whnf
          refine Bif.knF ?_ fun h0 => ?_
          · (simp; done)
          rw [h0]
          conv => whnf
          refine Req.of ?_ ?_
          · (simp; omega)
          conv => whnf
          refine getF_row' i (by first | omega | (dsimp only; omega)) (by omega) (by omega) ?_
          conv => whnf
          refine ACalls.useE (poly8_state _ _ _) [1] rfl (by (conv => whnf); try rfl) (by (conv => whnf); try rfl) ?_
          conv => whnf
          refine getF_row' i (by first | omega | (dsimp only; omega)) (by omega) (by omega) ?_
          conv => whnf
          refine ⟨rfl, ?_⟩
          conv => whnf
          rw [hw]
          conv => whnf
          refine Bif.knT ?_ fun h1 => ?_
          · (simp; done)
          rw [h1]
          conv => whnf
          refine ACalls.useE (awake01) [] rfl (by (conv => whnf); try rfl) (by (conv => whnf); try rfl) ?_
          conv => whnf
          refine getF_row' i (by first | omega | (dsimp only; omega)) (by omega) (by omega) ?_
          conv => whnf
          refine ⟨rfl, ?_⟩
          conv => whnf
    · have hFB : 2 ^ (nn : Int).toNat ≤ s := Int.not_lt.1 hF
      refine ACalls.code tabOk h3 Try.func3 Try.call3 ok3 ?_
      conv => whnf
      refine ACalls.useE (poly8_new _ _ hR) [] rfl (by (conv => whnf); try rfl) (by (conv => whnf); try rfl) ?_
      conv => whnf
      refine ACalls.useE (ref_right_ok _ _ _ hR (by decide)) [] rfl (by (conv => whnf); try rfl) (by (conv => whnf); try rfl) ?_
      conv => whnf
      refine ACalls.useE (poly8_set_bad _ _ _ _ ?_ hFB ?_) [1] rfl (by (conv => whnf); try rfl) (by (conv => whnf); try rfl) ?_
      · omega
      · omega
      conv => whnf
      refine ACalls.useE (ref_fitsI _ _ ?_ ?_) [] rfl (by (conv => whnf); try rfl) (by (conv => whnf); try rfl) ?_
      · omega
      · omega
      conv => whnf
      rw [es]
      conv => whnf
      refine Bif.knT ?_ fun h0 => ?_
      · (simp; omega)
      rw [h0]
      conv => whnf
      refine ACalls.useE (poly8_state _ _ _) [1] rfl (by (conv => whnf); try rfl) (by (conv => whnf); try rfl) ?_
      conv => whnf
      refine ACalls.useE (awake01) [] rfl (by (conv => whnf); try rfl) (by (conv => whnf); try rfl) ?_
      conv => whnf
  · refine ACalls.code tabOk h3 Try.func3 Try.call3 ok3 ?_
    conv => whnf
    refine ACalls.useE (poly8_bad _ _ hR) [] rfl (by (conv => whnf); try rfl) (by (conv => whnf); try rfl) ?_
    conv => whnf
    refine ACalls.useE (ref_right_bad _ _ _ hR (by decide)) [] rfl (by (conv => whnf); try rfl) (by (conv => whnf); try rfl) ?_
    conv => whnf
    refine ACalls.useE (poly8_step_nil) [] rfl (by (conv => whnf); try rfl) (by (conv => whnf); try rfl) ?_
    conv => whnf
    refine ACalls.useE (poly8_state_nil) [] rfl (by (conv => whnf); try rfl) (by (conv => whnf); try rfl) ?_
    conv => whnf
    refine ACalls.useE (poly8_set_nil _) [] rfl (by (conv => whnf); try rfl) (by (conv => whnf); try rfl) ?_
    conv => whnf
    refine ACalls.useE (awake01) [] rfl (by (conv => whnf); try rfl) (by (conv => whnf); try rfl) ?_
    conv => whnf
end Go.Proofs
