/-
  Walks through the functions of the program, by contract.
-/
import Derived.Test.YtlodkcpaoljdlaaRefaF
set_option linter.all false
set_option linter.unusedVariables false
set_option linter.unusedSimpArgs false
set_option linter.unnecessarySimpa false
namespace Go.Proofs
open Go.Aw
set_option maxRecDepth 100000
set_option maxHeartbeats 4000000
/-- The number that bits from 'k' on make. -/
def stS0 (f : Nat → Int) (k : Nat) : Nat → Int
  | 0 => 0
  | j + 1 => stS0 f k j + f (k + j) * 2 ^ j
@[irreducible] def stS (f : Nat → Int) (k j : Nat) : Int := stS0 f k j
theorem stS_zero (f : Nat → Int) (k : Nat) : stS f k 0 = 0 := by unfold stS; rfl
theorem stS_succ (f : Nat → Int) (k j : Nat) : stS f k (j + 1) = stS f k j + f (k + j) * 2 ^ j := by unfold stS; rfl
theorem stS_le {f : Nat → Int} (hf : ∀ i, f i = 0 ∨ f i = 1) (k : Nat) : ∀ j : Nat, 0 ≤ stS f k j ∧ stS f k j < 2 ^ j
  | 0 => by rw [stS_zero]; decide
  | j + 1 => by
    have := stS_le hf k j
    rw [stS_succ, Int.pow_succ]
    rcases hf (k + j) with e | e <;> rw [e] <;> omega
theorem ref_state (n t : Nat) (s : Int) (N : Nat) (hn : 1 ≤ t ∧ t < n ∧ n ≤ 60) (hs : 0 ≤ s ∧ s ≤ 4294967296) (hN : N ≤ 900000) : ACalls Try.prog 73 [.int .i64 n, .int .i64 t, .int .i64 s, .int .i64 N] [] fun v H => v = .int .i64 (stS (rwB n t s) N n) ∧ H = [] := by
  have eN : IntKind.i64.wrap ((N : Int) + (n : Int)) = ((N + n : Nat) : Int) := by rw [wrap64 (by omega) (by omega)]; omega
  refine ACalls.code tabOk h73 Try.func73 Try.call73 ok73 ?_
  conv => whnf
  rw [eN]
  refine ACalls.useX (ref_row _ _ _ _ ?_ ?_ ?_) [] rfl (by (conv => whnf); try rfl) (by (conv => whnf); try rfl) ?_
  · omega
  · omega
  · omega
  intro nx0 hx0
  conv => whnf
  refine renL_row ?_
  conv => whnf
  revert nx0
  intro nc hnc
  refine ALoop.fd (σ := Nat) (fun i => [.int .i64 n, .chan none, .chan none, .int .i64 N, .chan none, .chan none, .chan none, .chan none, .chan none, .slice (some ⟨0, 0, none⟩) (N + n) nc, .int .i64 (stS (rwB n t s) N i), .int .i64 i, .chan none, .chan none, .chan none, .chan none, .chan none, .chan none, .chan none, .chan none, .chan none, .chan none, .chan none, .chan none, .chan none, .chan none, .chan none, .chan none, .chan none, .chan none, .chan none, .chan none, .chan none, .chan none, .chan none, .chan none, .chan none]) (fun i => [.cells (rowI .u8 (rwB n t s) (N + n) nc) 5]) (fun i => i ≤ n) (fun i => n - i) 0 [] (by rw [stS_zero]; rfl) rfl (Nat.zero_le _) (fun _ => ⟨rfl, rfl, by simp only [List.all_cons, List.all_nil, Bool.and_true]; exact row_all fun _ => rfl, rfl⟩) ?_
  intro i hi R hR
  have ei : IntKind.i64.wrap ((i : Int) + 1) = ((i + 1 : Nat) : Int) := by rw [wrap64 (by omega) (by omega)]; rfl
  have ej : IntKind.i64.wrap ((N : Int) + (i : Int)) = ((N + i : Nat) : Int) := by rw [wrap64 (by omega) (by omega)]; omega
  have hb := stS_le (rwB_bit n t s) N
  conv => whnf
  refine Bif.of (fun h0 => ?_) fun h0 => ?_
  · have hlt : i < n := by have : (i : Int) < n := by simpa using h0
                           omega
    have h1 := hb (i + 1)
    have h1' := pow_lt (i := i + 1) (by omega)
    have h2 := pow_lt (i := i) (by omega)
    have h3 : IntKind.i64.wrap (rwB n t s (N + i)) = rwB n t s (N + i) := by rcases rwB_bit n t s (N + i) with e | e <;> rw [e] <;> decide
    have h4 : IntKind.i64.wrap (rwB n t s (N + i) * 2 ^ i) = rwB n t s (N + i) * 2 ^ i := by rcases rwB_bit n t s (N + i) with e | e <;> rw [e] <;> rw [wrap64 (by omega) (by omega)]
    have h5 : IntKind.i64.wrap (stS (rwB n t s) N i + rwB n t s (N + i) * 2 ^ i) = stS (rwB n t s) N (i + 1) := by rw [← stS_succ, wrap64 (by omega) (by omega)]
    conv => whnf
    rw [ej]
    conv => whnf
    refine Req.of ?_ ?_
    · (clear hR; simp; omega)
    conv => whnf
    refine getF_row' (N + i) (by first | omega | (dsimp only; omega)) (by omega) (by omega) ?_
    conv => whnf
    refine ACalls.useE (ref_pow _ ?_) [] rfl (by (conv => whnf); try rfl) (by (conv => whnf); try rfl) ?_
    · omega
    conv => whnf
    rw [h3]
    conv => whnf
    refine getF_row' (N + i) (by first | omega | (dsimp only; omega)) (by omega) (by omega) ?_
    conv => whnf
    refine ⟨rfl, ?_⟩
    conv => whnf
    rw [h4]
    conv => whnf
    rw [h5]
    conv => whnf
    (rw [ei]; exact hR (i + 1) _ _ [] rfl rfl (by omega) (by omega))
  · have hlt : ¬ i < n := by have : ¬ (i : Int) < n := by simpa using h0
                             omega
    obtain rfl : i = n := by omega
    clear hR
    conv => whnf
    exact ⟨rfl, rfl⟩
def frSts (n N nc : Nat) : Nat × Nat → List Value
  | (0, _) => [.int .i64 n, .chan none, .chan none, .int .i64 N, .chan none, .chan none, .chan none, .chan none, .chan none, .slice (some ⟨0, 0, none⟩) (N + n) nc, .slice none 0 0, .int .i64 0, .chan none, .chan none, .chan none, .chan none, .chan none, .chan none, .chan none, .chan none, .chan none, .chan none, .chan none, .chan none, .chan none, .chan none, .chan none, .chan none, .chan none, .chan none, .chan none, .chan none, .chan none, .chan none, .chan none, .chan none, .chan none, .chan none, .chan none, .chan none, .chan none, .chan none, .chan none, .chan none, .chan none, .chan none, .chan none, .chan none]
  | (k + 1, mc) => [.int .i64 n, .chan none, .chan none, .int .i64 N, .chan none, .chan none, .chan none, .chan none, .chan none, .slice (some ⟨0, 0, none⟩) (N + n) nc, .slice (some ⟨1, 0, none⟩) (k + 1) mc, .int .i64 (k + 1 : Nat), .chan none, .chan none, .chan none, .chan none, .chan none, .chan none, .chan none, .chan none, .chan none, .chan none, .chan none, .chan none, .chan none, .chan none, .chan none, .chan none, .chan none, .chan none, .chan none, .chan none, .chan none, .chan none, .chan none, .chan none, .chan none, .chan none, .chan none, .chan none, .chan none, .chan none, .chan none, .chan none, .chan none, .chan none, .chan none, .chan none]
def hpSts (n t : Nat) (s : Int) (N nc : Nat) : Nat × Nat → List Blk
  | (0, _) => [.cells (rowI .u8 (rwB n t s) (N + n) nc) 5]
  | (k + 1, mc) => [.cells (rowI .u8 (rwB n t s) (N + n) nc) 5, .cells (rowI .i64 (fun j => stS (rwB n t s) j n) (k + 1) mc) 3]
theorem ref_states (n t : Nat) (s : Int) (N : Nat) (hn : 1 ≤ t ∧ t < n ∧ n ≤ 60) (hs : 0 ≤ s ∧ s ≤ 4294967296) (hN : 1 ≤ N ∧ N ≤ 900000) : ACalls Try.prog 22 [.int .i64 n, .int .i64 t, .int .i64 s, .int .i64 N] [] fun v H => ∃ nc : Nat, N ≤ nc ∧ v = .slice (some ⟨0, 0, none⟩) N nc ∧ H = [.cells (rowI .i64 (fun j => stS (rwB n t s) j n) N nc) 3] := by
  have eN : IntKind.i64.wrap ((N : Int) + (n : Int)) = ((N + n : Nat) : Int) := by rw [wrap64 (by omega) (by omega)]; omega
  refine ACalls.codeW tabOk h22 Try.func22 Try.call22 ok22 ?_
  conv => whnf
  rw [eN]
  refine ACalls.useX (ref_row _ _ _ _ ?_ ?_ ?_) [] rfl (by (conv => whnf); try rfl) (by (conv => whnf); try rfl) ?_
  · omega
  · omega
  · omega
  intro nx0 hx0
  conv => whnf
  refine renL_row ?_
  conv => whnf
  revert nx0
  intro nc hnc
  refine ALoop.fdw (σ := Nat × Nat) (frSts n N nc) (hpSts n t s N nc) (fun s => s.1 ≤ N ∧ s.1 ≤ s.2) (fun s => N - s.1) (0, 0) (fade_ren [0] rfl (by (conv => whnf); rfl) ⟨⟨_, rfl, BW.row rfl⟩, trivial⟩) ⟨Nat.zero_le _, Nat.le_refl _⟩ ?_
  rintro ⟨k, mc⟩ ⟨hi, hmc⟩ R hR
  dsimp only at hi hmc
  cases k with
  | zero =>
    conv => whnf
    refine Bif.knT ?_ fun h0 => ?_
    · (simp; omega)
    rw [h0]
    conv => whnf
    have e1 : IntKind.i64.wrap (0 + 1) = ((0 + 1 : Nat) : Int) := by decide
    refine ALoop.fd (σ := Nat) (fun i => [.int .i64 n, .chan none, .chan none, .int .i64 N, .chan none, .chan none, .chan none, .chan none, .chan none, .slice (some ⟨0, 0, none⟩) (N + n) nc, .slice none 0 0, .int .i64 0, .int .i64 (stS (rwB n t s) 0 i), .int .i64 i, .chan none, .chan none, .chan none, .chan none, .chan none, .chan none, .chan none, .chan none, .chan none, .chan none, .chan none, .chan none, .chan none, .chan none, .chan none, .chan none, .chan none, .chan none, .chan none, .chan none, .chan none, .chan none, .chan none, .chan none, .chan none, .chan none, .chan none, .chan none, .chan none, .chan none, .chan none, .chan none, .chan none, .chan none]) (fun i => [.cells (rowI .u8 (rwB n t s) (N + n) nc) 5]) (fun i => i ≤ n) (fun i => n - i) 0 [] (by rw [stS_zero]; rfl) rfl (Nat.zero_le _) (fun _ => ⟨rfl, rfl, by simp only [List.all_cons, List.all_nil, Bool.and_true, Bool.and_eq_true]; first | exact row_all fun _ => rfl | exact ⟨row_all fun _ => rfl, row_all fun _ => rfl⟩, rfl⟩) ?_
    intro i hi' R' hR'
    have ei : IntKind.i64.wrap ((i : Int) + 1) = ((i + 1 : Nat) : Int) := by rw [wrap64 (by omega) (by omega)]; rfl
    have ej : IntKind.i64.wrap (0 + (i : Int)) = ((0 + i : Nat) : Int) := by rw [wrap64 (by omega) (by omega)]; omega
    have hb := stS_le (rwB_bit n t s) (0)
    conv => whnf
    refine Bif.of (fun h0 => ?_) fun h0 => ?_
    · have hlt2 : i < n := by have : (i : Int) < n := by simpa using h0
                              omega
      have h1 := hb (i + 1)
      have h1' := pow_lt (i := i + 1) (by omega)
      have h2 := pow_lt (i := i) (by omega)
      have h3 : IntKind.i64.wrap (rwB n t s (0 + i)) = rwB n t s (0 + i) := by rcases rwB_bit n t s (0 + i) with e | e <;> rw [e] <;> decide
      have h4 : IntKind.i64.wrap (rwB n t s (0 + i) * 2 ^ i) = rwB n t s (0 + i) * 2 ^ i := by rcases rwB_bit n t s (0 + i) with e | e <;> rw [e] <;> rw [wrap64 (by omega) (by omega)]
      have h5 : IntKind.i64.wrap (stS (rwB n t s) (0) i + rwB n t s (0 + i) * 2 ^ i) = stS (rwB n t s) (0) (i + 1) := by rw [← stS_succ, wrap64 (by omega) (by omega)]
      clear hR
      conv => whnf
      rw [ej]
      conv => whnf
      refine Req.of ?_ ?_
      · (clear hR'; simp; omega)
      conv => whnf
      refine getF_row' (0 + i) (by first | omega | (dsimp only; omega)) (by omega) (by omega) ?_
      conv => whnf
      refine ACalls.useE (ref_pow _ ?_) [] rfl (by (conv => whnf); try rfl) (by (conv => whnf); try rfl) ?_
      · omega
      conv => whnf
      rw [h3]
      conv => whnf
      refine getF_row' (0 + i) (by first | omega | (dsimp only; omega)) (by omega) (by omega) ?_
      conv => whnf
      refine ⟨rfl, ?_⟩
      conv => whnf
      rw [h4]
      conv => whnf
      rw [h5]
      conv => whnf
      (rw [ei]; exact hR' (i + 1) _ _ [] rfl rfl (by omega) (by omega))
    · have hlt2 : ¬ i < n := by have : ¬ (i : Int) < n := by simpa using h0
                                omega
      obtain rfl : i = n := by omega
      clear hR'
      conv => whnf
      intro nc2 hc1 hc2
      conv => whnf
      (rw [e1]; exact hR (1, nc2) _ _ ⟨by omega, by omega⟩ (by dsimp only; omega) (fade_ren [0, 2] rfl (by (conv => whnf); rfl) ⟨⟨_, rfl, BW.row rfl⟩, ⟨_, rfl, BW.row (row_start (by omega) rfl)⟩, trivial⟩))
  | succ k =>
    by_cases hlt : k + 1 < N
    · conv => whnf
      refine Bif.knT ?_ fun h0 => ?_
      · (clear hR; simp; omega)
      rw [h0]
      conv => whnf
      have e1 : IntKind.i64.wrap (((k + 1 : Nat) : Int) + 1) = ((k + 2 : Nat) : Int) := by rw [wrap64 (by omega) (by omega)]; omega
      refine ALoop.fd (σ := Nat) (fun i => [.int .i64 n, .chan none, .chan none, .int .i64 N, .chan none, .chan none, .chan none, .chan none, .chan none, .slice (some ⟨0, 0, none⟩) (N + n) nc, .slice (some ⟨1, 0, none⟩) (k + 1) mc, .int .i64 (k + 1 : Nat), .int .i64 (stS (rwB n t s) (k + 1) i), .int .i64 i, .chan none, .chan none, .chan none, .chan none, .chan none, .chan none, .chan none, .chan none, .chan none, .chan none, .chan none, .chan none, .chan none, .chan none, .chan none, .chan none, .chan none, .chan none, .chan none, .chan none, .chan none, .chan none, .chan none, .chan none, .chan none, .chan none, .chan none, .chan none, .chan none, .chan none, .chan none, .chan none, .chan none, .chan none]) (fun i => [.cells (rowI .u8 (rwB n t s) (N + n) nc) 5, .cells (rowI .i64 (fun j => stS (rwB n t s) j n) (k + 1) mc) 3]) (fun i => i ≤ n) (fun i => n - i) 0 [] (by rw [stS_zero]; rfl) rfl (Nat.zero_le _) (fun _ => ⟨rfl, rfl, by simp only [List.all_cons, List.all_nil, Bool.and_true, Bool.and_eq_true]; first | exact row_all fun _ => rfl | exact ⟨row_all fun _ => rfl, row_all fun _ => rfl⟩, rfl⟩) ?_
      intro i hi' R' hR'
      have ei : IntKind.i64.wrap ((i : Int) + 1) = ((i + 1 : Nat) : Int) := by rw [wrap64 (by omega) (by omega)]; rfl
      have ej : IntKind.i64.wrap (((k + 1 : Nat) : Int) + (i : Int)) = ((k + 1 + i : Nat) : Int) := by rw [wrap64 (by omega) (by omega)]; omega
      have hb := stS_le (rwB_bit n t s) (k + 1)
      conv => whnf
      refine Bif.of (fun h0 => ?_) fun h0 => ?_
      · have hlt2 : i < n := by have : (i : Int) < n := by simpa using h0
                                omega
        have h1 := hb (i + 1)
        have h1' := pow_lt (i := i + 1) (by omega)
        have h2 := pow_lt (i := i) (by omega)
        have h3 : IntKind.i64.wrap (rwB n t s (k + 1 + i)) = rwB n t s (k + 1 + i) := by rcases rwB_bit n t s (k + 1 + i) with e | e <;> rw [e] <;> decide
        have h4 : IntKind.i64.wrap (rwB n t s (k + 1 + i) * 2 ^ i) = rwB n t s (k + 1 + i) * 2 ^ i := by rcases rwB_bit n t s (k + 1 + i) with e | e <;> rw [e] <;> rw [wrap64 (by omega) (by omega)]
        have h5 : IntKind.i64.wrap (stS (rwB n t s) (k + 1) i + rwB n t s (k + 1 + i) * 2 ^ i) = stS (rwB n t s) (k + 1) (i + 1) := by rw [← stS_succ, wrap64 (by omega) (by omega)]
        clear hR
        conv => whnf
        rw [ej]
        conv => whnf
        refine Req.of ?_ ?_
        · (clear hR'; simp; omega)
        conv => whnf
        refine getF_row' (k + 1 + i) (by first | omega | (dsimp only; omega)) (by omega) (by omega) ?_
        conv => whnf
        refine ACalls.useE (ref_pow _ ?_) [] rfl (by (conv => whnf); try rfl) (by (conv => whnf); try rfl) ?_
        · omega
        conv => whnf
        rw [h3]
        conv => whnf
        refine getF_row' (k + 1 + i) (by first | omega | (dsimp only; omega)) (by omega) (by omega) ?_
        conv => whnf
        refine ⟨rfl, ?_⟩
        conv => whnf
        rw [h4]
        conv => whnf
        rw [h5]
        conv => whnf
        (rw [ei]; exact hR' (i + 1) _ _ [] rfl rfl (by omega) (by omega))
      · have hlt2 : ¬ i < n := by have : ¬ (i : Int) < n := by simpa using h0
                                  omega
        obtain rfl : i = n := by omega
        clear hR'
        conv => whnf
        refine Bif.of (fun h0 => ?_) fun h0 => ?_
        · conv => whnf
          refine putF_row (f := fun j => stS (rwB i t s) j i) (by simp at *; omega) (by first | omega | (dsimp only; omega)) rfl ?_
          conv => whnf
          (rw [e1]; exact hR (k + 2, mc) _ _ ⟨by dsimp only; omega, by simp at *; omega⟩ (by dsimp only; omega) (fade_ren [0, 1] rfl (by (conv => whnf); rfl) ⟨⟨_, rfl, BW.row rfl⟩, ⟨_, rfl, BW.row rfl⟩, trivial⟩))
        · conv => whnf
          refine Req.of ?_ ?_
          · (simp only [decide_true, Bool.true_and, Bool.and_true, Bool.and_eq_true, decide_eq_true_eq]; exact ⟨⟨by omega, growslice_fits (by simp at *; omega) (by omega)⟩, rfl⟩)
          conv => whnf
          refine dropF_zero ?_
          conv => whnf
          refine takeF_row (by omega) (by first | omega | (dsimp only; omega)) ?_
          conv => whnf
          refine catF_snoc rfl ?_
          conv => whnf
          intro nc2 hc1 hc2
          conv => whnf
          refine catF_row (n := nc2) (by omega) (by omega) ?_
          conv => whnf
          (rw [e1]; exact hR (k + 2, nc2) _ _ ⟨by dsimp only; omega, by dsimp only; omega⟩ (by dsimp only; omega) (fade_ren [0, 3] rfl (by (conv => whnf); rfl) ⟨⟨_, rfl, BW.row rfl⟩, ⟨_, rfl, BW.row rfl⟩, trivial⟩))
    · clear hR
      obtain rfl : k + 1 = N := by omega
      conv => whnf
      refine Bif.knF ?_ fun h0 => ?_
      · (simp; done)
      rw [h0]
      conv => whnf
      exact wk_of (v2 := .slice (some ⟨0, 0, none⟩) (k + 1) mc) (H2 := [.cells (rowI .i64 (fun j => stS (rwB n t s) j n) (k + 1) mc) 3]) [1] rfl (by (conv => whnf); try rfl) ⟨⟨_, rfl, BW.row rfl⟩, trivial⟩ ⟨mc, hmc, rfl, rfl⟩
end Go.Proofs
