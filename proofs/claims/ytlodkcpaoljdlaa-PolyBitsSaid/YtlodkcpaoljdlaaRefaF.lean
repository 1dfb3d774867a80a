/-
  Walks through the functions of the program, by contract.
-/
import Derived.Test.YtlodkcpaoljdlaaTcopF
set_option linter.all false
set_option linter.unusedVariables false
set_option linter.unusedSimpArgs false
set_option linter.unnecessarySimpa false
namespace Go.Proofs
open Go.Aw
set_option maxRecDepth 100000
set_option maxHeartbeats 4000000
theorem pow_lt {i : Nat} (h : i ≤ 61) : (0 : Int) < 2 ^ i ∧ (2 : Int) ^ i ≤ 2305843009213693952 := by
  refine ⟨Int.pow_pos (by decide), ?_⟩
  have h2 : (2 : Nat) ^ i ≤ 2 ^ 61 := Nat.pow_le_pow_right (by decide) h
  have e : ((2 ^ i : Nat) : Int) = (2 : Int) ^ i := by simp
  omega
theorem ref_pow (n : Nat) (hn : n ≤ 60) : ACalls Try.prog 51 [.int .i64 n] [] fun v H => v = .int .i64 (2 ^ n) ∧ H = [] := by
  refine ACalls.code tabOk h51 Try.func51 Try.call51 ok51 ?_
  conv => whnf

  refine ALoop.fd (σ := Nat) (fun i => [.int .i64 n, .chan none, .chan none, .int .i64 (2 ^ i), .int .i64 i, .chan none, .chan none, .chan none, .chan none, .chan none, .chan none, .chan none, .chan none]) (fun i => []) (fun i => i ≤ n) (fun i => n - i) 0 [] rfl rfl (Nat.zero_le _) (fun _ => ⟨rfl, rfl, rfl, rfl⟩) ?_
  intro i hi R hR
  have ei : IntKind.i64.wrap ((i : Int) + 1) = ((i + 1 : Nat) : Int) := by rw [wrap64 (by omega) (by omega)]; rfl
  have hp := pow_lt (i := i) (by omega)
  have ep : IntKind.i64.wrap (2 ^ i * 2) = 2 ^ (i + 1) := by rw [wrap64 (by omega) (by omega), Int.pow_succ]
  conv => whnf
  refine Bif.of (fun h0 => ?_) fun h0 => ?_
  · have hlt : i < n := by have : (i : Int) < n := by simpa using h0
                           omega
    conv => whnf
    (rw [ei, ep]; exact hR (i + 1) _ _ [] rfl rfl (by omega) (by omega))
  · have hlt : ¬ i < n := by have : ¬ (i : Int) < n := by simpa using h0
                             omega
    obtain rfl : i = n := by omega
    clear hR
    conv => whnf
    exact ⟨rfl, rfl⟩
/-- The bits that fall out. -/
@[irreducible] def rwB (n t : Nat) (s : Int) (i : Nat) : Int :=
  if h : i < n ∨ n ≤ t then (s / 2 ^ i) % 2 else if rwB n t s (i - n) = rwB n t s (i - n + t) then 1 else 0
termination_by i
decreasing_by all_goals omega
theorem rwB_lo {n t : Nat} {s : Int} {i : Nat} (h : i < n) : rwB n t s i = (s / 2 ^ i) % 2 := by
  unfold rwB; rw [dif_pos (.inl h)]
theorem rwB_hi {n t : Nat} {s : Int} {i : Nat} (h : n ≤ i) (ht : t < n) : rwB n t s i = if rwB n t s (i - n) = rwB n t s (i - n + t) then 1 else 0 := by
  rw [rwB, dif_neg (by omega)]
theorem rwB_bit (n t : Nat) (s : Int) (i : Nat) : rwB n t s i = 0 ∨ rwB n t s i = 1 := by
  unfold rwB
  split
  · omega
  · split <;> simp
theorem bit_eq {s : Int} {i : Nat} (hs : 0 ≤ s ∧ s ≤ 4294967296) (hi : i ≤ 60) : IntKind.u8.wrap ((IntKind.i64.wrap (s.tdiv (2 ^ i))).tmod 2) = (s / 2 ^ i) % 2 := by
  have hp := pow_lt (i := i) (by omega)
  have h1 : 0 ≤ s / 2 ^ i := Int.ediv_nonneg hs.1 (by omega)
  have h2 : s / 2 ^ i ≤ s := Int.ediv_le_self _ hs.1
  rw [Int.tdiv_eq_ediv_of_nonneg hs.1, wrap64 (by omega) (by omega), Int.tmod_eq_emod_of_nonneg h1, wrap8 (by omega) (by omega)]
def frRow (n t : Nat) (s N : Int) : Nat × Nat → List Value
  | (0, _) => [.int .i64 n, .int .i64 t, .int .i64 s, .int .i64 N, .chan none, .chan none, .chan none, .chan none, .chan none, .slice none 0 0, .int .i64 0, .chan none, .chan none, .chan none, .chan none, .chan none, .chan none, .chan none, .chan none, .chan none, .chan none, .chan none, .chan none, .chan none, .chan none, .chan none, .chan none, .chan none, .chan none, .chan none, .chan none, .chan none, .chan none, .chan none, .chan none, .chan none, .chan none, .chan none, .chan none, .chan none, .chan none, .chan none, .chan none, .chan none, .chan none, .chan none, .chan none, .chan none, .chan none, .chan none]
  | (i + 1, nc) => [.int .i64 n, .int .i64 t, .int .i64 s, .int .i64 N, .chan none, .chan none, .chan none, .chan none, .chan none, .slice (some ⟨0, 0, none⟩) (i + 1) nc, .int .i64 (i + 1 : Nat), .chan none, .chan none, .chan none, .chan none, .chan none, .chan none, .chan none, .chan none, .chan none, .chan none, .chan none, .chan none, .chan none, .chan none, .chan none, .chan none, .chan none, .chan none, .chan none, .chan none, .chan none, .chan none, .chan none, .chan none, .chan none, .chan none, .chan none, .chan none, .chan none, .chan none, .chan none, .chan none, .chan none, .chan none, .chan none, .chan none, .chan none, .chan none, .chan none]
def hpRow (n t : Nat) (s : Int) : Nat × Nat → List Blk
  | (0, _) => []
  | (i + 1, nc) => [.cells (rowI .u8 (rwB n t s) (i + 1) nc) 5]
theorem ref_row (n t : Nat) (s : Int) (N : Nat) (hn : 1 ≤ t ∧ t < n ∧ n ≤ 60) (hs : 0 ≤ s ∧ s ≤ 4294967296) (hN : 1 ≤ N ∧ N ≤ 1000000) : ACalls Try.prog 21 [.int .i64 n, .int .i64 t, .int .i64 s, .int .i64 N] [] fun v H => ∃ nc : Nat, N ≤ nc ∧ v = .slice (some ⟨0, 0, none⟩) N nc ∧ H = [.cells (rowI .u8 (rwB n t s) N nc) 5] := by
  refine ACalls.codeW tabOk h21 Try.func21 Try.call21 ok21 ?_
  conv => whnf

  refine ALoop.fdw (σ := Nat × Nat) (frRow n t s N) (hpRow n t s) (fun s => s.1 ≤ N ∧ s.1 ≤ s.2) (fun s => N - s.1) (0, 0) (fade_ren [] rfl (by (conv => whnf); rfl) trivial) ⟨Nat.zero_le _, Nat.le_refl _⟩ ?_
  rintro ⟨i, nc⟩ ⟨hi, hnc⟩ R hR
  dsimp only at hi hnc
  cases i with
  | zero =>
    have hx : IntKind.u8.wrap ((IntKind.i64.wrap (s.tdiv (2 ^ 0))).tmod 2) = rwB n t s 0 := by rw [bit_eq hs (by omega), rwB_lo (by omega)]
    have e1 : IntKind.i64.wrap (0 + 1) = ((0 + 1 : Nat) : Int) := by decide
    conv => whnf
    refine Bif.knT ?_ fun h0 => ?_
    · (simp; omega)
    rw [h0]
    conv => whnf
    refine Bif.knT ?_ fun h1 => ?_
    · (simp; omega)
    rw [h1]
    conv => whnf
    refine ACalls.useE (ref_pow _ ?_) [] rfl (by (conv => whnf); try rfl) (by (conv => whnf); try rfl) ?_
    · decide
    conv => whnf
    rw [hx]
    conv => whnf
    intro nc2 hc1 hc2
    conv => whnf
    (rw [e1]; exact hR (1, nc2) _ _ ⟨by omega, by omega⟩ (by dsimp only; omega) (fade_ren [1] rfl (by (conv => whnf); rfl) ⟨⟨_, rfl, BW.row (row_start (by omega) rfl)⟩, trivial⟩))
  | succ i =>
    have e1 : IntKind.i64.wrap (((i + 1 : Nat) : Int) + 1) = ((i + 2 : Nat) : Int) := by rw [wrap64 (by omega) (by omega)]; omega
    by_cases hlt : i + 1 < N
    · by_cases hlo : i + 1 < n
      · have hx : IntKind.u8.wrap ((IntKind.i64.wrap (s.tdiv (2 ^ (i + 1)))).tmod 2) = rwB n t s (i + 1) := by rw [bit_eq hs (by omega), rwB_lo (by omega)]
        have hp := pow_lt (i := i + 1) (by omega)
        conv => whnf
        refine Bif.knT ?_ fun h0 => ?_
        · (clear hR; simp; omega)
        rw [h0]
        conv => whnf
        refine Bif.knT ?_ fun h1 => ?_
        · (clear hR; simp; omega)
        rw [h1]
        conv => whnf
        refine ACalls.useE (ref_pow _ ?_) [] rfl (by (conv => whnf); try rfl) (by (conv => whnf); try rfl) ?_
        · omega
        conv => whnf
        refine Req.of ?_ ?_
        · (clear hR; simp; omega)
        conv => whnf
        rw [hx]
        conv => whnf
        refine Bif.of (fun h2 => ?_) fun h2 => ?_
        · conv => whnf
          refine putF_row (f := rwB n t s) (by simp at *; omega) (by first | omega | (dsimp only; omega)) (by first | rfl | exact hx) ?_
          conv => whnf
          (rw [e1]; exact hR (i + 2, nc) _ _ ⟨by dsimp only; omega, by simp at *; omega⟩ (by dsimp only; omega) (fade_ren [0] rfl (by (conv => whnf); rfl) ⟨⟨_, rfl, BW.row rfl⟩, trivial⟩))
        · conv => whnf
          refine Req.of ?_ ?_
          · (simp only [decide_true, Bool.true_and, Bool.and_true, Bool.and_eq_true, decide_eq_true_eq]; exact ⟨⟨by omega, growslice_fits (by simp at *; omega) (by omega)⟩, rfl⟩)
          conv => whnf
          refine dropF_zero ?_
          conv => whnf
          refine takeF_row (by omega) (by first | omega | (dsimp only; omega)) ?_
          conv => whnf
          refine catF_snoc (by first | rfl | exact hx) ?_
          conv => whnf
          intro nc2 hc1 hc2
          conv => whnf
          refine catF_row (n := nc2) (by omega) (by omega) ?_
          conv => whnf
          (rw [e1]; exact hR (i + 2, nc2) _ _ ⟨by dsimp only; omega, by dsimp only; omega⟩ (by dsimp only; omega) (fade_ren [2] rfl (by (conv => whnf); rfl) ⟨⟨_, rfl, BW.row rfl⟩, trivial⟩))
      · have ej : IntKind.i64.wrap (((i + 1 : Nat) : Int) - (n : Int)) = ((i + 1 - n : Nat) : Int) := by rw [wrap64 (by omega) (by omega)]; omega
        have ej2 : IntKind.i64.wrap (((i + 1 - n : Nat) : Int) + (t : Int)) = ((i + 1 - n + t : Nat) : Int) := by rw [wrap64 (by omega) (by omega)]; omega
        by_cases hb : rwB n t s (i + 1 - n) = rwB n t s (i + 1 - n + t)
        · have hx : (1 : Int) = rwB n t s (i + 1) := by rw [rwB_hi (by omega) hn.2.1, if_pos hb]
          conv => whnf
          refine Bif.knT ?_ fun h0 => ?_
          · (clear hR; simp; omega)
          rw [h0]
          conv => whnf
          refine Bif.knF ?_ fun h1 => ?_
          · (clear hR; simp; omega)
          rw [h1]
          conv => whnf
          rw [ej]
          conv => whnf
          refine Req.of ?_ ?_
          · (clear hR; simp; omega)
          conv => whnf
          refine getF_row' (i + 1 - n) (by first | omega | (dsimp only; omega)) (by omega) (by omega) ?_
          conv => whnf
          rw [ej]
          conv => whnf
          rw [ej2]
          conv => whnf
          refine Req.of ?_ ?_
          · (clear hR; simp; omega)
          conv => whnf
          refine getF_row' (i + 1 - n + t) (by first | omega | (dsimp only; omega)) (by omega) (by omega) ?_
          conv => whnf
          refine Bif.knT ?_ fun h2 => ?_
          · (simp [hb]; done)
          rw [h2]
          conv => whnf
          refine Bif.of (fun h3 => ?_) fun h3 => ?_
          · conv => whnf
            refine putF_row (f := rwB n t s) (by simp at *; omega) (by first | omega | (dsimp only; omega)) (by first | rfl | exact hx) ?_
            conv => whnf
            (rw [e1]; exact hR (i + 2, nc) _ _ ⟨by dsimp only; omega, by simp at *; omega⟩ (by dsimp only; omega) (fade_ren [0] rfl (by (conv => whnf); rfl) ⟨⟨_, rfl, BW.row rfl⟩, trivial⟩))
          · conv => whnf
            refine Req.of ?_ ?_
            · (simp only [decide_true, Bool.true_and, Bool.and_true, Bool.and_eq_true, decide_eq_true_eq]; exact ⟨⟨by omega, growslice_fits (by simp at *; omega) (by omega)⟩, rfl⟩)
            conv => whnf
            refine dropF_zero ?_
            conv => whnf
            refine takeF_row (by omega) (by first | omega | (dsimp only; omega)) ?_
            conv => whnf
            refine catF_snoc (by first | rfl | exact hx) ?_
            conv => whnf
            intro nc2 hc1 hc2
            conv => whnf
            refine catF_row (n := nc2) (by omega) (by omega) ?_
            conv => whnf
            (rw [e1]; exact hR (i + 2, nc2) _ _ ⟨by dsimp only; omega, by dsimp only; omega⟩ (by dsimp only; omega) (fade_ren [2] rfl (by (conv => whnf); rfl) ⟨⟨_, rfl, BW.row rfl⟩, trivial⟩))
        · have hx : (0 : Int) = rwB n t s (i + 1) := by rw [rwB_hi (by omega) hn.2.1, if_neg hb]
          conv => whnf
          refine Bif.knT ?_ fun h0 => ?_
          · (clear hR; simp; omega)
          rw [h0]
          conv => whnf
          refine Bif.knF ?_ fun h1 => ?_
          · (clear hR; simp; omega)
          rw [h1]
          conv => whnf
          rw [ej]
          conv => whnf
          refine Req.of ?_ ?_
          · (clear hR; simp; omega)
          conv => whnf
          refine getF_row' (i + 1 - n) (by first | omega | (dsimp only; omega)) (by omega) (by omega) ?_
          conv => whnf
          rw [ej]
          conv => whnf
          rw [ej2]
          conv => whnf
          refine Req.of ?_ ?_
          · (clear hR; simp; omega)
          conv => whnf
          refine getF_row' (i + 1 - n + t) (by first | omega | (dsimp only; omega)) (by omega) (by omega) ?_
          conv => whnf
          refine Bif.knF ?_ fun h2 => ?_
          · (simp [hb]; done)
          rw [h2]
          conv => whnf
          refine Bif.of (fun h3 => ?_) fun h3 => ?_
          · conv => whnf
            refine putF_row (f := rwB n t s) (by simp at *; omega) (by first | omega | (dsimp only; omega)) (by first | rfl | exact hx) ?_
            conv => whnf
            (rw [e1]; exact hR (i + 2, nc) _ _ ⟨by dsimp only; omega, by simp at *; omega⟩ (by dsimp only; omega) (fade_ren [0] rfl (by (conv => whnf); rfl) ⟨⟨_, rfl, BW.row rfl⟩, trivial⟩))
          · conv => whnf
            refine Req.of ?_ ?_
            · (simp only [decide_true, Bool.true_and, Bool.and_true, Bool.and_eq_true, decide_eq_true_eq]; exact ⟨⟨by omega, growslice_fits (by simp at *; omega) (by omega)⟩, rfl⟩)
            conv => whnf
            refine dropF_zero ?_
            conv => whnf
            refine takeF_row (by omega) (by first | omega | (dsimp only; omega)) ?_
            conv => whnf
            refine catF_snoc (by first | rfl | exact hx) ?_
            conv => whnf
            intro nc2 hc1 hc2
            conv => whnf
            refine catF_row (n := nc2) (by omega) (by omega) ?_
            conv => whnf
            (rw [e1]; exact hR (i + 2, nc2) _ _ ⟨by dsimp only; omega, by dsimp only; omega⟩ (by dsimp only; omega) (fade_ren [2] rfl (by (conv => whnf); rfl) ⟨⟨_, rfl, BW.row rfl⟩, trivial⟩))
    · clear hR
      obtain rfl : i + 1 = N := by omega
      conv => whnf
      refine Bif.knF ?_ fun h0 => ?_
      · (simp; done)
      rw [h0]
      conv => whnf
      exact wk_of (v2 := .slice (some ⟨0, 0, none⟩) (i + 1) nc) (H2 := [.cells (rowI .u8 (rwB n t s) (i + 1) nc) 5]) [0] rfl (by (conv => whnf); try rfl) ⟨⟨_, rfl, BW.row rfl⟩, trivial⟩ ⟨nc, hnc, rfl, rfl⟩
end Go.Proofs
