/-
  Walks through the functions of the program, by contract.
-/
import Derived.Test.YtbngapokpmifnaaPortaF
set_option linter.all false
set_option linter.unusedVariables false
set_option linter.unusedSimpArgs false
set_option linter.unnecessarySimpa false
set_option linter.all false
set_option linter.unusedVariables false
set_option linter.unusedSimpArgs false
set_option linter.unnecessarySimpa false
namespace Go.Proofs
open Go.Aw
set_option maxRecDepth 100000
set_option maxHeartbeats 4000000

def selB (i o w : Int) (k : Nat) : Int := if w / 2 ^ k % 2 = 1 then o / 2 ^ k % 2 else i / 2 ^ k % 2
def lvN (i o w : Int) : Nat → Int
  | 0 => 0
  | k + 1 => lvN i o w k + selB i o w k * 2 ^ k
theorem selB_01 (i o w : Int) (k : Nat) : selB i o w k = 0 ∨ selB i o w k = 1 := by unfold selB; split <;> omega
theorem lvN_bd (i o w : Int) (k : Nat) : 0 ≤ lvN i o w k ∧ lvN i o w k < 2 ^ k := by
  induction k with
  | zero => exact ⟨Int.le_refl _, show (0 : Int) < 1 by decide⟩
  | succ k ih =>
    have hp : (0 : Int) < 2 ^ k := Int.pow_pos (by decide)
    have e : (2 : Int) ^ (k + 1) = 2 ^ k * 2 := Int.pow_succ 2 k
    unfold lvN
    rcases selB_01 i o w k with h | h <;> rw [h] <;> omega
theorem lv_wrap (i o w : Int) : IntKind.i64.wrap (lvN i o w 8) = lvN i o w 8 := by
  have := lvN_bd i o w 8
  have h2 : (2 : Int) ^ 8 = 256 := by decide
  exact wrap64 (by omega) (by omega)
theorem bv_bit (X : BitVec 8) (k : Nat) : (X.toNat : Int) / 2 ^ k % 2 = if X.getLsbD k then 1 else 0 := by
  have h : X.getLsbD k = decide (X.toNat / 2 ^ k % 2 = 1) := by
    show X.toNat.testBit k = _
    rw [Nat.testBit_eq_decide_div_mod_eq]
  rw [h]
  have h2 : ((X.toNat / 2 ^ k % 2 : Nat) : Int) = (X.toNat : Int) / 2 ^ k % 2 := by push_cast; rfl
  rw [← h2]
  by_cases h3 : X.toNat / 2 ^ k % 2 = 1
  · simp [h3]
  · have : X.toNat / 2 ^ k % 2 = 0 := by omega
    simp [this]
theorem byte_sum (x : Int) (h : 0 ≤ x ∧ x ≤ 255) : x = x / 1 % 2 + x / 2 % 2 * 2 + x / 4 % 2 * 4 + x / 8 % 2 * 8 + x / 16 % 2 * 16 + x / 32 % 2 * 32 + x / 64 % 2 * 64 + x / 128 % 2 * 128 := by omega
theorem level_eq {i o w : Int} (hi : 0 ≤ i ∧ i ≤ 255) (ho : 0 ≤ o ∧ o ≤ 255) (hw : 0 ≤ w ∧ w ≤ 255) : bits .or .u8 (bits .and .u8 o w) (bits .andNot .u8 i w) = lvN i o w 8 := by
  obtain ⟨A, rfl⟩ : ∃ A : BitVec 8, i = (A.toNat : Int) := ⟨BitVec.ofNat 8 i.toNat, by simp; omega⟩
  obtain ⟨B, rfl⟩ : ∃ B : BitVec 8, o = (B.toNat : Int) := ⟨BitVec.ofNat 8 o.toNat, by simp; omega⟩
  obtain ⟨C, rfl⟩ : ∃ C : BitVec 8, w = (C.toNat : Int) := ⟨BitVec.ofNat 8 w.toNat, by simp; omega⟩
  rw [bv_and, bv_andNot, bv_or]
  have hx : ∀ k : Nat, k < 8 → (((B &&& C) ||| (A &&& ~~~C)).toNat : Int) / 2 ^ k % 2 = selB A.toNat B.toNat C.toNat k := fun k hk => by
    unfold selB
    rw [bv_bit, bv_bit, bv_bit, bv_bit]
    simp only [BitVec.getLsbD_or, BitVec.getLsbD_and, BitVec.getLsbD_not, hk, decide_true, Bool.true_and]
    cases A.getLsbD k <;> cases B.getLsbD k <;> cases C.getLsbD k <;> rfl
  have hlt := ((B &&& C) ||| (A &&& ~~~C)).isLt
  generalize ((B &&& C) ||| (A &&& ~~~C)).toNat = X at *
  have hs := byte_sum (X : Int) (by omega)
  rw [hs]
  have h0 := hx 0 (by decide)
  have h1 := hx 1 (by decide)
  have h2 := hx 2 (by decide)
  have h3 := hx 3 (by decide)
  have h4 := hx 4 (by decide)
  have h5 := hx 5 (by decide)
  have h6 := hx 6 (by decide)
  have h7 := hx 7 (by decide)
  simp only [Int.reducePow] at h0 h1 h2 h3 h4 h5 h6 h7
  simp only [lvN, ← h0, ← h1, ← h2, ← h3, ← h4, ← h5, ← h6, ← h7, Int.reducePow]
  omega
theorem port_level (i o w : Int) (hi : 0 ≤ i ∧ i ≤ 255) (ho : 0 ≤ o ∧ o ≤ 255) (hw : 0 ≤ w ∧ w ≤ 255) : ACalls Try.prog 18 [.pointer (some ⟨0, 0, none⟩)] [.cells [.int .u8 i, .int .u8 o, .int .u8 w] 97] fun r H => r = .int .u8 (lvN i o w 8) ∧ H = [.cells [.int .u8 i, .int .u8 o, .int .u8 w] 97] := by
  have e := level_eq hi ho hw
  refine ACalls.code tabOk h18 Try.func18 Try.call18 ok18 ?_
  conv => whnf
  (rw [e]; exact ⟨rfl, rfl⟩)

theorem ref_level (i o w : Int) (hi : 0 ≤ i ∧ i ≤ 255) (ho : 0 ≤ o ∧ o ≤ 255) (hw : 0 ≤ w ∧ w ≤ 255) : ACalls Try.prog 28 [.int .i64 i, .int .i64 o, .int .i64 w] [] fun r H => r = .int .i64 (lvN i o w 8) ∧ H = [] := by
  refine ACalls.code tabOk h28 Try.func28 Try.call28 ok28 ?_
  conv => whnf

  refine ALoop.fd (σ := Nat × Int) (fun q => [.int .i64 i, .int .i64 o, .int .i64 w, .chan none, .chan none, .chan none, .int .i64 0, .int .i64 q.2, .int .i64 (2 ^ q.1), .chan none, .chan none, .chan none, .chan none, .chan none, .chan none, .chan none, .chan none, .chan none, .chan none, .chan none, .chan none, .chan none, .chan none, .chan none, .chan none, .chan none, .chan none, .chan none, .chan none, .chan none]) (fun _ => []) (fun q => q.1 ≤ 8 ∧ q.2 = lvN i o w q.1) (fun q => 8 - q.1) (0, 0) [] rfl rfl ⟨Nat.zero_le _, rfl⟩ (fun _ => ⟨rfl, rfl, rfl, rfl⟩) ?_
  rintro ⟨n, l⟩ ⟨hn, hl⟩ R hR
  dsimp only at hn hl
  have hb := lvN_bd i o w n
  have hn' : n = 0 ∨ n = 1 ∨ n = 2 ∨ n = 3 ∨ n = 4 ∨ n = 5 ∨ n = 6 ∨ n = 7 ∨ n = 8 := by omega
  rcases hn' with rfl | rfl | rfl | rfl | rfl | rfl | rfl | rfl | rfl

  · have ei : (IntKind.i64.wrap (i.tdiv 1)).tmod 2 = i / 1 % 2 := by rw [Int.tdiv_eq_ediv_of_nonneg hi.1, wrap64 (by omega) (by omega), Int.tmod_eq_emod_of_nonneg (by omega)]
    have eo : (IntKind.i64.wrap (o.tdiv 1)).tmod 2 = o / 1 % 2 := by rw [Int.tdiv_eq_ediv_of_nonneg ho.1, wrap64 (by omega) (by omega), Int.tmod_eq_emod_of_nonneg (by omega)]
    have ew : (IntKind.i64.wrap (w.tdiv 1)).tmod 2 = w / 1 % 2 := by rw [Int.tdiv_eq_ediv_of_nonneg hw.1, wrap64 (by omega) (by omega), Int.tmod_eq_emod_of_nonneg (by omega)]
    have e2 : IntKind.i64.wrap ((2 : Int) ^ 0 * 2) = 2 ^ 1 := by decide
    have ep : (2 : Int) ^ 0 = 1 := by decide
    have hs : lvN i o w 1 = l + (if w / 1 % 2 = 1 then o / 1 % 2 else i / 1 % 2) * 1 := by rw [hl]; rfl
    simp only [Int.reducePow] at hb
    have ea : IntKind.i64.wrap (l + 1) = l + 1 := wrap64 (by omega) (by omega)
    clear hi ho hw
    conv => whnf
    rw [ep]
    conv => whnf
    rw [ew]
    conv => whnf
    refine Bif.of (fun h0 => ?_) fun h0 => ?_
    · conv => whnf
      rw [eo]
      conv => whnf
      refine Bif.of (fun h1 => ?_) fun h1 => ?_
      · conv => whnf
        (rw [ea]; exact hR (1, l + 1) _ _ _ rfl rfl ⟨(by show 1 ≤ 8; decide), (by show l + 1 = lvN i o w 1; simp at *; omega)⟩ (by show 8 - 1 < 8 - 0; decide))
      · conv => whnf
        (exact hR (1, l) _ _ _ rfl rfl ⟨(by show 1 ≤ 8; decide), (by show l = lvN i o w 1; simp at *; omega)⟩ (by show 8 - 1 < 8 - 0; decide))
    · conv => whnf
      rw [ei]
      conv => whnf
      refine Bif.of (fun h2 => ?_) fun h2 => ?_
      · conv => whnf
        (rw [ea]; exact hR (1, l + 1) _ _ _ rfl rfl ⟨(by show 1 ≤ 8; decide), (by show l + 1 = lvN i o w 1; simp at *; omega)⟩ (by show 8 - 1 < 8 - 0; decide))
      · conv => whnf
        (exact hR (1, l) _ _ _ rfl rfl ⟨(by show 1 ≤ 8; decide), (by show l = lvN i o w 1; simp at *; omega)⟩ (by show 8 - 1 < 8 - 0; decide))
  · have ei : (IntKind.i64.wrap (i.tdiv 2)).tmod 2 = i / 2 % 2 := by rw [Int.tdiv_eq_ediv_of_nonneg hi.1, wrap64 (by omega) (by omega), Int.tmod_eq_emod_of_nonneg (by omega)]
    have eo : (IntKind.i64.wrap (o.tdiv 2)).tmod 2 = o / 2 % 2 := by rw [Int.tdiv_eq_ediv_of_nonneg ho.1, wrap64 (by omega) (by omega), Int.tmod_eq_emod_of_nonneg (by omega)]
    have ew : (IntKind.i64.wrap (w.tdiv 2)).tmod 2 = w / 2 % 2 := by rw [Int.tdiv_eq_ediv_of_nonneg hw.1, wrap64 (by omega) (by omega), Int.tmod_eq_emod_of_nonneg (by omega)]
    have e2 : IntKind.i64.wrap ((2 : Int) ^ 1 * 2) = 2 ^ 2 := by decide
    have ep : (2 : Int) ^ 1 = 2 := by decide
    have hs : lvN i o w 2 = l + (if w / 2 % 2 = 1 then o / 2 % 2 else i / 2 % 2) * 2 := by rw [hl]; rfl
    simp only [Int.reducePow] at hb
    have ea : IntKind.i64.wrap (l + 2) = l + 2 := wrap64 (by omega) (by omega)
    clear hi ho hw
    conv => whnf
    rw [ep]
    conv => whnf
    rw [ew]
    conv => whnf
    refine Bif.of (fun h0 => ?_) fun h0 => ?_
    · conv => whnf
      rw [eo]
      conv => whnf
      refine Bif.of (fun h1 => ?_) fun h1 => ?_
      · conv => whnf
        (rw [ea]; exact hR (2, l + 2) _ _ _ rfl rfl ⟨(by show 2 ≤ 8; decide), (by show l + 2 = lvN i o w 2; simp at *; omega)⟩ (by show 8 - 2 < 8 - 1; decide))
      · conv => whnf
        (exact hR (2, l) _ _ _ rfl rfl ⟨(by show 2 ≤ 8; decide), (by show l = lvN i o w 2; simp at *; omega)⟩ (by show 8 - 2 < 8 - 1; decide))
    · conv => whnf
      rw [ei]
      conv => whnf
      refine Bif.of (fun h2 => ?_) fun h2 => ?_
      · conv => whnf
        (rw [ea]; exact hR (2, l + 2) _ _ _ rfl rfl ⟨(by show 2 ≤ 8; decide), (by show l + 2 = lvN i o w 2; simp at *; omega)⟩ (by show 8 - 2 < 8 - 1; decide))
      · conv => whnf
        (exact hR (2, l) _ _ _ rfl rfl ⟨(by show 2 ≤ 8; decide), (by show l = lvN i o w 2; simp at *; omega)⟩ (by show 8 - 2 < 8 - 1; decide))
  · have ei : (IntKind.i64.wrap (i.tdiv 4)).tmod 2 = i / 4 % 2 := by rw [Int.tdiv_eq_ediv_of_nonneg hi.1, wrap64 (by omega) (by omega), Int.tmod_eq_emod_of_nonneg (by omega)]
    have eo : (IntKind.i64.wrap (o.tdiv 4)).tmod 2 = o / 4 % 2 := by rw [Int.tdiv_eq_ediv_of_nonneg ho.1, wrap64 (by omega) (by omega), Int.tmod_eq_emod_of_nonneg (by omega)]
    have ew : (IntKind.i64.wrap (w.tdiv 4)).tmod 2 = w / 4 % 2 := by rw [Int.tdiv_eq_ediv_of_nonneg hw.1, wrap64 (by omega) (by omega), Int.tmod_eq_emod_of_nonneg (by omega)]
    have e2 : IntKind.i64.wrap ((2 : Int) ^ 2 * 2) = 2 ^ 3 := by decide
    have ep : (2 : Int) ^ 2 = 4 := by decide
    have hs : lvN i o w 3 = l + (if w / 4 % 2 = 1 then o / 4 % 2 else i / 4 % 2) * 4 := by rw [hl]; rfl
    simp only [Int.reducePow] at hb
    have ea : IntKind.i64.wrap (l + 4) = l + 4 := wrap64 (by omega) (by omega)
    clear hi ho hw
    conv => whnf
    rw [ep]
    conv => whnf
    rw [ew]
    conv => whnf
    refine Bif.of (fun h0 => ?_) fun h0 => ?_
    · conv => whnf
      rw [eo]
      conv => whnf
      refine Bif.of (fun h1 => ?_) fun h1 => ?_
      · conv => whnf
        (rw [ea]; exact hR (3, l + 4) _ _ _ rfl rfl ⟨(by show 3 ≤ 8; decide), (by show l + 4 = lvN i o w 3; simp at *; omega)⟩ (by show 8 - 3 < 8 - 2; decide))
      · conv => whnf
        (exact hR (3, l) _ _ _ rfl rfl ⟨(by show 3 ≤ 8; decide), (by show l = lvN i o w 3; simp at *; omega)⟩ (by show 8 - 3 < 8 - 2; decide))
    · conv => whnf
      rw [ei]
      conv => whnf
      refine Bif.of (fun h2 => ?_) fun h2 => ?_
      · conv => whnf
        (rw [ea]; exact hR (3, l + 4) _ _ _ rfl rfl ⟨(by show 3 ≤ 8; decide), (by show l + 4 = lvN i o w 3; simp at *; omega)⟩ (by show 8 - 3 < 8 - 2; decide))
      · conv => whnf
        (exact hR (3, l) _ _ _ rfl rfl ⟨(by show 3 ≤ 8; decide), (by show l = lvN i o w 3; simp at *; omega)⟩ (by show 8 - 3 < 8 - 2; decide))
  · have ei : (IntKind.i64.wrap (i.tdiv 8)).tmod 2 = i / 8 % 2 := by rw [Int.tdiv_eq_ediv_of_nonneg hi.1, wrap64 (by omega) (by omega), Int.tmod_eq_emod_of_nonneg (by omega)]
    have eo : (IntKind.i64.wrap (o.tdiv 8)).tmod 2 = o / 8 % 2 := by rw [Int.tdiv_eq_ediv_of_nonneg ho.1, wrap64 (by omega) (by omega), Int.tmod_eq_emod_of_nonneg (by omega)]
    have ew : (IntKind.i64.wrap (w.tdiv 8)).tmod 2 = w / 8 % 2 := by rw [Int.tdiv_eq_ediv_of_nonneg hw.1, wrap64 (by omega) (by omega), Int.tmod_eq_emod_of_nonneg (by omega)]
    have e2 : IntKind.i64.wrap ((2 : Int) ^ 3 * 2) = 2 ^ 4 := by decide
    have ep : (2 : Int) ^ 3 = 8 := by decide
    have hs : lvN i o w 4 = l + (if w / 8 % 2 = 1 then o / 8 % 2 else i / 8 % 2) * 8 := by rw [hl]; rfl
    simp only [Int.reducePow] at hb
    have ea : IntKind.i64.wrap (l + 8) = l + 8 := wrap64 (by omega) (by omega)
    clear hi ho hw
    conv => whnf
    rw [ep]
    conv => whnf
    rw [ew]
    conv => whnf
    refine Bif.of (fun h0 => ?_) fun h0 => ?_
    · conv => whnf
      rw [eo]
      conv => whnf
      refine Bif.of (fun h1 => ?_) fun h1 => ?_
      · conv => whnf
        (rw [ea]; exact hR (4, l + 8) _ _ _ rfl rfl ⟨(by show 4 ≤ 8; decide), (by show l + 8 = lvN i o w 4; simp at *; omega)⟩ (by show 8 - 4 < 8 - 3; decide))
      · conv => whnf
        (exact hR (4, l) _ _ _ rfl rfl ⟨(by show 4 ≤ 8; decide), (by show l = lvN i o w 4; simp at *; omega)⟩ (by show 8 - 4 < 8 - 3; decide))
    · conv => whnf
      rw [ei]
      conv => whnf
      refine Bif.of (fun h2 => ?_) fun h2 => ?_
      · conv => whnf
        (rw [ea]; exact hR (4, l + 8) _ _ _ rfl rfl ⟨(by show 4 ≤ 8; decide), (by show l + 8 = lvN i o w 4; simp at *; omega)⟩ (by show 8 - 4 < 8 - 3; decide))
      · conv => whnf
        (exact hR (4, l) _ _ _ rfl rfl ⟨(by show 4 ≤ 8; decide), (by show l = lvN i o w 4; simp at *; omega)⟩ (by show 8 - 4 < 8 - 3; decide))
  · have ei : (IntKind.i64.wrap (i.tdiv 16)).tmod 2 = i / 16 % 2 := by rw [Int.tdiv_eq_ediv_of_nonneg hi.1, wrap64 (by omega) (by omega), Int.tmod_eq_emod_of_nonneg (by omega)]
    have eo : (IntKind.i64.wrap (o.tdiv 16)).tmod 2 = o / 16 % 2 := by rw [Int.tdiv_eq_ediv_of_nonneg ho.1, wrap64 (by omega) (by omega), Int.tmod_eq_emod_of_nonneg (by omega)]
    have ew : (IntKind.i64.wrap (w.tdiv 16)).tmod 2 = w / 16 % 2 := by rw [Int.tdiv_eq_ediv_of_nonneg hw.1, wrap64 (by omega) (by omega), Int.tmod_eq_emod_of_nonneg (by omega)]
    have e2 : IntKind.i64.wrap ((2 : Int) ^ 4 * 2) = 2 ^ 5 := by decide
    have ep : (2 : Int) ^ 4 = 16 := by decide
    have hs : lvN i o w 5 = l + (if w / 16 % 2 = 1 then o / 16 % 2 else i / 16 % 2) * 16 := by rw [hl]; rfl
    simp only [Int.reducePow] at hb
    have ea : IntKind.i64.wrap (l + 16) = l + 16 := wrap64 (by omega) (by omega)
    clear hi ho hw
    conv => whnf
    rw [ep]
    conv => whnf
    rw [ew]
    conv => whnf
    refine Bif.of (fun h0 => ?_) fun h0 => ?_
    · conv => whnf
      rw [eo]
      conv => whnf
      refine Bif.of (fun h1 => ?_) fun h1 => ?_
      · conv => whnf
        (rw [ea]; exact hR (5, l + 16) _ _ _ rfl rfl ⟨(by show 5 ≤ 8; decide), (by show l + 16 = lvN i o w 5; simp at *; omega)⟩ (by show 8 - 5 < 8 - 4; decide))
      · conv => whnf
        (exact hR (5, l) _ _ _ rfl rfl ⟨(by show 5 ≤ 8; decide), (by show l = lvN i o w 5; simp at *; omega)⟩ (by show 8 - 5 < 8 - 4; decide))
    · conv => whnf
      rw [ei]
      conv => whnf
      refine Bif.of (fun h2 => ?_) fun h2 => ?_
      · conv => whnf
        (rw [ea]; exact hR (5, l + 16) _ _ _ rfl rfl ⟨(by show 5 ≤ 8; decide), (by show l + 16 = lvN i o w 5; simp at *; omega)⟩ (by show 8 - 5 < 8 - 4; decide))
      · conv => whnf
        (exact hR (5, l) _ _ _ rfl rfl ⟨(by show 5 ≤ 8; decide), (by show l = lvN i o w 5; simp at *; omega)⟩ (by show 8 - 5 < 8 - 4; decide))
  · have ei : (IntKind.i64.wrap (i.tdiv 32)).tmod 2 = i / 32 % 2 := by rw [Int.tdiv_eq_ediv_of_nonneg hi.1, wrap64 (by omega) (by omega), Int.tmod_eq_emod_of_nonneg (by omega)]
    have eo : (IntKind.i64.wrap (o.tdiv 32)).tmod 2 = o / 32 % 2 := by rw [Int.tdiv_eq_ediv_of_nonneg ho.1, wrap64 (by omega) (by omega), Int.tmod_eq_emod_of_nonneg (by omega)]
    have ew : (IntKind.i64.wrap (w.tdiv 32)).tmod 2 = w / 32 % 2 := by rw [Int.tdiv_eq_ediv_of_nonneg hw.1, wrap64 (by omega) (by omega), Int.tmod_eq_emod_of_nonneg (by omega)]
    have e2 : IntKind.i64.wrap ((2 : Int) ^ 5 * 2) = 2 ^ 6 := by decide
    have ep : (2 : Int) ^ 5 = 32 := by decide
    have hs : lvN i o w 6 = l + (if w / 32 % 2 = 1 then o / 32 % 2 else i / 32 % 2) * 32 := by rw [hl]; rfl
    simp only [Int.reducePow] at hb
    have ea : IntKind.i64.wrap (l + 32) = l + 32 := wrap64 (by omega) (by omega)
    clear hi ho hw
    conv => whnf
    rw [ep]
    conv => whnf
    rw [ew]
    conv => whnf
    refine Bif.of (fun h0 => ?_) fun h0 => ?_
    · conv => whnf
      rw [eo]
      conv => whnf
      refine Bif.of (fun h1 => ?_) fun h1 => ?_
      · conv => whnf
        (rw [ea]; exact hR (6, l + 32) _ _ _ rfl rfl ⟨(by show 6 ≤ 8; decide), (by show l + 32 = lvN i o w 6; simp at *; omega)⟩ (by show 8 - 6 < 8 - 5; decide))
      · conv => whnf
        (exact hR (6, l) _ _ _ rfl rfl ⟨(by show 6 ≤ 8; decide), (by show l = lvN i o w 6; simp at *; omega)⟩ (by show 8 - 6 < 8 - 5; decide))
    · conv => whnf
      rw [ei]
      conv => whnf
      refine Bif.of (fun h2 => ?_) fun h2 => ?_
      · conv => whnf
        (rw [ea]; exact hR (6, l + 32) _ _ _ rfl rfl ⟨(by show 6 ≤ 8; decide), (by show l + 32 = lvN i o w 6; simp at *; omega)⟩ (by show 8 - 6 < 8 - 5; decide))
      · conv => whnf
        (exact hR (6, l) _ _ _ rfl rfl ⟨(by show 6 ≤ 8; decide), (by show l = lvN i o w 6; simp at *; omega)⟩ (by show 8 - 6 < 8 - 5; decide))
  · have ei : (IntKind.i64.wrap (i.tdiv 64)).tmod 2 = i / 64 % 2 := by rw [Int.tdiv_eq_ediv_of_nonneg hi.1, wrap64 (by omega) (by omega), Int.tmod_eq_emod_of_nonneg (by omega)]
    have eo : (IntKind.i64.wrap (o.tdiv 64)).tmod 2 = o / 64 % 2 := by rw [Int.tdiv_eq_ediv_of_nonneg ho.1, wrap64 (by omega) (by omega), Int.tmod_eq_emod_of_nonneg (by omega)]
    have ew : (IntKind.i64.wrap (w.tdiv 64)).tmod 2 = w / 64 % 2 := by rw [Int.tdiv_eq_ediv_of_nonneg hw.1, wrap64 (by omega) (by omega), Int.tmod_eq_emod_of_nonneg (by omega)]
    have e2 : IntKind.i64.wrap ((2 : Int) ^ 6 * 2) = 2 ^ 7 := by decide
    have ep : (2 : Int) ^ 6 = 64 := by decide
    have hs : lvN i o w 7 = l + (if w / 64 % 2 = 1 then o / 64 % 2 else i / 64 % 2) * 64 := by rw [hl]; rfl
    simp only [Int.reducePow] at hb
    have ea : IntKind.i64.wrap (l + 64) = l + 64 := wrap64 (by omega) (by omega)
    clear hi ho hw
    conv => whnf
    rw [ep]
    conv => whnf
    rw [ew]
    conv => whnf
    refine Bif.of (fun h0 => ?_) fun h0 => ?_
    · conv => whnf
      rw [eo]
      conv => whnf
      refine Bif.of (fun h1 => ?_) fun h1 => ?_
      · conv => whnf
        (rw [ea]; exact hR (7, l + 64) _ _ _ rfl rfl ⟨(by show 7 ≤ 8; decide), (by show l + 64 = lvN i o w 7; simp at *; omega)⟩ (by show 8 - 7 < 8 - 6; decide))
      · conv => whnf
        (exact hR (7, l) _ _ _ rfl rfl ⟨(by show 7 ≤ 8; decide), (by show l = lvN i o w 7; simp at *; omega)⟩ (by show 8 - 7 < 8 - 6; decide))
    · conv => whnf
      rw [ei]
      conv => whnf
      refine Bif.of (fun h2 => ?_) fun h2 => ?_
      · conv => whnf
        (rw [ea]; exact hR (7, l + 64) _ _ _ rfl rfl ⟨(by show 7 ≤ 8; decide), (by show l + 64 = lvN i o w 7; simp at *; omega)⟩ (by show 8 - 7 < 8 - 6; decide))
      · conv => whnf
        (exact hR (7, l) _ _ _ rfl rfl ⟨(by show 7 ≤ 8; decide), (by show l = lvN i o w 7; simp at *; omega)⟩ (by show 8 - 7 < 8 - 6; decide))
  · have ei : (IntKind.i64.wrap (i.tdiv 128)).tmod 2 = i / 128 % 2 := by rw [Int.tdiv_eq_ediv_of_nonneg hi.1, wrap64 (by omega) (by omega), Int.tmod_eq_emod_of_nonneg (by omega)]
    have eo : (IntKind.i64.wrap (o.tdiv 128)).tmod 2 = o / 128 % 2 := by rw [Int.tdiv_eq_ediv_of_nonneg ho.1, wrap64 (by omega) (by omega), Int.tmod_eq_emod_of_nonneg (by omega)]
    have ew : (IntKind.i64.wrap (w.tdiv 128)).tmod 2 = w / 128 % 2 := by rw [Int.tdiv_eq_ediv_of_nonneg hw.1, wrap64 (by omega) (by omega), Int.tmod_eq_emod_of_nonneg (by omega)]
    have e2 : IntKind.i64.wrap ((2 : Int) ^ 7 * 2) = 2 ^ 8 := by decide
    have ep : (2 : Int) ^ 7 = 128 := by decide
    have hs : lvN i o w 8 = l + (if w / 128 % 2 = 1 then o / 128 % 2 else i / 128 % 2) * 128 := by rw [hl]; rfl
    simp only [Int.reducePow] at hb
    have ea : IntKind.i64.wrap (l + 128) = l + 128 := wrap64 (by omega) (by omega)
    clear hi ho hw
    conv => whnf
    rw [ep]
    conv => whnf
    rw [ew]
    conv => whnf
    refine Bif.of (fun h0 => ?_) fun h0 => ?_
    · conv => whnf
      rw [eo]
      conv => whnf
      refine Bif.of (fun h1 => ?_) fun h1 => ?_
      · conv => whnf
        (rw [ea]; exact hR (8, l + 128) _ _ _ rfl rfl ⟨(by show 8 ≤ 8; decide), (by show l + 128 = lvN i o w 8; simp at *; omega)⟩ (by show 8 - 8 < 8 - 7; decide))
      · conv => whnf
        (exact hR (8, l) _ _ _ rfl rfl ⟨(by show 8 ≤ 8; decide), (by show l = lvN i o w 8; simp at *; omega)⟩ (by show 8 - 8 < 8 - 7; decide))
    · conv => whnf
      rw [ei]
      conv => whnf
      refine Bif.of (fun h2 => ?_) fun h2 => ?_
      · conv => whnf
        (rw [ea]; exact hR (8, l + 128) _ _ _ rfl rfl ⟨(by show 8 ≤ 8; decide), (by show l + 128 = lvN i o w 8; simp at *; omega)⟩ (by show 8 - 8 < 8 - 7; decide))
      · conv => whnf
        (exact hR (8, l) _ _ _ rfl rfl ⟨(by show 8 ≤ 8; decide), (by show l = lvN i o w 8; simp at *; omega)⟩ (by show 8 - 8 < 8 - 7; decide))
  · conv => whnf
    clear hR
    (rw [← hl]; exact ⟨rfl, rfl⟩)
end Go.Proofs
