/-
  What a motion is behind so many clocks.
-/
import Derived.Test.YtimihamgemboeaaMotionF
set_option linter.all false
set_option linter.unusedVariables false
set_option linter.unusedSimpArgs false
set_option linter.unnecessarySimpa false
namespace Go.Proofs
open Go.Aw

/-- How many counts are over, 'i' clocks behind a strobe at 's'. -/
def cntI (s : Int) (i : Nat) : Int := if i < 3 then 0 else (s + i + 3) / 4 - (s + 6) / 4
def MSat (s : Int) (i : Nat) (t0 t1 t2 t3 t4 : Int) : MS :=
  if cntI s i < 16 then ⟨cntI s i, if i < 3 then i else 3, decide (cntI s i ≤ t0), decide (cntI s i ≤ t1), decide (cntI s i ≤ t2), decide (cntI s i ≤ t3), decide (cntI s i ≤ t4)⟩
  else ⟨16, 0, false, false, false, false, false⟩
theorem keep_le (c t : Int) : (decide (c ≤ t) && !(t == c)) = decide (c + 1 ≤ t) := by
  by_cases h : c + 1 ≤ t
  · have h1 : c ≤ t := by omega
    have h2 : ¬ t = c := by omega
    simp [h, h1, h2]
  · by_cases h1 : c ≤ t
    · have h2 : t = c := by omega
      simp [h2]; omega
    · simp [h, h1]
theorem MSat_step {s : Int} (hs : 0 ≤ s) {i : Nat} (hc : cntI s i < 16) {clk : Int} (hk : clk % 4 = (s + i) % 4) (t0 t1 t2 t3 t4 : Int) : (MSat s i t0 t1 t2 t3 t4).step clk t0 t1 t2 t3 t4 = MSat s (i + 1) t0 t1 t2 t3 t4 := by
  by_cases h3 : i < 3
  · have e1 : cntI s i = 0 := by unfold cntI; rw [if_pos h3]
    have e2 : cntI s (i + 1) = 0 := by unfold cntI; split <;> omega
    unfold MSat
    rw [if_pos hc, if_pos h3, if_pos (show cntI s (i + 1) < 16 by rw [e2]; omega)]
    unfold MS.step
    dsimp only
    rw [if_neg (by omega), if_pos (show (i : Int) < 3 by omega), e1, e2]
    simp only [MS.mk.injEq]
    refine ⟨trivial, ?_, trivial, trivial, trivial, trivial, trivial⟩
    split <;> omega
  · have e1 : cntI s i = (s + i + 3) / 4 - (s + 6) / 4 := by unfold cntI; rw [if_neg h3]
    have e2 : cntI s (i + 1) = (s + i + 4) / 4 - (s + 6) / 4 := by unfold cntI; rw [if_neg (by omega)]; push_cast; congr 2; omega
    unfold MSat
    rw [if_pos hc, if_neg h3, if_neg (show ¬ i + 1 < 3 by omega)]
    unfold MS.step
    dsimp only
    rw [if_neg (by omega), if_neg (show ¬ (3 : Int) < 3 by omega)]
    by_cases hz : clk % 4 = 0
    · rw [if_neg (by omega)]
      have e3 : cntI s (i + 1) = cntI s i + 1 := by rw [e1, e2]; omega
      by_cases hf : cntI s i = 15
      · rw [if_pos hf, if_neg (by omega)]
      · rw [if_neg hf, if_pos (by omega), e3]
        simp only [keep_le]
    · rw [if_pos (by omega)]
      have e3 : cntI s (i + 1) = cntI s i := by rw [e1, e2]; omega
      rw [e3, if_pos hc]
theorem MSat_out {s : Int} {i : Nat} (hc : cntI s i < 16) {clk : Int} (hk : clk % 4 = (s + i) % 4) (t0 t1 t2 t3 t4 : Int) (t : Int) :
    MS.out (MSat s i t0 t1 t2 t3 t4) clk (decide (cntI s i ≤ t)) t = (decide (3 ≤ i) && decide ((s + i) % 4 = 0) && decide (cntI s i < t)) := by
  unfold MS.out MS.acts MSat
  rw [if_pos hc]
  dsimp only
  rw [keep_le, hk]
  have h1 : decide (cntI s i < 16) = true := by simp [hc]
  have h2 : decide (3 ≤ if i < 3 then (i : Int) else 3) = decide (3 ≤ i) := by
    by_cases h : i < 3
    · rw [if_pos h, decide_eq_decide]; omega
    · rw [if_neg h, decide_eq_decide]; omega
  have h3 : decide (cntI s i + 1 ≤ t) = decide (cntI s i < t) := by rw [decide_eq_decide]; omega
  rw [h1, h2, h3, Bool.true_and]
theorem MSat_bd (s : Int) (hs : 0 ≤ s) (i : Nat) (t0 t1 t2 t3 t4 : Int) : (0 ≤ (MSat s i t0 t1 t2 t3 t4).c ∧ (MSat s i t0 t1 t2 t3 t4).c ≤ 16) ∧ (0 ≤ (MSat s i t0 t1 t2 t3 t4).g ∧ (MSat s i t0 t1 t2 t3 t4).g ≤ 3) := by
  have h0 : 0 ≤ cntI s i := by unfold cntI; split <;> omega
  unfold MSat
  split
  · refine ⟨⟨h0, by show cntI s i ≤ 16; omega⟩, ?_, ?_⟩
    · show (0 : Int) ≤ if i < 3 then (i : Int) else 3
      split <;> omega
    · show (if i < 3 then (i : Int) else 3) ≤ 3
      split <;> omega
  · exact ⟨⟨by decide, by decide⟩, by decide, by decide⟩
theorem MSat_c {s : Int} {i : Nat} (t0 t1 t2 t3 t4 : Int) : ((MSat s i t0 t1 t2 t3 t4).c < 16) ↔ cntI s i < 16 := by
  unfold MSat
  split
  · rename_i h; exact ⟨fun _ => h, fun h => h⟩
  · rename_i h; exact ⟨fun h => absurd h (by show ¬ (16 : Int) < 16; omega), fun k => absurd k h⟩

/-- Is a clock one at which a thing that moves is seen to? -/
def dk (s u : Int) : Bool := decide (u % 228 < 68) || (decide (s > 0) && decide (s < 76) && decide (u < 76))
def outs (s : Int) : Nat → Int
  | 0 => 0
  | k + 1 => outs s k + (if dk s ((s + 6) / 4 * 4 + 4 * k) then 1 else 0)
def acc (s : Int) (i : Nat) (t : Int) : Int := outs s (if cntI s i < t then cntI s i else t).toNat
theorem acc_step {s : Int} (hs : 0 ≤ s) (i : Nat) {t : Int} (ht : 0 ≤ t) : acc s (i + 1) t = acc s i t + (if (decide (3 ≤ i) && decide ((s + i) % 4 = 0) && decide (cntI s i < t) && dk s (s + i)) then 1 else 0) := by
  by_cases h3 : i < 3
  · have e1 : cntI s i = 0 := by unfold cntI; rw [if_pos h3]
    have e2 : cntI s (i + 1) = 0 := by unfold cntI; split <;> omega
    unfold acc
    rw [e1, e2]
    have : ¬ 3 ≤ i := by omega
    simp [this]
  · have e1 : cntI s i = (s + i + 3) / 4 - (s + 6) / 4 := by unfold cntI; rw [if_neg h3]
    have e2 : cntI s (i + 1) = (s + i + 4) / 4 - (s + 6) / 4 := by unfold cntI; rw [if_neg (by omega)]; push_cast; congr 2; omega
    have h3' : decide (3 ≤ i) = true := by simp; omega
    rw [h3', Bool.true_and]
    unfold acc
    by_cases hz : (s + i) % 4 = 0
    · have e3 : cntI s (i + 1) = cntI s i + 1 := by rw [e1, e2]; omega
      by_cases hl : cntI s i < t
      · have hz' : decide ((s + (i : Int)) % 4 = 0) = true := by simp [hz]
        have hl' : decide (cntI s i < t) = true := by simp [hl]
        rw [hz', hl', Bool.true_and, Bool.true_and, if_pos hl, e3]
        have h0 : 0 ≤ cntI s i := by rw [e1]; omega
        have e4 : (if cntI s i + 1 < t then cntI s i + 1 else t).toNat = (cntI s i).toNat + 1 := by split <;> omega
        rw [e4]
        show outs s _ + _ = _
        have e5 : (s + 6) / 4 * 4 + 4 * (((cntI s i).toNat : Nat) : Int) = s + i := by rw [Int.toNat_of_nonneg h0, e1]; omega
        rw [e5]
      · rw [if_neg hl, e3, if_neg (by omega)]
        simp [hl]
    · have e3 : cntI s (i + 1) = cntI s i := by rw [e1, e2]; omega
      rw [e3]
      simp [hz]
theorem acc_end {s : Int} {i : Nat} {t : Int} (hc : ¬ cntI s i < 16) (ht : t ≤ 15) : acc s i t = outs s t.toNat := by
  unfold acc; rw [if_neg (by omega)]
theorem outs_bd (s : Int) (n : Nat) : 0 ≤ outs s n ∧ outs s n ≤ n := by
  induction n with
  | zero => exact ⟨Int.le_refl _, Int.le_refl _⟩
  | succ n ih => unfold outs; split <;> omega
theorem cnt_i {s : Int} (hs : 0 ≤ s) {i : Nat} (h : cntI s i < 16) : i ≤ 70 := by
  unfold cntI at h
  split at h <;> omega
theorem stop_bd (n : Int) : 0 ≤ stopI n ∧ stopI n ≤ 15 := by rw [stopI_eq]; omega
theorem MSat_0 {s : Int} {t0 t1 t2 t3 t4 : Int} (h0 : 0 ≤ t0) (h1 : 0 ≤ t1) (h2 : 0 ≤ t2) (h3 : 0 ≤ t3) (h4 : 0 ≤ t4) : MSat s 0 t0 t1 t2 t3 t4 = ⟨0, 0, true, true, true, true, true⟩ := by
  have e : cntI s 0 = 0 := rfl
  unfold MSat
  rw [e, if_pos (by decide), if_pos (by decide)]
  simp [h0, h1, h2, h3, h4]
theorem acc_0 {s t : Int} (h : 0 ≤ t) : acc s 0 t = 0 := by
  have e : cntI s 0 = 0 := rfl
  unfold acc
  rw [e]
  split
  · rfl
  · rw [show t = 0 by omega]; rfl
def shiftP (s t : Int) : Int := if s < 0 ∨ 228 ≤ s then 0 else (if 0 < s ∧ s < 76 then - (if 8 < 76 - s then 8 else 76 - s) else 0) + outs s t.toNat
end Go.Proofs
