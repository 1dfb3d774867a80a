/-
  Walks through the functions of the program, by contract.
-/
import Derived.Test.YtmdiokmkokjpiaaGreatZmF
set_option linter.all false
set_option linter.unusedVariables false
set_option linter.unusedSimpArgs false
set_option linter.unnecessarySimpa false
namespace Go.Proofs
open Go.Aw
set_option maxRecDepth 100000
set_option maxHeartbeats 8000000
theorem stp_top {s : TS} (h : s.Top) : (stp s).Top := by
  have hc : (s.c + 1) % 228 < 228 := Nat.mod_lt _ (by decide)
  unfold stp
  split
  · exact ⟨⟨hc, h.mc, h.mg, h.t0, h.t1, h.t2, h.t3, h.t4, Nat.min_le_right _ _, h.L, h.g00, h.g01, h.g10, h.g11, h.met⟩, h.late, h.m, h.b0, h.b1, h.z⟩
  · split
    · exact ⟨⟨hc, h.mc, h.mg, h.t0, h.t1, h.t2, h.t3, h.t4, h.q, h.L, h.g00, h.g01, h.g10, h.g11, h.met⟩, h.late, h.m, h.b0, h.b1, h.z⟩
    · split
      · exact ⟨⟨hc, h.mc, h.mg, h.t0, h.t1, h.t2, h.t3, h.t4, h.q, h.L, h.g00, h.g01, h.g10, h.g11, h.met⟩, h.late, h.m, h.b0, h.b1, h.z⟩
      · split
        · exact ⟨⟨hc, h.mc, h.mg, TH.tk_ok _ _, TH.tk_ok _ _, TH.tk_ok _ _, TH.tk_ok _ _, TH.tk_ok _ _, h.q, h.L, h.g00, h.g01, h.g10, h.g11, mtI_bd h.met _⟩, h.late, h.m, h.b0, h.b1, h.z⟩
        · exact ⟨⟨hc, h.mc, h.mg, TH.tk_ok _ _, TH.tk_ok _ _, TH.tk_ok _ _, TH.tk_ok _ _, TH.tk_ok _ _, h.q, h.L, h.g00, h.g01, h.g10, h.g11, mtI_bd h.met _⟩, h.late, h.m, h.b0, h.b1, h.z⟩
theorem stp_cc (s : TS) : (stp s).c = (s.c + 1) % 228 := by unfold stp; (repeat' split) <;> rfl
theorem stp_L (s : TS) : (stp s).L = s.L := by unfold stp; (repeat' split) <;> rfl
theorem stp_g00 (s : TS) : (stp s).g00 = s.g00 := by unfold stp; (repeat' split) <;> rfl
theorem stp_g01 (s : TS) : (stp s).g01 = s.g01 := by unfold stp; (repeat' split) <;> rfl
theorem stp_g10 (s : TS) : (stp s).g10 = s.g10 := by unfold stp; (repeat' split) <;> rfl
theorem stp_g11 (s : TS) : (stp s).g11 = s.g11 := by unfold stp; (repeat' split) <;> rfl
theorem stp_t0 (s : TS) : (stp s).t0 = if s.c < 68 then s.t0 else s.t0.tk (rg s.L 4) := by
  unfold stp; by_cases h : s.c < 68
  · rw [if_pos h]; (repeat' split) <;> first | rfl | omega
  · rw [if_neg h]; (repeat' split) <;> first | rfl | omega
theorem stp_t1 (s : TS) : (stp s).t1 = if s.c < 68 then s.t1 else s.t1.tk (rg s.L 5) := by
  unfold stp; by_cases h : s.c < 68
  · rw [if_pos h]; (repeat' split) <;> first | rfl | omega
  · rw [if_neg h]; (repeat' split) <;> first | rfl | omega
theorem stp_met (s : TS) : (stp s).met = if s.c < 68 then s.met else mtI s ((s.c - 68 : Nat) : Int) := by
  unfold stp; by_cases h : s.c < 68
  · rw [if_pos h]; (repeat' split) <;> first | rfl | omega
  · rw [if_neg h]; (repeat' split) <;> first | rfl | omega
/-- Some steps. -/
def stpN : Nat → TS → TS
  | 0, s => s
  | n+1, s => stp (stpN n s)
theorem stpN_top {s : TS} (h : s.Top) : ∀ n, (stpN n s).Top
  | 0 => h
  | n+1 => stp_top (stpN_top h n)
theorem stpN_c (s : TS) (h : s.c < 228) : ∀ n, (stpN n s).c = (s.c + n) % 228
  | 0 => (Nat.mod_eq_of_lt h).symm
  | n+1 => by rw [stpN, stp_cc, stpN_c s h n]; omega
theorem stpN_L (s : TS) : ∀ n, (stpN n s).L = s.L
  | 0 => rfl
  | n+1 => by rw [stpN, stp_L, stpN_L s n]
theorem stpN_g00 (s : TS) : ∀ n, (stpN n s).g00 = s.g00
  | 0 => rfl
  | n+1 => by rw [stpN, stp_g00, stpN_g00 s n]
theorem stpN_g01 (s : TS) : ∀ n, (stpN n s).g01 = s.g01
  | 0 => rfl
  | n+1 => by rw [stpN, stp_g01, stpN_g01 s n]
theorem stpN_g10 (s : TS) : ∀ n, (stpN n s).g10 = s.g10
  | 0 => rfl
  | n+1 => by rw [stpN, stp_g10, stpN_g10 s n]
theorem stpN_g11 (s : TS) : ∀ n, (stpN n s).g11 = s.g11
  | 0 => rfl
  | n+1 => by rw [stpN, stp_g11, stpN_g11 s n]
theorem stpN_add (s : TS) (a : Nat) : ∀ b, stpN b (stpN a s) = stpN (a + b) s
  | 0 => rfl
  | b+1 => by rw [stpN, stpN_add s a b]; rfl
end Go.Proofs
