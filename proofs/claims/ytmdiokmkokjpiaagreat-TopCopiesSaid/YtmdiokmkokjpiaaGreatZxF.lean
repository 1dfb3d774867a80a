/-
  Walks through the functions of the program, by contract.
-/
import Derived.Test.YtmdiokmkokjpiaaGreatZwF
set_option linter.all false
set_option linter.unusedVariables false
set_option linter.unusedSimpArgs false
set_option linter.unnecessarySimpa false
namespace Go.Proofs
open Go.Aw
set_option maxRecDepth 100000
set_option maxHeartbeats 8000000
def pA (P x : Nat) (s : TS) : TS := if P = x then { s with t0 := ⟨0, s.t0.ln, s.t0.sc⟩ } else s
def pB (P x : Nat) (s : TS) : TS := if P = x then { s with t1 := ⟨0, s.t1.ln, s.t1.sc⟩ } else s
def mq (P0 P1 : Nat) : Nat → TS
  | 0 => ts0 68 zeros
  | x + 1 => stp (pB P1 x (pA P0 x (mq P0 P1 x)))
theorem pA_top {P x : Nat} {s : TS} (h : s.Top) : (pA P x s).Top := by
  unfold pA; split
  · exact ⟨⟨h.c, h.mc, h.mg, ⟨show 0 < 160 by decide, h.t0.ln, h.t0.sc⟩, h.t1, h.t2, h.t3, h.t4, h.q, h.L, h.g00, h.g01, h.g10, h.g11, h.met⟩, h.late, h.m, h.b0, h.b1, h.z⟩
  · exact h
theorem pB_top {P x : Nat} {s : TS} (h : s.Top) : (pB P x s).Top := by
  unfold pB; split
  · exact ⟨⟨h.c, h.mc, h.mg, h.t0, ⟨show 0 < 160 by decide, h.t1.ln, h.t1.sc⟩, h.t2, h.t3, h.t4, h.q, h.L, h.g00, h.g01, h.g10, h.g11, h.met⟩, h.late, h.m, h.b0, h.b1, h.z⟩
  · exact h
theorem mq_top (P0 P1 : Nat) : ∀ x, (mq P0 P1 x).Top
  | 0 => ts0_top (by decide)
  | x + 1 => stp_top (pB_top (pA_top (mq_top P0 P1 x)))
theorem pA_c {P x : Nat} {s : TS} : (pA P x s).c = s.c := by unfold pA; split <;> rfl
theorem pB_c {P x : Nat} {s : TS} : (pB P x s).c = s.c := by unfold pB; split <;> rfl
theorem pA_L {P x : Nat} {s : TS} : (pA P x s).L = s.L := by unfold pA; split <;> rfl
theorem pB_L {P x : Nat} {s : TS} : (pB P x s).L = s.L := by unfold pB; split <;> rfl
theorem pA_t1 {P x : Nat} {s : TS} : (pA P x s).t1 = s.t1 := by unfold pA; split <;> rfl
theorem pB_t0 {P x : Nat} {s : TS} : (pB P x s).t0 = s.t0 := by unfold pB; split <;> rfl
theorem mq_L (P0 P1 : Nat) : ∀ x, (mq P0 P1 x).L = zeros
  | 0 => rfl
  | x + 1 => by rw [mq, stp_L, pB_L, pA_L, mq_L P0 P1 x]
theorem mq_c (P0 P1 : Nat) : ∀ x, (mq P0 P1 x).c = (68 + x) % 228
  | 0 => rfl
  | x + 1 => by rw [mq, stp_cc, pB_c, pA_c, mq_c P0 P1 x]; omega
theorem th_young : ∀ x : Fin 160, (thN 0 x.val t00).ln = 0 ∧ (thN 0 x.val t00).sc = 255 := by decide +kernel
theorem mq_t0 (P0 P1 : Nat) (hP : P0 < 160) : ∀ x, x ≤ 160 → (mq P0 P1 x).t0 = thN 0 (if x ≤ P0 then x else x - P0) t00
  | 0, _ => by rw [if_pos (Nat.zero_le _)]; rfl
  | x + 1, hx => by
    have ih := mq_t0 P0 P1 hP x (by omega)
    have hc : ¬ (pB P1 x (pA P0 x (mq P0 P1 x))).c < 68 := by rw [pB_c, pA_c, mq_c]; omega
    rw [mq, stp_t0, if_neg hc, pB_t0, pB_L, pA_L, mq_L, rg_zeros]
    have hA : (pA P0 x (mq P0 P1 x)).t0 = thN 0 (if x < P0 then x else x - P0) t00 := by
      unfold pA
      by_cases h : P0 = x
      · rw [if_pos h, if_neg (by omega), show x - P0 = 0 from by omega]
        rw [if_pos (by omega)] at ih
        obtain ⟨h1, h2⟩ := th_young ⟨x, by omega⟩
        show (⟨0, (mq P0 P1 x).t0.ln, (mq P0 P1 x).t0.sc⟩ : TH) = _
        rw [ih]
        exact TH.ext3 rfl h1 h2
      · rw [if_neg h, ih]
        by_cases h2 : x < P0
        · rw [if_pos h2, if_pos (by omega)]
        · rw [if_neg h2, if_neg (by omega)]
    rw [hA]
    by_cases h2 : x < P0
    · rw [if_pos h2, if_pos (by omega)]; rfl
    · rw [if_neg h2, if_neg (by omega), show x + 1 - P0 = (x - P0) + 1 from by omega]; rfl
theorem mq_t1 (P0 P1 : Nat) (hP : P1 < 160) : ∀ x, x ≤ 160 → (mq P0 P1 x).t1 = thN 0 (if x ≤ P1 then x else x - P1) t00
  | 0, _ => by rw [if_pos (Nat.zero_le _)]; rfl
  | x + 1, hx => by
    have ih := mq_t1 P0 P1 hP x (by omega)
    have hc : ¬ (pB P1 x (pA P0 x (mq P0 P1 x))).c < 68 := by rw [pB_c, pA_c, mq_c]; omega
    rw [mq, stp_t1, if_neg hc, pB_L, pA_L, mq_L, rg_zeros]
    have hA : (pB P1 x (pA P0 x (mq P0 P1 x))).t1 = thN 0 (if x < P1 then x else x - P1) t00 := by
      unfold pB
      by_cases h : P1 = x
      · rw [if_pos h, if_neg (by omega), show x - P1 = 0 from by omega]
        rw [if_pos (by omega)] at ih
        obtain ⟨h1, h2⟩ := th_young ⟨x, by omega⟩
        show (⟨0, (pA P0 x (mq P0 P1 x)).t1.ln, (pA P0 x (mq P0 P1 x)).t1.sc⟩ : TH) = _
        rw [pA_t1, ih]
        exact TH.ext3 rfl h1 h2
      · rw [if_neg h, pA_t1, ih]
        by_cases h2 : x < P1
        · rw [if_pos h2, if_pos (by omega)]
        · rw [if_neg h2, if_neg (by omega)]
    rw [hA]
    by_cases h2 : x < P1
    · rw [if_pos h2, if_pos (by omega)]; rfl
    · rw [if_neg h2, if_neg (by omega), show x + 1 - P1 = (x - P1) + 1 from by omega]; rfl
theorem cmN_iff (P0 P1 : Nat) (g0 g1 : Int) : ∀ k, cmN P0 P1 g0 g1 k = true ↔ ∃ j, j < k ∧ (P0 + j / 8) % 160 = (P1 + j % 8) % 160 ∧ graphI g0 false 1 (j / 8 : Nat) = true ∧ graphI g1 false 1 (j % 8 : Nat) = true
  | 0 => by
    constructor
    · intro h; cases h
    · rintro ⟨j, h, _⟩; omega
  | k + 1 => by
    rw [cmN, Bool.or_eq_true, cmN_iff P0 P1 g0 g1 k, Bool.and_eq_true, Bool.and_eq_true, decide_eq_true_iff]
    constructor
    · rintro (⟨j, hj, h⟩ | h)
      · exact ⟨j, by omega, h⟩
      · exact ⟨k, by omega, h⟩
    · rintro ⟨j, hj, h⟩
      by_cases he : j = k
      · subst he; exact .inr h
      · exact .inl ⟨j, by omega, h⟩
theorem wantB_zero (g : Int) (r : Nat) : wantB 0 g r = true ↔ ∃ d, d < 8 ∧ (5 + d) % 160 = r ∧ graphI g false 1 (d : Nat) = true := by
  unfold wantB
  simp only [List.any_eq_true, List.mem_range, Bool.and_eq_true, decide_eq_true_iff]
  constructor
  · rintro ⟨i, hi, d, hd, he, hg⟩
    have : i = 0 := by simpa [cpL] using hi
    subst this
    exact ⟨d, hd, by simpa [ldN] using he, hg⟩
  · rintro ⟨d, hd, he, hg⟩
    exact ⟨0, by simp [cpL], d, hd, by simpa [ldN] using he, hg⟩
/-- The law of two players. -/
theorem meet_law (P0 P1 : Nat) (g0 g1 : Int) (h0 : P0 < 160) (h1 : P1 < 160) : (∃ i, i < 456 ∧ 68 ≤ i % 228 ∧ wantB 0 g0 ((480 - P0 + visN i) % 160) = true ∧ wantB 0 g1 ((480 - P1 + visN i) % 160) = true) ↔ cmN P0 P1 g0 g1 64 = true := by
  rw [cmN_iff]
  simp only [wantB_zero]
  unfold visN
  constructor
  · rintro ⟨i, hi, hc, ⟨d, hd, e1, G0⟩, ⟨e, he, e2, G1⟩⟩
    refine ⟨8 * d + e, by omega, ?_, ?_, ?_⟩
    · rw [show (8 * d + e) / 8 = d from by omega, show (8 * d + e) % 8 = e from by omega]
      omega
    · rw [show (8 * d + e) / 8 = d from by omega]; exact G0
    · rw [show (8 * d + e) % 8 = e from by omega]; exact G1
  · rintro ⟨j, hj, e, G0, G1⟩
    obtain ⟨v, hv⟩ : ∃ v, v = (P0 + 5 + j / 8) % 160 := ⟨_, rfl⟩
    have hv2 : v < 160 := by omega
    have hvis : 160 * ((68 + v) / 228) + ((68 + v) % 228 - 68) = v := by omega
    have e5 : (5 + j / 8) % 160 = (480 - P0 + v) % 160 := by omega
    have e6 : (5 + j % 8) % 160 = (480 - P1 + v) % 160 := by
      rw [hv]
      generalize j / 8 = a at *
      generalize j % 8 = b at *
      omega
    refine ⟨68 + v, by omega, by omega, ⟨j / 8, by omega, by rw [hvis]; exact e5, G0⟩, ⟨j % 8, by omega, by rw [hvis]; exact e6, G1⟩⟩
theorem walk_TopMeet (g0 g1 y0 y1 : Int) (wg0 : (Lit.int .u8 g0).wf = true) (wg1 : (Lit.int .u8 g1).wf = true) (wy0 : (Lit.int .u8 y0).wf = true) (wy1 : (Lit.int .u8 y1).wf = true) : ACalls Tryz.prog 5 [.agg #[.int .u8 g0, .int .u8 g1], .agg #[.int .u8 y0, .int .u8 y1]] [] fun v _ => v = .bool true := by
  have hg0 := litF_byte wg0
  have hg1 := litF_byte wg1
  have hy0 := litF_byte wy0
  have hy1 := litF_byte wy1
  obtain ⟨P0, e0⟩ : ∃ P : Nat, P = (y0 % 160).toNat := ⟨_, rfl⟩
  obtain ⟨P1, e1⟩ : ∃ P : Nat, P = (y1 % 160).toNat := ⟨_, rfl⟩
  have h0 : P0 < 160 := by omega
  have h1 : P1 < 160 := by omega
  have t0 : (IntKind.i64.wrap y0).tmod 160 = (P0 : Int) := by rw [wrap64 (by omega) (by omega), Int.tmod_eq_emod_of_nonneg (by omega)]; omega
  have t1 : (IntKind.i64.wrap y1).tmod 160 = (P1 : Int) := by rw [wrap64 (by omega) (by omega), Int.tmod_eq_emod_of_nonneg (by omega)]; omega
  have s160 := mq_top P0 P1 160
  obtain ⟨b1, eb1⟩ : ∃ b, b = { mq P0 P1 160 with g00 := g0, g11 := (mq P0 P1 160).g10 } := ⟨_, rfl⟩
  have sb1 : b1.Top := by
    have h := s160
    rw [eb1]
    exact ⟨⟨h.c, h.mc, h.mg, h.t0, h.t1, h.t2, h.t3, h.t4, h.q, h.L, hg0, h.g01, h.g10, h.g10, h.met⟩, h.late, h.m, h.b0, h.b1, h.z⟩
  obtain ⟨b2, eb2⟩ : ∃ b, b = { b1 with g10 := g1, g01 := b1.g00, b1 := b1.b0 } := ⟨_, rfl⟩
  have sb2 : b2.Top := by
    have h := sb1
    rw [eb2]
    exact ⟨⟨h.c, h.mc, h.mg, h.t0, h.t1, h.t2, h.t3, h.t4, h.q, h.L, h.g00, h.g00, hg1, h.g11, h.met⟩, h.late, h.m, h.b0, h.b0, h.z⟩
  have sb3 := stpI_top sb2 456
  obtain ⟨b4, eb4⟩ : ∃ b, b = { stpI 456 b2 with met := 0 } := ⟨_, rfl⟩
  have sb4 : b4.Top := by
    have h := sb3
    rw [eb4]
    exact ⟨⟨h.c, h.mc, h.mg, h.t0, h.t1, h.t2, h.t3, h.t4, h.q, h.L, h.g00, h.g01, h.g10, h.g11, show (0 : Int) ≤ 0 ∧ (0 : Int) ≤ 65535 from by decide⟩, h.late, h.m, h.b0, h.b1, h.z⟩
  -- what the last state is
  have c2 : b2.c = 0 := by rw [eb2, eb1]; show (mq P0 P1 160).c = 0; rw [mq_c]
  have L2 : b2.L = zeros := by rw [eb2, eb1]; exact mq_L P0 P1 160
  have c4 : b4.c = 0 := by rw [eb4]; show (stpI 456 b2).c = 0; rw [stpI_c b2 sb2.c, c2]
  have L4 : b4.L = zeros := by rw [eb4]; show (stpI 456 b2).L = zeros; rw [stpI_eq, stpN_L, L2]
  have G0 : b4.g00 = g0 := by rw [eb4]; show (stpI 456 b2).g00 = g0; rw [stpI_eq, stpN_g00, eb2, eb1]
  have G1 : b4.g10 = g1 := by rw [eb4]; show (stpI 456 b2).g10 = g1; rw [stpI_eq, stpN_g10, eb2]
  have T0 : b4.t0 = thN 0 (480 - P0) t00 := by
    rw [eb4]; show (stpI 456 b2).t0 = _
    rw [stpI_eq, stpN_t0 b2 sb2, c2, L2, rg_zeros, eb2, eb1]
    show thN 0 _ (mq P0 P1 160).t0 = _
    rw [mq_t0 P0 P1 h0 160 (Nat.le_refl _), if_neg (by omega), thN_add, show 160 - P0 + (visN (0 + 456) - visN 0) = 480 - P0 from by unfold visN; omega]
  have T1 : b4.t1 = thN 0 (480 - P1) t00 := by
    rw [eb4]; show (stpI 456 b2).t1 = _
    rw [stpI_eq, stpN_t1 b2 sb2, c2, L2, rg_zeros, eb2, eb1]
    show thN 0 _ (mq P0 P1 160).t1 = _
    rw [mq_t1 P0 P1 h1 160 (Nat.le_refl _), if_neg (by omega), thN_add, show 160 - P1 + (visN (0 + 456) - visN 0) = 480 - P1 from by unfold visN; omega]
  have hm0 : tb b4.met 13 = 0 := by rw [eb4]; rfl
  have hpl : ∀ i, plB0 (stpN i b4) = wantB 0 g0 ((480 - P0 + visN i) % 160) ∧ plB1 (stpN i b4) = wantB 0 g1 ((480 - P1 + visN i) % 160) := by
    intro i
    have v0 : visN (0 + i) - visN 0 = visN i := by rw [Nat.zero_add]; show visN i - 0 = _; omega
    constructor
    · have := plB0_law (stpN i b4) 0 (480 - P0 + visN i) (by rw [stpN_L, L4, rg_zeros]; rfl) (by decide) (by omega) (by rw [stpN_t0 b4 sb4, L4, rg_zeros, T0, thN_add, c4, v0]; rfl)
      rw [stpN_g00, G0] at this; exact this
    · have := plB1_law (stpN i b4) 0 (480 - P1 + visN i) (by rw [stpN_L, L4, rg_zeros]; rfl) (by decide) (by omega) (by rw [stpN_t1 b4 sb4, L4, rg_zeros, T1, thN_add, c4, v0]; rfl)
      rw [stpN_g10, G1] at this; exact this
  have hmet := stpN_met b4 sb4 hm0 456
  have hci : ∀ i, (stpN i b4).c = i % 228 := fun i => by rw [stpN_c b4 sb4.c, c4, Nat.zero_add]
  simp only [hci, (hpl _).1, (hpl _).2] at hmet
  rw [meet_law P0 P1 g0 g1 h0 h1] at hmet
  have hfin : (bits .and .u8 (tellI (stpI 456 b4).met 7) 128 != 0) = cmI P0 P1 g0 g1 64 := by
    have hb := tell7_bd (stpI 456 b4).met
    rw [and128u _ hb, Bool.eq_iff_iff, decide_eq_true_iff]
    unfold cmI
    rw [← hmet, stpI_eq]
    have hx : tellI (stpN 456 b4).met 7 = 128 * tb (stpN 456 b4).met 13 + 64 * tb (stpN 456 b4).met 14 := by
      unfold tellI
      rw [if_neg (by decide), if_neg (by decide), if_pos rfl]
    have := tb_01 (stpN 456 b4).met 13
    have := tb_01 (stpN 456 b4).met 14
    omega
  clear hmet hpl hci T0 T1 G0 G1 hm0
  refine tmeetG g0 g1 y0 y1 hg0 hg1 P0 P1 h0 h1 t0 t1 (mq P0 P1) (fun x => pA P0 x (mq P0 P1 x)) (fun x => pB P1 x (pA P0 x (mq P0 P1 x))) b1 b2 b4 (mq_top P0 P1) (fun x => pA_top (mq_top P0 P1 x)) (fun x => pB_top (pA_top (mq_top P0 P1 x))) sb1 sb2 sb4 (tellI (stpI 456 b4).met 7) (tia_new0 68 (by decide)) ?_ ?_ ?_ ?_ (fun x => rfl) ?_ ?_ ?_ ?_ hfin
  · intro x hx
    have := sto_16 (mq P0 P1 x) (mq_top P0 P1 x)
    simp only [pA, if_pos hx]
    exact this
  · intro x hx
    simp only [pA, if_neg hx]
  · intro x hx
    have := sto_17 (pA P0 x (mq P0 P1 x)) (pA_top (mq_top P0 P1 x))
    simp only [pB, if_pos hx]
    exact this
  · intro x hx
    simp only [pB, if_neg hx]
  · rw [eb1]; exact sto_27 _ s160 g0 hg0
  · rw [eb2]; exact sto_28 _ sb1 g1 hg1
  · rw [eb4]; exact sto_44 _ sb3
  · exact tread7 _ (stpI_top sb4 456)
end Go.Proofs
