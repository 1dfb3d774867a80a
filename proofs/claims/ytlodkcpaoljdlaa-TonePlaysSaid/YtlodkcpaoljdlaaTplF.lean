/-
  Walks through the functions of the program, by contract.
-/
import Derived.Test.YtlodkcpaoljdlaaReftF
set_option linter.all false
set_option linter.unusedVariables false
set_option linter.unusedSimpArgs false
set_option linter.unnecessarySimpa false
namespace Go.Proofs
open Go.Aw
set_option maxRecDepth 100000
set_option maxHeartbeats 8000000
theorem walk_TonePlays (off len cap : Nat) (hl : len ≤ maxLen) (E : Nat → List Value) (hE : ∀ i, i < len → FitsAll taKs (E i)) :
    ACalls Try.prog 11 [.slice (some ⟨0, off, none⟩) len cap] [.ro (slc off 11 len E)] fun v _ => v = .bool true := by
  refine ACalls.code tabOk h11 Try.func11 Try.call11 ok11 ?_
  conv => whnf
  refine Bif.of (fun h60 => ?_) fun h60 => ?_
  · conv => whnf
    refine ⟨rfl, ?_⟩
    conv => whnf
  have hl : len ≤ 20 := by simp at h60; omega
  conv => whnf
  refine ACalls.useE (tone_new) [] rfl (by (conv => whnf); try rfl) (by (conv => whnf); try rfl) ?_
  conv => whnf
  refine ALoop.fd (σ := Nat × VW) (fun (⟨i, c, r, w, a, b, d, k, h⟩ : Nat × VW) => [.slice (some ⟨0, off, none⟩) len cap, .chan none, .bool false, .pointer (some ⟨1, 0, none⟩), .pointer (some ⟨5, 0, none⟩), .int .i64 i, .chan none, .chan none, .chan none, .chan none, .chan none, .chan none, .chan none, .chan none, .chan none, .chan none, .chan none, .chan none, .chan none, .chan none, .chan none, .chan none, .chan none, .chan none, .chan none, .chan none, .chan none, .chan none, .chan none, .chan none, .chan none, .chan none, .chan none, .chan none, .chan none, .chan none, .chan none, .chan none, .chan none, .chan none, .chan none, .chan none, .chan none, .chan none, .chan none, .chan none, .chan none, .chan none]) (fun (⟨i, c, r, w, a, b, d, k, h⟩ : Nat × VW) => [.ro (slc off 11 len E), .cells [.int .u8 c, .int .u8 r, .int .u8 w, .pointer (some ⟨2, 0, none⟩), .pointer (some ⟨3, 0, none⟩), .pointer (some ⟨4, 0, none⟩), .int .i64 k, .bool h] 87, .cells [.int .u8 a, .int .i64 4, .int .i64 1] 76, .cells [.int .u8 b, .int .i64 5, .int .i64 2] 76, .cells [.int .u16 d, .int .i64 9, .int .i64 4] 81, .cells [.int .i64 c, .int .i64 r, .int .i64 w, .int .i64 a, .int .i64 b, .int .i64 d, .int .i64 k, .bool h] 68]) (fun s => s.1 ≤ len ∧ s.2.Ok) (fun s => len - s.1) (0, ⟨0, 0, 0, 0, 0, 0, 0, false⟩) [] rfl rfl ⟨Nat.zero_le _, by constructor <;> decide⟩ (by rintro ⟨i, c, r, w, a, b, d, k, h⟩; exact ⟨rfl, rfl, rfl, rfl⟩) ?_
  rintro ⟨i, c, r, w, a, b, d, k, h⟩ ⟨hi, hok⟩ R hR
  dsimp only at hi
  have e2 : IntKind.i64.wrap ((i : Int) + 1) = ((i + 1 : Nat) : Int) := by rw [wrap64 (by omega) (by omega)]; rfl
  obtain ⟨hc, hr, hw, ha, hb, hd, hk⟩ := hok
  dsimp only at hc hr hw ha hb hd hk
  conv => whnf
  refine Bif.of (fun h0 => ?_) fun h0 => ?_
  · have hlt : i < len := by simp at h0; omega
    obtain ⟨kd, ln, n, w0, w1, w2, w3, w4, w5, w6, w7, hEi, b1, b2⟩ := ta_cells (hE i hlt)
    have hk0 : 0 ≤ (IntKind.i64.wrap (kd.tmod 7 + 7)).tmod 7 ∧ (IntKind.i64.wrap (kd.tmod 7 + 7)).tmod 7 ≤ 6 := by
      have h1 := Int.lt_tmod_of_pos kd (show (0 : Int) < 7 by decide)
      have h2 := Int.tmod_lt_of_pos kd (show (0 : Int) < 7 by decide)
      rw [wrap64 (by omega) (by omega), Int.tmod_eq_emod_of_nonneg (by omega)]; omega
    have hN : (IntKind.i64.wrap ln).tmod 700 = ln % 700 := by rw [wrap64 (by omega) (by omega), Int.tmod_eq_emod_of_nonneg (by omega)]
    have n16 : (IntKind.i64.wrap n).tmod 16 = n % 16 := by rw [wrap64 (by omega) (by omega), Int.tmod_eq_emod_of_nonneg (by omega)]
    have n32 : (IntKind.i64.wrap n).tmod 32 = n % 32 := by rw [wrap64 (by omega) (by omega), Int.tmod_eq_emod_of_nonneg (by omega)]
    generalize hK : (IntKind.i64.wrap (kd.tmod 7 + 7)).tmod 7 = K at hk0
    have hK' : K = 0 ∨ K = 1 ∨ K = 2 ∨ K = 3 ∨ K = 4 ∨ K = 5 ∨ K = 6 := by omega
    rcases hK' with rfl | rfl | rfl | rfl | rfl | rfl | rfl
    · conv => whnf
      refine Req.of ?_ ?_
      · (clear hR; simp; omega)
      conv => whnf
      refine slc_ex i 0 hlt (by decide) (by rw [hEi]; rfl) (by first | omega | (simp; done)) ?_
      conv => whnf
      refine slc_ex i 1 hlt (by decide) (by rw [hEi]; rfl) (by first | omega | (simp; done)) ?_
      conv => whnf
      refine slc_ex i 2 hlt (by decide) (by rw [hEi]; rfl) (by first | omega | (simp; done)) ?_
      conv => whnf
      refine slc_ex i 3 hlt (by decide) (by rw [hEi]; rfl) (by first | omega | (simp; done)) ?_
      conv => whnf
      refine slc_ex i 4 hlt (by decide) (by rw [hEi]; rfl) (by first | omega | (simp; done)) ?_
      conv => whnf
      refine slc_ex i 5 hlt (by decide) (by rw [hEi]; rfl) (by first | omega | (simp; done)) ?_
      conv => whnf
      refine slc_ex i 6 hlt (by decide) (by rw [hEi]; rfl) (by first | omega | (simp; done)) ?_
      conv => whnf
      refine slc_ex i 7 hlt (by decide) (by rw [hEi]; rfl) (by first | omega | (simp; done)) ?_
      conv => whnf
      refine slc_ex i 8 hlt (by decide) (by rw [hEi]; rfl) (by first | omega | (simp; done)) ?_
      conv => whnf
      refine slc_ex i 9 hlt (by decide) (by rw [hEi]; rfl) (by first | omega | (simp; done)) ?_
      conv => whnf
      refine slc_ex i 10 hlt (by decide) (by rw [hEi]; rfl) (by first | omega | (simp; done)) ?_
      conv => whnf
      refine ACalls.code tabOk h41 Try.func41 Try.call41 ok41 ?_
      conv => whnf
      rw [hK]
      conv => whnf
      refine ALoop.fd (σ := Nat) (fun j => [.pointer (some ⟨1, 0, none⟩), .chan none, .chan none, .chan none, .pointer (some ⟨6, 0, none⟩), .pointer (some ⟨7, 0, none⟩), .pointer (some ⟨8, 0, none⟩), .bool false, .chan none, .int .i64 j, .chan none, .chan none, .chan none, .chan none, .chan none, .chan none, .chan none, .chan none, .chan none, .chan none, .chan none, .chan none, .chan none, .chan none, .chan none, .chan none, .chan none, .chan none, .chan none, .chan none, .chan none, .chan none, .chan none, .chan none, .chan none, .chan none, .chan none, .chan none, .chan none, .chan none, .chan none, .chan none, .chan none, .chan none, .chan none, .chan none, .chan none, .chan none, .chan none, .chan none, .chan none, .chan none, .chan none, .chan none, .chan none, .chan none, .chan none, .chan none, .chan none, .chan none, .chan none, .chan none, .chan none, .chan none, .chan none, .chan none, .chan none, .chan none, .chan none, .chan none, .chan none, .chan none, .chan none, .chan none, .chan none, .chan none, .chan none, .chan none, .chan none, .chan none, .chan none, .chan none, .chan none, .chan none, .chan none, .chan none]) (fun j => [.ro (slc off 11 len E), .cells [.int .u8 c, .int .u8 r, .int .u8 w, .pointer (some ⟨2, 0, none⟩), .pointer (some ⟨3, 0, none⟩), .pointer (some ⟨4, 0, none⟩), .int .i64 (tsK c r j a b d k h), .bool (tsH c r j a b d k h)] 87, .cells [.int .u8 (tsA c r j a b d k h), .int .i64 4, .int .i64 1] 76, .cells [.int .u8 (tsB c r j a b d k h), .int .i64 5, .int .i64 2] 76, .cells [.int .u16 (tsD c r j a b d k h), .int .i64 9, .int .i64 4] 81, .cells [.int .i64 c, .int .i64 r, .int .i64 w, .int .i64 a, .int .i64 b, .int .i64 d, .int .i64 k, .bool h] 68, .cells [.int .i64 c, .int .i64 r, .int .i64 w, .int .i64 (tsA c r j a b d k h), .int .i64 (tsB c r j a b d k h), .int .i64 (tsD c r j a b d k h), .int .i64 (tsK c r j a b d k h), .bool (tsH c r j a b d k h)] 68, .cells [.int .i64 kd, .int .u16 ln, .int .u8 n, .int .i64 w0, .int .i64 w1, .int .i64 w2, .int .i64 w3, .int .i64 w4, .int .i64 w5, .int .i64 w6, .int .i64 w7] 64, .cells [.int .i64 0, .int .i64 0, .int .i64 0, .int .i64 0, .int .i64 0, .int .i64 0, .int .i64 0, .bool false] 68]) (fun j => j ≤ (ln % 700).toNat) (fun j => (ln % 700).toNat - j) 0 [] rfl (by rw [tsA_zero, tsB_zero, tsD_zero, tsK_zero, tsH_zero]; rfl) (Nat.zero_le _) (fun _ => ⟨rfl, rfl, rfl, rfl⟩) ?_
      intro j hj R' hR'
      have ej : IntKind.i64.wrap ((j : Int) + 1) = ((j + 1 : Nat) : Int) := by rw [wrap64 (by omega) (by omega)]; rfl
      have hT := ts_ok (c := c) hr j h ha hb hd hk
      conv => whnf
      rw [hN]
      refine Bif.of (fun hc2 => ?_) fun hc2 => ?_
      · have hlt2 : (j : Int) < ln % 700 := by simpa using hc2
        have hll := lev_le (c := c) (tsH c r (j + 1) a b d k h) (w := w) hw
        have ew : IntKind.i64.wrap (levG c w (tsH c r (j + 1) a b d k h)) = levG c w (tsH c r (j + 1) a b d k h) := wrap64 (by omega) (by omega)
        clear hR
        conv => whnf
        refine ACalls.useE (tone_tickU _ _ _ _ _ _ _ _ ?_ ?_ ?_) [1, 2, 3, 4] rfl (by (conv => whnf); try rfl) (by (conv => whnf); try rfl) ?_
        · omega
        · omega
        · omega
        conv => whnf
        refine ACalls.useE (ref19_tick _ _ _ _ _ _ _ _ ?_ ?_ ?_ ?_ ?_ ?_) [] rfl (by (conv => whnf); try rfl) (by (conv => whnf); try rfl) ?_
        · omega
        · omega
        · omega
        · omega
        · omega
        · omega
        conv => whnf
        refine ACalls.useE (tone_levelU _ _ _ _ _ _ _ _) [1, 2, 3, 4] rfl (by (conv => whnf); try rfl) (by (conv => whnf); try rfl) ?_
        conv => whnf
        rw [tsA_succ, tsB_succ, tsD_succ, tsK_succ, tsH_succ]
        conv => whnf
        refine ⟨rfl, ?_⟩
        conv => whnf
        refine ACalls.useE (ref19_level _ _ _ _ _ _ _ _) [] rfl (by (conv => whnf); try rfl) (by (conv => whnf); try rfl) ?_
        conv => whnf
        rw [ew]
        conv => whnf
        refine Bif.knF ?_ fun h0 => ?_
        · (simp; done)
        conv => whnf
        (rw [ej]; exact hR' (j + 1) _ _ _ rfl rfl (by omega) (by omega))
      · have hjj : (j : Int) = ln % 700 := by have : ¬ (j : Int) < ln % 700 := by simpa using hc2
                                              omega
        have hll := lev_le (c := c) (tsH c r j a b d k h) (w := w) hw
        have ew : IntKind.i64.wrap (levG c w (tsH c r j a b d k h)) = levG c w (tsH c r j a b d k h) := wrap64 (by omega) (by omega)
        clear hR'
        conv => whnf
        refine ⟨rfl, ?_⟩
        conv => whnf
        refine ACalls.useE (tone_wordsU _ _ _ _ _ _ _ _ ?_ ?_ ?_ ?_ ?_ ?_ ?_) [1, 2, 3, 4] rfl (by (conv => whnf); try rfl) (by (conv => whnf); try rfl) ?_
        · omega
        · omega
        · omega
        · omega
        · omega
        · omega
        · omega
        conv => whnf
        refine ⟨rfl, ?_⟩
        conv => whnf
        refine ACalls.useE (ref19_words _ _ _ _ _ _ _ _) [] rfl (by (conv => whnf); try rfl) (by (conv => whnf); try rfl) ?_
        conv => whnf
        refine Bif.knF ?_ fun h0 => ?_
        · (simp; done)
        conv => whnf
        refine Bif.knF ?_ fun h1 => ?_
        · with_reducible assumption
        conv => whnf
        refine Bif.knF ?_ fun h2 => ?_
        · with_reducible assumption
        conv => whnf
        refine ACalls.useE (tone_levelU _ _ _ _ _ _ _ _) [1, 2, 3, 4] rfl (by (conv => whnf); try rfl) (by (conv => whnf); try rfl) ?_
        conv => whnf
        refine ⟨rfl, ?_⟩
        conv => whnf
        refine Bif.knF ?_ fun h3 => ?_
        · with_reducible assumption
        conv => whnf
        rw [ew]
        conv => whnf
        refine Bif.knF ?_ fun h4 => ?_
        · with_reducible assumption
        conv => whnf
        refine ACalls.useE (ref19_level _ _ _ _ _ _ _ _) [] rfl (by (conv => whnf); try rfl) (by (conv => whnf); try rfl) ?_
        conv => whnf
        refine Bif.knF ?_ fun h5 => ?_
        · with_reducible assumption
        conv => whnf
        refine Bif.knF ?_ fun h6 => ?_
        · with_reducible assumption
        conv => whnf
        refine Bif.knF ?_ fun h7 => ?_
        · (simp; done)
        conv => whnf
        (rw [e2]; exact hR (i + 1, ⟨c, r, w, (tsA c r j a b d k h), (tsB c r j a b d k h), (tsD c r j a b d k h), (tsK c r j a b d k h), (tsH c r j a b d k h)⟩) _ _ _ rfl rfl ⟨hlt, ⟨hc, hr, hw, hT.1, hT.2.1, hT.2.2.1, hT.2.2.2⟩⟩ (by show len - (i + 1) < len - i; omega))
    · conv => whnf
      refine Req.of ?_ ?_
      · (clear hR; simp; omega)
      conv => whnf
      refine slc_ex i 0 hlt (by decide) (by rw [hEi]; rfl) (by first | omega | (simp; done)) ?_
      conv => whnf
      refine slc_ex i 1 hlt (by decide) (by rw [hEi]; rfl) (by first | omega | (simp; done)) ?_
      conv => whnf
      refine slc_ex i 2 hlt (by decide) (by rw [hEi]; rfl) (by first | omega | (simp; done)) ?_
      conv => whnf
      refine slc_ex i 3 hlt (by decide) (by rw [hEi]; rfl) (by first | omega | (simp; done)) ?_
      conv => whnf
      refine slc_ex i 4 hlt (by decide) (by rw [hEi]; rfl) (by first | omega | (simp; done)) ?_
      conv => whnf
      refine slc_ex i 5 hlt (by decide) (by rw [hEi]; rfl) (by first | omega | (simp; done)) ?_
      conv => whnf
      refine slc_ex i 6 hlt (by decide) (by rw [hEi]; rfl) (by first | omega | (simp; done)) ?_
      conv => whnf
      refine slc_ex i 7 hlt (by decide) (by rw [hEi]; rfl) (by first | omega | (simp; done)) ?_
      conv => whnf
      refine slc_ex i 8 hlt (by decide) (by rw [hEi]; rfl) (by first | omega | (simp; done)) ?_
      conv => whnf
      refine slc_ex i 9 hlt (by decide) (by rw [hEi]; rfl) (by first | omega | (simp; done)) ?_
      conv => whnf
      refine slc_ex i 10 hlt (by decide) (by rw [hEi]; rfl) (by first | omega | (simp; done)) ?_
      conv => whnf
      refine ACalls.code tabOk h41 Try.func41 Try.call41 ok41 ?_
      conv => whnf
      rw [hK]
      conv => whnf
      refine ALoop.fd (σ := Nat) (fun j => [.pointer (some ⟨1, 0, none⟩), .chan none, .chan none, .chan none, .pointer (some ⟨6, 0, none⟩), .pointer (some ⟨7, 0, none⟩), .pointer (some ⟨8, 0, none⟩), .bool false, .chan none, .int .i64 j, .chan none, .chan none, .chan none, .chan none, .chan none, .chan none, .chan none, .chan none, .chan none, .chan none, .chan none, .chan none, .chan none, .chan none, .chan none, .chan none, .chan none, .chan none, .chan none, .chan none, .chan none, .chan none, .chan none, .chan none, .chan none, .chan none, .chan none, .chan none, .chan none, .chan none, .chan none, .chan none, .chan none, .chan none, .chan none, .chan none, .chan none, .chan none, .chan none, .chan none, .chan none, .chan none, .chan none, .chan none, .chan none, .chan none, .chan none, .chan none, .chan none, .chan none, .chan none, .chan none, .chan none, .chan none, .chan none, .chan none, .chan none, .chan none, .chan none, .chan none, .chan none, .chan none, .chan none, .chan none, .chan none, .chan none, .chan none, .chan none, .chan none, .chan none, .chan none, .chan none, .chan none, .chan none, .chan none, .chan none]) (fun j => [.ro (slc off 11 len E), .cells [.int .u8 c, .int .u8 r, .int .u8 w, .pointer (some ⟨2, 0, none⟩), .pointer (some ⟨3, 0, none⟩), .pointer (some ⟨4, 0, none⟩), .int .i64 (tsK c r j a b d k h), .bool (tsH c r j a b d k h)] 87, .cells [.int .u8 (tsA c r j a b d k h), .int .i64 4, .int .i64 1] 76, .cells [.int .u8 (tsB c r j a b d k h), .int .i64 5, .int .i64 2] 76, .cells [.int .u16 (tsD c r j a b d k h), .int .i64 9, .int .i64 4] 81, .cells [.int .i64 c, .int .i64 r, .int .i64 w, .int .i64 a, .int .i64 b, .int .i64 d, .int .i64 k, .bool h] 68, .cells [.int .i64 c, .int .i64 r, .int .i64 w, .int .i64 (tsA c r j a b d k h), .int .i64 (tsB c r j a b d k h), .int .i64 (tsD c r j a b d k h), .int .i64 (tsK c r j a b d k h), .bool (tsH c r j a b d k h)] 68, .cells [.int .i64 kd, .int .u16 ln, .int .u8 n, .int .i64 w0, .int .i64 w1, .int .i64 w2, .int .i64 w3, .int .i64 w4, .int .i64 w5, .int .i64 w6, .int .i64 w7] 64, .cells [.int .i64 0, .int .i64 0, .int .i64 0, .int .i64 0, .int .i64 0, .int .i64 0, .int .i64 0, .bool false] 68]) (fun j => j ≤ (ln % 700).toNat) (fun j => (ln % 700).toNat - j) 0 [] rfl (by rw [tsA_zero, tsB_zero, tsD_zero, tsK_zero, tsH_zero]; rfl) (Nat.zero_le _) (fun _ => ⟨rfl, rfl, rfl, rfl⟩) ?_
      intro j hj R' hR'
      have ej : IntKind.i64.wrap ((j : Int) + 1) = ((j + 1 : Nat) : Int) := by rw [wrap64 (by omega) (by omega)]; rfl
      have hT := ts_ok (c := c) hr j h ha hb hd hk
      conv => whnf
      rw [hN]
      refine Bif.of (fun hc2 => ?_) fun hc2 => ?_
      · have hlt2 : (j : Int) < ln % 700 := by simpa using hc2
        have hll := lev_le (c := c) (tsH c r (j + 1) a b d k h) (w := w) hw
        have ew : IntKind.i64.wrap (levG c w (tsH c r (j + 1) a b d k h)) = levG c w (tsH c r (j + 1) a b d k h) := wrap64 (by omega) (by omega)
        clear hR
        conv => whnf
        refine ACalls.useE (tone_tickU _ _ _ _ _ _ _ _ ?_ ?_ ?_) [1, 2, 3, 4] rfl (by (conv => whnf); try rfl) (by (conv => whnf); try rfl) ?_
        · omega
        · omega
        · omega
        conv => whnf
        refine ACalls.useE (ref19_tick _ _ _ _ _ _ _ _ ?_ ?_ ?_ ?_ ?_ ?_) [] rfl (by (conv => whnf); try rfl) (by (conv => whnf); try rfl) ?_
        · omega
        · omega
        · omega
        · omega
        · omega
        · omega
        conv => whnf
        refine ACalls.useE (tone_levelU _ _ _ _ _ _ _ _) [1, 2, 3, 4] rfl (by (conv => whnf); try rfl) (by (conv => whnf); try rfl) ?_
        conv => whnf
        rw [tsA_succ, tsB_succ, tsD_succ, tsK_succ, tsH_succ]
        conv => whnf
        refine ⟨rfl, ?_⟩
        conv => whnf
        refine ACalls.useE (ref19_level _ _ _ _ _ _ _ _) [] rfl (by (conv => whnf); try rfl) (by (conv => whnf); try rfl) ?_
        conv => whnf
        rw [ew]
        conv => whnf
        refine Bif.knF ?_ fun h0 => ?_
        · (simp; done)
        conv => whnf
        (rw [ej]; exact hR' (j + 1) _ _ _ rfl rfl (by omega) (by omega))
      · have hjj : (j : Int) = ln % 700 := by have : ¬ (j : Int) < ln % 700 := by simpa using hc2
                                              omega
        have hll := lev_le (c := c) (tsH c r j a b d k h) (w := w) hw
        have ew : IntKind.i64.wrap (levG c w (tsH c r j a b d k h)) = levG c w (tsH c r j a b d k h) := wrap64 (by omega) (by omega)
        clear hR'
        conv => whnf
        refine ⟨rfl, ?_⟩
        conv => whnf
        refine ACalls.useE (tone_wordsU _ _ _ _ _ _ _ _ ?_ ?_ ?_ ?_ ?_ ?_ ?_) [1, 2, 3, 4] rfl (by (conv => whnf); try rfl) (by (conv => whnf); try rfl) ?_
        · omega
        · omega
        · omega
        · omega
        · omega
        · omega
        · omega
        conv => whnf
        refine ⟨rfl, ?_⟩
        conv => whnf
        refine ACalls.useE (ref19_words _ _ _ _ _ _ _ _) [] rfl (by (conv => whnf); try rfl) (by (conv => whnf); try rfl) ?_
        conv => whnf
        refine Bif.knF ?_ fun h0 => ?_
        · (simp; done)
        conv => whnf
        refine Bif.knF ?_ fun h1 => ?_
        · with_reducible assumption
        conv => whnf
        refine Bif.knF ?_ fun h2 => ?_
        · with_reducible assumption
        conv => whnf
        refine ACalls.useE (tone_levelU _ _ _ _ _ _ _ _) [1, 2, 3, 4] rfl (by (conv => whnf); try rfl) (by (conv => whnf); try rfl) ?_
        conv => whnf
        refine ⟨rfl, ?_⟩
        conv => whnf
        refine Bif.knF ?_ fun h3 => ?_
        · with_reducible assumption
        conv => whnf
        rw [ew]
        conv => whnf
        refine Bif.knF ?_ fun h4 => ?_
        · with_reducible assumption
        conv => whnf
        refine ACalls.useE (ref19_level _ _ _ _ _ _ _ _) [] rfl (by (conv => whnf); try rfl) (by (conv => whnf); try rfl) ?_
        conv => whnf
        refine Bif.knF ?_ fun h5 => ?_
        · with_reducible assumption
        conv => whnf
        refine Bif.knF ?_ fun h6 => ?_
        · with_reducible assumption
        conv => whnf
        refine Bif.knF ?_ fun h7 => ?_
        · (simp; done)
        conv => whnf
        (rw [e2]; exact hR (i + 1, ⟨c, r, w, (tsA c r j a b d k h), (tsB c r j a b d k h), (tsD c r j a b d k h), (tsK c r j a b d k h), (tsH c r j a b d k h)⟩) _ _ _ rfl rfl ⟨hlt, ⟨hc, hr, hw, hT.1, hT.2.1, hT.2.2.1, hT.2.2.2⟩⟩ (by show len - (i + 1) < len - i; omega))
    · conv => whnf
      refine Req.of ?_ ?_
      · (clear hR; simp; omega)
      conv => whnf
      refine slc_ex i 0 hlt (by decide) (by rw [hEi]; rfl) (by first | omega | (simp; done)) ?_
      conv => whnf
      refine slc_ex i 1 hlt (by decide) (by rw [hEi]; rfl) (by first | omega | (simp; done)) ?_
      conv => whnf
      refine slc_ex i 2 hlt (by decide) (by rw [hEi]; rfl) (by first | omega | (simp; done)) ?_
      conv => whnf
      refine slc_ex i 3 hlt (by decide) (by rw [hEi]; rfl) (by first | omega | (simp; done)) ?_
      conv => whnf
      refine slc_ex i 4 hlt (by decide) (by rw [hEi]; rfl) (by first | omega | (simp; done)) ?_
      conv => whnf
      refine slc_ex i 5 hlt (by decide) (by rw [hEi]; rfl) (by first | omega | (simp; done)) ?_
      conv => whnf
      refine slc_ex i 6 hlt (by decide) (by rw [hEi]; rfl) (by first | omega | (simp; done)) ?_
      conv => whnf
      refine slc_ex i 7 hlt (by decide) (by rw [hEi]; rfl) (by first | omega | (simp; done)) ?_
      conv => whnf
      refine slc_ex i 8 hlt (by decide) (by rw [hEi]; rfl) (by first | omega | (simp; done)) ?_
      conv => whnf
      refine slc_ex i 9 hlt (by decide) (by rw [hEi]; rfl) (by first | omega | (simp; done)) ?_
      conv => whnf
      refine slc_ex i 10 hlt (by decide) (by rw [hEi]; rfl) (by first | omega | (simp; done)) ?_
      conv => whnf
      refine ACalls.code tabOk h41 Try.func41 Try.call41 ok41 ?_
      conv => whnf
      rw [hK]
      conv => whnf
      refine ALoop.fd (σ := Nat) (fun j => [.pointer (some ⟨1, 0, none⟩), .chan none, .chan none, .chan none, .pointer (some ⟨6, 0, none⟩), .pointer (some ⟨7, 0, none⟩), .pointer (some ⟨8, 0, none⟩), .bool false, .chan none, .int .i64 j, .chan none, .chan none, .chan none, .chan none, .chan none, .chan none, .chan none, .chan none, .chan none, .chan none, .chan none, .chan none, .chan none, .chan none, .chan none, .chan none, .chan none, .chan none, .chan none, .chan none, .chan none, .chan none, .chan none, .chan none, .chan none, .chan none, .chan none, .chan none, .chan none, .chan none, .chan none, .chan none, .chan none, .chan none, .chan none, .chan none, .chan none, .chan none, .chan none, .chan none, .chan none, .chan none, .chan none, .chan none, .chan none, .chan none, .chan none, .chan none, .chan none, .chan none, .chan none, .chan none, .chan none, .chan none, .chan none, .chan none, .chan none, .chan none, .chan none, .chan none, .chan none, .chan none, .chan none, .chan none, .chan none, .chan none, .chan none, .chan none, .chan none, .chan none, .chan none, .chan none, .chan none, .chan none, .chan none, .chan none]) (fun j => [.ro (slc off 11 len E), .cells [.int .u8 c, .int .u8 r, .int .u8 w, .pointer (some ⟨2, 0, none⟩), .pointer (some ⟨3, 0, none⟩), .pointer (some ⟨4, 0, none⟩), .int .i64 (tsK c r j a b d k h), .bool (tsH c r j a b d k h)] 87, .cells [.int .u8 (tsA c r j a b d k h), .int .i64 4, .int .i64 1] 76, .cells [.int .u8 (tsB c r j a b d k h), .int .i64 5, .int .i64 2] 76, .cells [.int .u16 (tsD c r j a b d k h), .int .i64 9, .int .i64 4] 81, .cells [.int .i64 c, .int .i64 r, .int .i64 w, .int .i64 a, .int .i64 b, .int .i64 d, .int .i64 k, .bool h] 68, .cells [.int .i64 c, .int .i64 r, .int .i64 w, .int .i64 (tsA c r j a b d k h), .int .i64 (tsB c r j a b d k h), .int .i64 (tsD c r j a b d k h), .int .i64 (tsK c r j a b d k h), .bool (tsH c r j a b d k h)] 68, .cells [.int .i64 kd, .int .u16 ln, .int .u8 n, .int .i64 w0, .int .i64 w1, .int .i64 w2, .int .i64 w3, .int .i64 w4, .int .i64 w5, .int .i64 w6, .int .i64 w7] 64, .cells [.int .i64 0, .int .i64 0, .int .i64 0, .int .i64 0, .int .i64 0, .int .i64 0, .int .i64 0, .bool false] 68]) (fun j => j ≤ (ln % 700).toNat) (fun j => (ln % 700).toNat - j) 0 [] rfl (by rw [tsA_zero, tsB_zero, tsD_zero, tsK_zero, tsH_zero]; rfl) (Nat.zero_le _) (fun _ => ⟨rfl, rfl, rfl, rfl⟩) ?_
      intro j hj R' hR'
      have ej : IntKind.i64.wrap ((j : Int) + 1) = ((j + 1 : Nat) : Int) := by rw [wrap64 (by omega) (by omega)]; rfl
      have hT := ts_ok (c := c) hr j h ha hb hd hk
      conv => whnf
      rw [hN]
      refine Bif.of (fun hc2 => ?_) fun hc2 => ?_
      · have hlt2 : (j : Int) < ln % 700 := by simpa using hc2
        have hll := lev_le (c := c) (tsH c r (j + 1) a b d k h) (w := w) hw
        have ew : IntKind.i64.wrap (levG c w (tsH c r (j + 1) a b d k h)) = levG c w (tsH c r (j + 1) a b d k h) := wrap64 (by omega) (by omega)
        clear hR
        conv => whnf
        refine ACalls.useE (tone_tickU _ _ _ _ _ _ _ _ ?_ ?_ ?_) [1, 2, 3, 4] rfl (by (conv => whnf); try rfl) (by (conv => whnf); try rfl) ?_
        · omega
        · omega
        · omega
        conv => whnf
        refine ACalls.useE (ref19_tick _ _ _ _ _ _ _ _ ?_ ?_ ?_ ?_ ?_ ?_) [] rfl (by (conv => whnf); try rfl) (by (conv => whnf); try rfl) ?_
        · omega
        · omega
        · omega
        · omega
        · omega
        · omega
        conv => whnf
        refine ACalls.useE (tone_levelU _ _ _ _ _ _ _ _) [1, 2, 3, 4] rfl (by (conv => whnf); try rfl) (by (conv => whnf); try rfl) ?_
        conv => whnf
        rw [tsA_succ, tsB_succ, tsD_succ, tsK_succ, tsH_succ]
        conv => whnf
        refine ⟨rfl, ?_⟩
        conv => whnf
        refine ACalls.useE (ref19_level _ _ _ _ _ _ _ _) [] rfl (by (conv => whnf); try rfl) (by (conv => whnf); try rfl) ?_
        conv => whnf
        rw [ew]
        conv => whnf
        refine Bif.knF ?_ fun h0 => ?_
        · (simp; done)
        conv => whnf
        (rw [ej]; exact hR' (j + 1) _ _ _ rfl rfl (by omega) (by omega))
      · have hjj : (j : Int) = ln % 700 := by have : ¬ (j : Int) < ln % 700 := by simpa using hc2
                                              omega
        have hll := lev_le (c := c) (tsH c r j a b d k h) (w := w) hw
        have ew : IntKind.i64.wrap (levG c w (tsH c r j a b d k h)) = levG c w (tsH c r j a b d k h) := wrap64 (by omega) (by omega)
        clear hR'
        conv => whnf
        refine ⟨rfl, ?_⟩
        conv => whnf
        refine ACalls.useE (tone_wordsU _ _ _ _ _ _ _ _ ?_ ?_ ?_ ?_ ?_ ?_ ?_) [1, 2, 3, 4] rfl (by (conv => whnf); try rfl) (by (conv => whnf); try rfl) ?_
        · omega
        · omega
        · omega
        · omega
        · omega
        · omega
        · omega
        conv => whnf
        refine ⟨rfl, ?_⟩
        conv => whnf
        refine ACalls.useE (ref19_words _ _ _ _ _ _ _ _) [] rfl (by (conv => whnf); try rfl) (by (conv => whnf); try rfl) ?_
        conv => whnf
        refine Bif.knF ?_ fun h0 => ?_
        · (simp; done)
        conv => whnf
        refine Bif.knF ?_ fun h1 => ?_
        · with_reducible assumption
        conv => whnf
        refine Bif.knF ?_ fun h2 => ?_
        · with_reducible assumption
        conv => whnf
        refine ACalls.useE (tone_levelU _ _ _ _ _ _ _ _) [1, 2, 3, 4] rfl (by (conv => whnf); try rfl) (by (conv => whnf); try rfl) ?_
        conv => whnf
        refine ⟨rfl, ?_⟩
        conv => whnf
        refine Bif.knF ?_ fun h3 => ?_
        · with_reducible assumption
        conv => whnf
        rw [ew]
        conv => whnf
        refine Bif.knF ?_ fun h4 => ?_
        · with_reducible assumption
        conv => whnf
        refine ACalls.useE (ref19_level _ _ _ _ _ _ _ _) [] rfl (by (conv => whnf); try rfl) (by (conv => whnf); try rfl) ?_
        conv => whnf
        refine Bif.knF ?_ fun h5 => ?_
        · with_reducible assumption
        conv => whnf
        refine Bif.knF ?_ fun h6 => ?_
        · with_reducible assumption
        conv => whnf
        refine Bif.knF ?_ fun h7 => ?_
        · (simp; done)
        conv => whnf
        (rw [e2]; exact hR (i + 1, ⟨c, r, w, (tsA c r j a b d k h), (tsB c r j a b d k h), (tsD c r j a b d k h), (tsK c r j a b d k h), (tsH c r j a b d k h)⟩) _ _ _ rfl rfl ⟨hlt, ⟨hc, hr, hw, hT.1, hT.2.1, hT.2.2.1, hT.2.2.2⟩⟩ (by show len - (i + 1) < len - i; omega))
    · have hll := lev_le (c := (n % 16)) h (w := w) hw
      have ew : IntKind.i64.wrap (levG (n % 16) w h) = levG (n % 16) w h := wrap64 (by omega) (by omega)
      generalize hg : levG (n % 16) w h = g at hll ew
      conv => whnf
      refine Req.of ?_ ?_
      · (clear hR; simp; omega)
      conv => whnf
      refine slc_ex i 0 hlt (by decide) (by rw [hEi]; rfl) (by first | omega | (simp; done)) ?_
      conv => whnf
      refine slc_ex i 1 hlt (by decide) (by rw [hEi]; rfl) (by first | omega | (simp; done)) ?_
      conv => whnf
      refine slc_ex i 2 hlt (by decide) (by rw [hEi]; rfl) (by first | omega | (simp; done)) ?_
      conv => whnf
      refine slc_ex i 3 hlt (by decide) (by rw [hEi]; rfl) (by first | omega | (simp; done)) ?_
      conv => whnf
      refine slc_ex i 4 hlt (by decide) (by rw [hEi]; rfl) (by first | omega | (simp; done)) ?_
      conv => whnf
      refine slc_ex i 5 hlt (by decide) (by rw [hEi]; rfl) (by first | omega | (simp; done)) ?_
      conv => whnf
      refine slc_ex i 6 hlt (by decide) (by rw [hEi]; rfl) (by first | omega | (simp; done)) ?_
      conv => whnf
      refine slc_ex i 7 hlt (by decide) (by rw [hEi]; rfl) (by first | omega | (simp; done)) ?_
      conv => whnf
      refine slc_ex i 8 hlt (by decide) (by rw [hEi]; rfl) (by first | omega | (simp; done)) ?_
      conv => whnf
      refine slc_ex i 9 hlt (by decide) (by rw [hEi]; rfl) (by first | omega | (simp; done)) ?_
      conv => whnf
      refine slc_ex i 10 hlt (by decide) (by rw [hEi]; rfl) (by first | omega | (simp; done)) ?_
      conv => whnf
      refine ACalls.code tabOk h41 Try.func41 Try.call41 ok41 ?_
      conv => whnf
      rw [hK]
      conv => whnf
      refine ACalls.useE (tone_control _ _ _ _ _ _ _ _ _) [1, 2, 3, 4] rfl (by (conv => whnf); try rfl) (by (conv => whnf); try rfl) ?_
      conv => whnf
      rw [n16]
      conv => whnf
      refine ⟨rfl, ?_⟩
      conv => whnf
      refine ACalls.useE (tone_wordsU _ _ _ _ _ _ _ _ ?_ ?_ ?_ ?_ ?_ ?_ ?_) [1, 2, 3, 4] rfl (by (conv => whnf); try rfl) (by (conv => whnf); try rfl) ?_
      · omega
      · omega
      · omega
      · omega
      · omega
      · omega
      · omega
      conv => whnf
      refine ⟨rfl, ?_⟩
      conv => whnf
      refine ACalls.useE (ref19_words _ _ _ _ _ _ _ _) [] rfl (by (conv => whnf); try rfl) (by (conv => whnf); try rfl) ?_
      conv => whnf
      refine Bif.knF ?_ fun h0 => ?_
      · (simp; done)
      conv => whnf
      refine Bif.knF ?_ fun h1 => ?_
      · with_reducible assumption
      conv => whnf
      refine Bif.knF ?_ fun h2 => ?_
      · with_reducible assumption
      conv => whnf
      refine ACalls.useE (tone_levelU _ _ _ _ _ _ _ _) [1, 2, 3, 4] rfl (by (conv => whnf); try rfl) (by (conv => whnf); try rfl) ?_
      conv => whnf
      rw [hg]
      conv => whnf
      refine ⟨rfl, ?_⟩
      conv => whnf
      refine Bif.knF ?_ fun h3 => ?_
      · with_reducible assumption
      conv => whnf
      rw [ew]
      conv => whnf
      refine Bif.knF ?_ fun h4 => ?_
      · with_reducible assumption
      conv => whnf
      refine ACalls.useE (ref19_level _ _ _ _ _ _ _ _) [] rfl (by (conv => whnf); try rfl) (by (conv => whnf); try rfl) ?_
      conv => whnf
      rw [hg]
      conv => whnf
      refine Bif.knF ?_ fun h5 => ?_
      · with_reducible assumption
      conv => whnf
      refine Bif.knF ?_ fun h6 => ?_
      · with_reducible assumption
      conv => whnf
      refine Bif.knF ?_ fun h7 => ?_
      · (simp; done)
      conv => whnf
      (rw [e2]; exact hR (i + 1, ⟨n % 16, r, w, a, b, d, k, h⟩) _ _ _ rfl rfl ⟨hlt, ⟨by dsimp only; omega, hr, hw, ha, hb, hd, hk⟩⟩ (by show len - (i + 1) < len - i; omega))
    · have hll := lev_le (c := c) h (w := w) hw
      have ew : IntKind.i64.wrap (levG c w h) = levG c w h := wrap64 (by omega) (by omega)
      generalize hg : levG c w h = g at hll ew
      conv => whnf
      refine Req.of ?_ ?_
      · (clear hR; simp; omega)
      conv => whnf
      refine slc_ex i 0 hlt (by decide) (by rw [hEi]; rfl) (by first | omega | (simp; done)) ?_
      conv => whnf
      refine slc_ex i 1 hlt (by decide) (by rw [hEi]; rfl) (by first | omega | (simp; done)) ?_
      conv => whnf
      refine slc_ex i 2 hlt (by decide) (by rw [hEi]; rfl) (by first | omega | (simp; done)) ?_
      conv => whnf
      refine slc_ex i 3 hlt (by decide) (by rw [hEi]; rfl) (by first | omega | (simp; done)) ?_
      conv => whnf
      refine slc_ex i 4 hlt (by decide) (by rw [hEi]; rfl) (by first | omega | (simp; done)) ?_
      conv => whnf
      refine slc_ex i 5 hlt (by decide) (by rw [hEi]; rfl) (by first | omega | (simp; done)) ?_
      conv => whnf
      refine slc_ex i 6 hlt (by decide) (by rw [hEi]; rfl) (by first | omega | (simp; done)) ?_
      conv => whnf
      refine slc_ex i 7 hlt (by decide) (by rw [hEi]; rfl) (by first | omega | (simp; done)) ?_
      conv => whnf
      refine slc_ex i 8 hlt (by decide) (by rw [hEi]; rfl) (by first | omega | (simp; done)) ?_
      conv => whnf
      refine slc_ex i 9 hlt (by decide) (by rw [hEi]; rfl) (by first | omega | (simp; done)) ?_
      conv => whnf
      refine slc_ex i 10 hlt (by decide) (by rw [hEi]; rfl) (by first | omega | (simp; done)) ?_
      conv => whnf
      refine ACalls.code tabOk h41 Try.func41 Try.call41 ok41 ?_
      conv => whnf
      rw [hK]
      conv => whnf
      refine ACalls.useE (tone_rate _ _ _ _ _ _ _ _ _) [1, 2, 3, 4] rfl (by (conv => whnf); try rfl) (by (conv => whnf); try rfl) ?_
      conv => whnf
      rw [n32]
      conv => whnf
      refine ⟨rfl, ?_⟩
      conv => whnf
      refine ACalls.useE (tone_wordsU _ _ _ _ _ _ _ _ ?_ ?_ ?_ ?_ ?_ ?_ ?_) [1, 2, 3, 4] rfl (by (conv => whnf); try rfl) (by (conv => whnf); try rfl) ?_
      · omega
      · omega
      · omega
      · omega
      · omega
      · omega
      · omega
      conv => whnf
      refine ⟨rfl, ?_⟩
      conv => whnf
      refine ACalls.useE (ref19_words _ _ _ _ _ _ _ _) [] rfl (by (conv => whnf); try rfl) (by (conv => whnf); try rfl) ?_
      conv => whnf
      refine Bif.knF ?_ fun h0 => ?_
      · (simp; done)
      conv => whnf
      refine Bif.knF ?_ fun h1 => ?_
      · with_reducible assumption
      conv => whnf
      refine Bif.knF ?_ fun h2 => ?_
      · with_reducible assumption
      conv => whnf
      refine ACalls.useE (tone_levelU _ _ _ _ _ _ _ _) [1, 2, 3, 4] rfl (by (conv => whnf); try rfl) (by (conv => whnf); try rfl) ?_
      conv => whnf
      rw [hg]
      conv => whnf
      refine ⟨rfl, ?_⟩
      conv => whnf
      refine Bif.knF ?_ fun h3 => ?_
      · with_reducible assumption
      conv => whnf
      rw [ew]
      conv => whnf
      refine Bif.knF ?_ fun h4 => ?_
      · with_reducible assumption
      conv => whnf
      refine ACalls.useE (ref19_level _ _ _ _ _ _ _ _) [] rfl (by (conv => whnf); try rfl) (by (conv => whnf); try rfl) ?_
      conv => whnf
      rw [hg]
      conv => whnf
      refine Bif.knF ?_ fun h5 => ?_
      · with_reducible assumption
      conv => whnf
      refine Bif.knF ?_ fun h6 => ?_
      · with_reducible assumption
      conv => whnf
      refine Bif.knF ?_ fun h7 => ?_
      · (simp; done)
      conv => whnf
      (rw [e2]; exact hR (i + 1, ⟨c, n % 32, w, a, b, d, k, h⟩) _ _ _ rfl rfl ⟨hlt, ⟨hc, by dsimp only; omega, hw, ha, hb, hd, hk⟩⟩ (by show len - (i + 1) < len - i; omega))
    · have hll := lev_le (c := c) h (w := (n % 16)) (by omega)
      have ew : IntKind.i64.wrap (levG c (n % 16) h) = levG c (n % 16) h := wrap64 (by omega) (by omega)
      generalize hg : levG c (n % 16) h = g at hll ew
      conv => whnf
      refine Req.of ?_ ?_
      · (clear hR; simp; omega)
      conv => whnf
      refine slc_ex i 0 hlt (by decide) (by rw [hEi]; rfl) (by first | omega | (simp; done)) ?_
      conv => whnf
      refine slc_ex i 1 hlt (by decide) (by rw [hEi]; rfl) (by first | omega | (simp; done)) ?_
      conv => whnf
      refine slc_ex i 2 hlt (by decide) (by rw [hEi]; rfl) (by first | omega | (simp; done)) ?_
      conv => whnf
      refine slc_ex i 3 hlt (by decide) (by rw [hEi]; rfl) (by first | omega | (simp; done)) ?_
      conv => whnf
      refine slc_ex i 4 hlt (by decide) (by rw [hEi]; rfl) (by first | omega | (simp; done)) ?_
      conv => whnf
      refine slc_ex i 5 hlt (by decide) (by rw [hEi]; rfl) (by first | omega | (simp; done)) ?_
      conv => whnf
      refine slc_ex i 6 hlt (by decide) (by rw [hEi]; rfl) (by first | omega | (simp; done)) ?_
      conv => whnf
      refine slc_ex i 7 hlt (by decide) (by rw [hEi]; rfl) (by first | omega | (simp; done)) ?_
      conv => whnf
      refine slc_ex i 8 hlt (by decide) (by rw [hEi]; rfl) (by first | omega | (simp; done)) ?_
      conv => whnf
      refine slc_ex i 9 hlt (by decide) (by rw [hEi]; rfl) (by first | omega | (simp; done)) ?_
      conv => whnf
      refine slc_ex i 10 hlt (by decide) (by rw [hEi]; rfl) (by first | omega | (simp; done)) ?_
      conv => whnf
      refine ACalls.code tabOk h41 Try.func41 Try.call41 ok41 ?_
      conv => whnf
      rw [hK]
      conv => whnf
      refine ACalls.useE (tone_volume _ _ _ _ _ _ _ _ _) [1, 2, 3, 4] rfl (by (conv => whnf); try rfl) (by (conv => whnf); try rfl) ?_
      conv => whnf
      rw [n16]
      conv => whnf
      refine ⟨rfl, ?_⟩
      conv => whnf
      refine ACalls.useE (tone_wordsU _ _ _ _ _ _ _ _ ?_ ?_ ?_ ?_ ?_ ?_ ?_) [1, 2, 3, 4] rfl (by (conv => whnf); try rfl) (by (conv => whnf); try rfl) ?_
      · omega
      · omega
      · omega
      · omega
      · omega
      · omega
      · omega
      conv => whnf
      refine ⟨rfl, ?_⟩
      conv => whnf
      refine ACalls.useE (ref19_words _ _ _ _ _ _ _ _) [] rfl (by (conv => whnf); try rfl) (by (conv => whnf); try rfl) ?_
      conv => whnf
      refine Bif.knF ?_ fun h0 => ?_
      · (simp; done)
      conv => whnf
      refine Bif.knF ?_ fun h1 => ?_
      · with_reducible assumption
      conv => whnf
      refine Bif.knF ?_ fun h2 => ?_
      · with_reducible assumption
      conv => whnf
      refine ACalls.useE (tone_levelU _ _ _ _ _ _ _ _) [1, 2, 3, 4] rfl (by (conv => whnf); try rfl) (by (conv => whnf); try rfl) ?_
      conv => whnf
      rw [hg]
      conv => whnf
      refine ⟨rfl, ?_⟩
      conv => whnf
      refine Bif.knF ?_ fun h3 => ?_
      · with_reducible assumption
      conv => whnf
      rw [ew]
      conv => whnf
      refine Bif.knF ?_ fun h4 => ?_
      · with_reducible assumption
      conv => whnf
      refine ACalls.useE (ref19_level _ _ _ _ _ _ _ _) [] rfl (by (conv => whnf); try rfl) (by (conv => whnf); try rfl) ?_
      conv => whnf
      rw [hg]
      conv => whnf
      refine Bif.knF ?_ fun h5 => ?_
      · with_reducible assumption
      conv => whnf
      refine Bif.knF ?_ fun h6 => ?_
      · with_reducible assumption
      conv => whnf
      refine Bif.knF ?_ fun h7 => ?_
      · (simp; done)
      conv => whnf
      (rw [e2]; exact hR (i + 1, ⟨c, r, n % 16, a, b, d, k, h⟩) _ _ _ rfl rfl ⟨hlt, ⟨hc, hr, by dsimp only; omega, ha, hb, hd, hk⟩⟩ (by show len - (i + 1) < len - i; omega))
    · cases ho : okW w0 w1 w2 w3 w4 w5 w6 w7 with
      | true =>
        have hq := (okW_iff ..).1 ho
        obtain ⟨q0, q1, q2, q3, q4, q5, q6, q7⟩ := hq
        have hll := lev_le (c := w0) (w7 == 1) (w := w2) q2
        have ew : IntKind.i64.wrap (levG w0 w2 (w7 == 1)) = levG w0 w2 (w7 == 1) := wrap64 (by omega) (by omega)
        generalize hg : levG w0 w2 (w7 == 1) = g at hll ew
        conv => whnf
        refine Req.of ?_ ?_
        · (clear hR; simp; omega)
        conv => whnf
        refine slc_ex i 0 hlt (by decide) (by rw [hEi]; rfl) (by first | omega | (simp; done)) ?_
        conv => whnf
        refine slc_ex i 1 hlt (by decide) (by rw [hEi]; rfl) (by first | omega | (simp; done)) ?_
        conv => whnf
        refine slc_ex i 2 hlt (by decide) (by rw [hEi]; rfl) (by first | omega | (simp; done)) ?_
        conv => whnf
        refine slc_ex i 3 hlt (by decide) (by rw [hEi]; rfl) (by first | omega | (simp; done)) ?_
        conv => whnf
        refine slc_ex i 4 hlt (by decide) (by rw [hEi]; rfl) (by first | omega | (simp; done)) ?_
        conv => whnf
        refine slc_ex i 5 hlt (by decide) (by rw [hEi]; rfl) (by first | omega | (simp; done)) ?_
        conv => whnf
        refine slc_ex i 6 hlt (by decide) (by rw [hEi]; rfl) (by first | omega | (simp; done)) ?_
        conv => whnf
        refine slc_ex i 7 hlt (by decide) (by rw [hEi]; rfl) (by first | omega | (simp; done)) ?_
        conv => whnf
        refine slc_ex i 8 hlt (by decide) (by rw [hEi]; rfl) (by first | omega | (simp; done)) ?_
        conv => whnf
        refine slc_ex i 9 hlt (by decide) (by rw [hEi]; rfl) (by first | omega | (simp; done)) ?_
        conv => whnf
        refine slc_ex i 10 hlt (by decide) (by rw [hEi]; rfl) (by first | omega | (simp; done)) ?_
        conv => whnf
        refine ACalls.code tabOk h41 Try.func41 Try.call41 ok41 ?_
        conv => whnf
        rw [hK]
        conv => whnf
        refine ACalls.useE (tone_setU _ _ _ _ _ _ _ _ _ _ _ _ _ _ _ _) [1, 2, 3, 4] rfl (by (conv => whnf); try rfl) (by (conv => whnf); try rfl) ?_
        conv => whnf
        rw [ho]
        conv => whnf
        refine ACalls.useE (ref19_right _ _ _ _ _ _ _ _) [] rfl (by (conv => whnf); try rfl) (by (conv => whnf); try rfl) ?_
        conv => whnf
        rw [ho]
        conv => whnf
        refine ACalls.useE (ref19_of _ _ _ _ _ _ _ _) [] rfl (by (conv => whnf); try rfl) (by (conv => whnf); try rfl) ?_
        conv => whnf
        refine ⟨rfl, ?_⟩
        conv => whnf
        refine ACalls.useE (tone_wordsU _ _ _ _ _ _ _ _ ?_ ?_ ?_ ?_ ?_ ?_ ?_) [1, 2, 3, 4] rfl (by (conv => whnf); try rfl) (by (conv => whnf); try rfl) ?_
        · omega
        · omega
        · omega
        · omega
        · omega
        · omega
        · omega
        conv => whnf
        refine ⟨rfl, ?_⟩
        conv => whnf
        refine ACalls.useE (ref19_words _ _ _ _ _ _ _ _) [] rfl (by (conv => whnf); try rfl) (by (conv => whnf); try rfl) ?_
        conv => whnf
        refine Bif.knF ?_ fun h0 => ?_
        · (simp; done)
        conv => whnf
        refine Bif.knF ?_ fun h1 => ?_
        · with_reducible assumption
        conv => whnf
        refine Bif.knF ?_ fun h2 => ?_
        · with_reducible assumption
        conv => whnf
        refine ACalls.useE (tone_levelU _ _ _ _ _ _ _ _) [1, 2, 3, 4] rfl (by (conv => whnf); try rfl) (by (conv => whnf); try rfl) ?_
        conv => whnf
        rw [hg]
        conv => whnf
        refine ⟨rfl, ?_⟩
        conv => whnf
        refine Bif.knF ?_ fun h3 => ?_
        · with_reducible assumption
        conv => whnf
        rw [ew]
        conv => whnf
        refine Bif.knF ?_ fun h4 => ?_
        · with_reducible assumption
        conv => whnf
        refine ACalls.useE (ref19_level _ _ _ _ _ _ _ _) [] rfl (by (conv => whnf); try rfl) (by (conv => whnf); try rfl) ?_
        conv => whnf
        rw [hg]
        conv => whnf
        refine Bif.knF ?_ fun h5 => ?_
        · with_reducible assumption
        conv => whnf
        refine Bif.knF ?_ fun h6 => ?_
        · with_reducible assumption
        conv => whnf
        refine Bif.knF ?_ fun h7 => ?_
        · (simp; done)
        conv => whnf
        (rw [e2]; exact hR (i + 1, ⟨w0, w1, w2, w3, w4, w5, w6, w7 == 1⟩) _ _ _ rfl rfl ⟨hlt, ⟨q0, q1, q2, q3, q4, q5, q6⟩⟩ (by show len - (i + 1) < len - i; omega))
      | false =>
        have hll := lev_le (c := c) h (w := w) hw
        have ew : IntKind.i64.wrap (levG c w h) = levG c w h := wrap64 (by omega) (by omega)
        generalize hg : levG c w h = g at hll ew
        conv => whnf
        refine Req.of ?_ ?_
        · (clear hR; simp; omega)
        conv => whnf
        refine slc_ex i 0 hlt (by decide) (by rw [hEi]; rfl) (by first | omega | (simp; done)) ?_
        conv => whnf
        refine slc_ex i 1 hlt (by decide) (by rw [hEi]; rfl) (by first | omega | (simp; done)) ?_
        conv => whnf
        refine slc_ex i 2 hlt (by decide) (by rw [hEi]; rfl) (by first | omega | (simp; done)) ?_
        conv => whnf
        refine slc_ex i 3 hlt (by decide) (by rw [hEi]; rfl) (by first | omega | (simp; done)) ?_
        conv => whnf
        refine slc_ex i 4 hlt (by decide) (by rw [hEi]; rfl) (by first | omega | (simp; done)) ?_
        conv => whnf
        refine slc_ex i 5 hlt (by decide) (by rw [hEi]; rfl) (by first | omega | (simp; done)) ?_
        conv => whnf
        refine slc_ex i 6 hlt (by decide) (by rw [hEi]; rfl) (by first | omega | (simp; done)) ?_
        conv => whnf
        refine slc_ex i 7 hlt (by decide) (by rw [hEi]; rfl) (by first | omega | (simp; done)) ?_
        conv => whnf
        refine slc_ex i 8 hlt (by decide) (by rw [hEi]; rfl) (by first | omega | (simp; done)) ?_
        conv => whnf
        refine slc_ex i 9 hlt (by decide) (by rw [hEi]; rfl) (by first | omega | (simp; done)) ?_
        conv => whnf
        refine slc_ex i 10 hlt (by decide) (by rw [hEi]; rfl) (by first | omega | (simp; done)) ?_
        conv => whnf
        refine ACalls.code tabOk h41 Try.func41 Try.call41 ok41 ?_
        conv => whnf
        rw [hK]
        conv => whnf
        refine ACalls.useE (tone_setU _ _ _ _ _ _ _ _ _ _ _ _ _ _ _ _) [1, 2, 3, 4] rfl (by (conv => whnf); try rfl) (by (conv => whnf); try rfl) ?_
        conv => whnf
        rw [ho]
        conv => whnf
        refine ACalls.useE (ref19_right _ _ _ _ _ _ _ _) [] rfl (by (conv => whnf); try rfl) (by (conv => whnf); try rfl) ?_
        conv => whnf
        rw [ho]
        conv => whnf
        refine ⟨rfl, ?_⟩
        conv => whnf
        refine ACalls.useE (tone_wordsU _ _ _ _ _ _ _ _ ?_ ?_ ?_ ?_ ?_ ?_ ?_) [1, 2, 3, 4] rfl (by (conv => whnf); try rfl) (by (conv => whnf); try rfl) ?_
        · omega
        · omega
        · omega
        · omega
        · omega
        · omega
        · omega
        conv => whnf
        refine ⟨rfl, ?_⟩
        conv => whnf
        refine ACalls.useE (ref19_words _ _ _ _ _ _ _ _) [] rfl (by (conv => whnf); try rfl) (by (conv => whnf); try rfl) ?_
        conv => whnf
        refine Bif.knF ?_ fun h0 => ?_
        · (simp; done)
        conv => whnf
        refine Bif.knF ?_ fun h1 => ?_
        · with_reducible assumption
        conv => whnf
        refine Bif.knF ?_ fun h2 => ?_
        · with_reducible assumption
        conv => whnf
        refine ACalls.useE (tone_levelU _ _ _ _ _ _ _ _) [1, 2, 3, 4] rfl (by (conv => whnf); try rfl) (by (conv => whnf); try rfl) ?_
        conv => whnf
        rw [hg]
        conv => whnf
        refine ⟨rfl, ?_⟩
        conv => whnf
        refine Bif.knF ?_ fun h3 => ?_
        · with_reducible assumption
        conv => whnf
        rw [ew]
        conv => whnf
        refine Bif.knF ?_ fun h4 => ?_
        · with_reducible assumption
        conv => whnf
        refine ACalls.useE (ref19_level _ _ _ _ _ _ _ _) [] rfl (by (conv => whnf); try rfl) (by (conv => whnf); try rfl) ?_
        conv => whnf
        rw [hg]
        conv => whnf
        refine Bif.knF ?_ fun h5 => ?_
        · with_reducible assumption
        conv => whnf
        refine Bif.knF ?_ fun h6 => ?_
        · with_reducible assumption
        conv => whnf
        refine Bif.knF ?_ fun h7 => ?_
        · (simp; done)
        conv => whnf
        (rw [e2]; exact hR (i + 1, ⟨c, r, w, a, b, d, k, h⟩) _ _ _ rfl rfl ⟨hlt, ⟨hc, hr, hw, ha, hb, hd, hk⟩⟩ (by show len - (i + 1) < len - i; omega))
  · clear hR
    conv => whnf
    refine ACalls.useE (awake19) [] rfl (by (conv => whnf); try rfl) (by (conv => whnf); try rfl) ?_
    conv => whnf
    refine ⟨rfl, ?_⟩
    conv => whnf
theorem walk_TonePlays_nil : ACalls Try.prog 11 [.slice none 0 0] [] fun v _ => v = .bool true := by
  refine ACalls.code tabOk h11 Try.func11 Try.call11 ok11 ?_
  conv => whnf
  refine ACalls.useE (tone_new) [] rfl (by (conv => whnf); try rfl) (by (conv => whnf); try rfl) ?_
  conv => whnf
  refine ALoop.run 1 ?_
  conv => whnf
  refine ACalls.useE (awake19) [] rfl (by (conv => whnf); try rfl) (by (conv => whnf); try rfl) ?_
  conv => whnf
end Go.Proofs
