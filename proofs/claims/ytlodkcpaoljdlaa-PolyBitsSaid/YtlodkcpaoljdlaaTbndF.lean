/-
  Walks through the functions of the program, by contract.
-/
import Derived.Test.YtlodkcpaoljdlaaTonesF
set_option linter.all false
set_option linter.unusedVariables false
set_option linter.unusedSimpArgs false
set_option linter.unnecessarySimpa false
namespace Go.Proofs
open Go.Aw
set_option maxRecDepth 100000
set_option maxHeartbeats 8000000
abbrev taKs : List CK := [.int .i64, .int .u16, .int .u8, .int .i64, .int .i64, .int .i64, .int .i64, .int .i64, .int .i64, .int .i64, .int .i64]
theorem ta_cells {cs : List Value} (h : FitsAll taKs cs) : ∃ kd ln n w0 w1 w2 w3 w4 w5 w6 w7 : Int, cs = [.int .i64 kd, .int .u16 ln, .int .u8 n, .int .i64 w0, .int .i64 w1, .int .i64 w2, .int .i64 w3, .int .i64 w4, .int .i64 w5, .int .i64 w6, .int .i64 w7] ∧ (0 ≤ n ∧ n ≤ 255) ∧ (0 ≤ ln ∧ ln ≤ 65535) := by
  obtain ⟨k, _, rfl, _, h⟩ := fits_int h
  obtain ⟨ln, _, rfl, b2, h⟩ := fits_int h
  obtain ⟨n, _, rfl, b1, h⟩ := fits_int h
  obtain ⟨w0, _, rfl, _, g1⟩ := fits_int h
  obtain ⟨w1, _, rfl, _, g2⟩ := fits_int g1
  obtain ⟨w2, _, rfl, _, g3⟩ := fits_int g2
  obtain ⟨w3, _, rfl, _, g4⟩ := fits_int g3
  obtain ⟨w4, _, rfl, _, g5⟩ := fits_int g4
  obtain ⟨w5, _, rfl, _, g6⟩ := fits_int g5
  obtain ⟨w6, _, rfl, _, g7⟩ := fits_int g6
  obtain ⟨w7, _, rfl, _, g8⟩ := fits_int g7
  obtain rfl := fits_nil g8
  exact ⟨k, ln, n, w0, w1, w2, w3, w4, w5, w6, w7, rfl, wf_u8 b1, wf_u16 b2⟩
/-- A voice's words and state. -/
structure VW where
  c : Int
  r : Int
  w : Int
  a : Int
  b : Int
  d : Int
  k : Int
  h : Bool
structure VW.Ok (s : VW) : Prop where
  c : 0 ≤ s.c ∧ s.c ≤ 15
  r : 0 ≤ s.r ∧ s.r ≤ 31
  w : 0 ≤ s.w ∧ s.w ≤ 15
  a : 0 ≤ s.a ∧ s.a ≤ 15
  b : 0 ≤ s.b ∧ s.b ≤ 31
  d : 0 ≤ s.d ∧ s.d ≤ 511
  k : 0 ≤ s.k ∧ s.k ≤ 95
theorem lev_or (c w : Int) (h : Bool) : levG c w h = 0 ∨ levG c w h = w := by
  unfold levG; split <;> simp
theorem lev_le {c w : Int} (h : Bool) (hw : 0 ≤ w ∧ w ≤ 15) : 0 ≤ levG c w h ∧ levG c w h ≤ 15 := by
  rcases lev_or c w h with e | e <;> omega
theorem tone_setU (c r w a b d k : Int) (h : Bool) (w0 w1 w2 w3 w4 w5 w6 w7 : Int) : ACalls Try.prog 40 [.pointer (some ⟨0, 0, none⟩), .agg #[.int .i64 w0, .int .i64 w1, .int .i64 w2, .int .i64 w3, .int .i64 w4, .int .i64 w5, .int .i64 w6, .int .i64 w7]] [.cells [.int .u8 c, .int .u8 r, .int .u8 w, .pointer (some ⟨1, 0, none⟩), .pointer (some ⟨2, 0, none⟩), .pointer (some ⟨3, 0, none⟩), .int .i64 k, .bool h] 87, .cells [.int .u8 a, .int .i64 4, .int .i64 1] 76, .cells [.int .u8 b, .int .i64 5, .int .i64 2] 76, .cells [.int .u16 d, .int .i64 9, .int .i64 4] 81] fun v H => v = .int .i64 (bif okW w0 w1 w2 w3 w4 w5 w6 w7 then 0 else 6) ∧ H = (bif okW w0 w1 w2 w3 w4 w5 w6 w7 then [.cells [.int .u8 w0, .int .u8 w1, .int .u8 w2, .pointer (some ⟨1, 0, none⟩), .pointer (some ⟨2, 0, none⟩), .pointer (some ⟨3, 0, none⟩), .int .i64 w6, .bool (w7 == 1)] 87, .cells [.int .u8 w3, .int .i64 4, .int .i64 1] 76, .cells [.int .u8 w4, .int .i64 5, .int .i64 2] 76, .cells [.int .u16 w5, .int .i64 9, .int .i64 4] 81] else [.cells [.int .u8 c, .int .u8 r, .int .u8 w, .pointer (some ⟨1, 0, none⟩), .pointer (some ⟨2, 0, none⟩), .pointer (some ⟨3, 0, none⟩), .int .i64 k, .bool h] 87, .cells [.int .u8 a, .int .i64 4, .int .i64 1] 76, .cells [.int .u8 b, .int .i64 5, .int .i64 2] 76, .cells [.int .u16 d, .int .i64 9, .int .i64 4] 81]) := by
  cases ho : okW w0 w1 w2 w3 w4 w5 w6 w7 with
  | true => exact tone_set_ok c r w a b d k h w0 w1 w2 w3 w4 w5 w6 w7 ho
  | false => exact tone_set_bad c r w a b d k h w0 w1 w2 w3 w4 w5 w6 w7 ho
theorem walk_ToneBounds (off len cap : Nat) (hl : len ≤ maxLen) (E : Nat → List Value) (hE : ∀ i, i < len → FitsAll taKs (E i)) :
    ACalls Try.prog 10 [.slice (some ⟨0, off, none⟩) len cap] [.ro (slc off 11 len E)] fun v _ => v = .bool true := by
  refine ACalls.code tabOk h10 Try.func10 Try.call10 ok10 ?_
  conv => whnf
  refine Bif.of (fun h60 => ?_) fun h60 => ?_
  · conv => whnf
    refine ⟨rfl, ?_⟩
    conv => whnf
  have hl : len ≤ 20 := by simp at h60; omega
  conv => whnf
  refine ACalls.useE (tone_new) [] rfl (by (conv => whnf); try rfl) (by (conv => whnf); try rfl) ?_
  conv => whnf
  refine ALoop.fd (σ := Nat × VW) (fun s => [.slice (some ⟨0, off, none⟩) len cap, .chan none, .bool false, .pointer (some ⟨1, 0, none⟩), .int .i64 s.2.w, .int .i64 s.1, .chan none, .chan none, .chan none, .chan none, .chan none, .chan none, .chan none, .chan none, .chan none, .chan none, .chan none, .chan none, .chan none, .chan none, .chan none, .chan none, .chan none, .chan none, .chan none, .chan none, .chan none, .chan none, .chan none, .chan none, .chan none, .chan none, .chan none, .chan none, .chan none, .chan none, .chan none, .chan none, .chan none, .chan none, .chan none, .chan none, .chan none, .chan none, .chan none, .chan none, .chan none, .chan none, .chan none, .chan none, .chan none, .chan none, .chan none, .chan none, .chan none, .chan none, .chan none, .chan none, .chan none, .chan none, .chan none, .chan none, .chan none, .chan none, .chan none, .chan none, .chan none, .chan none, .chan none, .chan none, .chan none, .chan none, .chan none, .chan none, .chan none, .chan none, .chan none, .chan none, .chan none, .chan none, .chan none, .chan none, .chan none, .chan none, .chan none, .chan none, .chan none, .chan none, .chan none, .chan none, .chan none, .chan none, .chan none, .chan none, .chan none]) (fun s => [.ro (slc off 11 len E), .cells [.int .u8 s.2.c, .int .u8 s.2.r, .int .u8 s.2.w, .pointer (some ⟨2, 0, none⟩), .pointer (some ⟨3, 0, none⟩), .pointer (some ⟨4, 0, none⟩), .int .i64 s.2.k, .bool s.2.h] 87, .cells [.int .u8 s.2.a, .int .i64 4, .int .i64 1] 76, .cells [.int .u8 s.2.b, .int .i64 5, .int .i64 2] 76, .cells [.int .u16 s.2.d, .int .i64 9, .int .i64 4] 81]) (fun s => s.1 ≤ len ∧ s.2.Ok) (fun s => len - s.1) (0, ⟨0, 0, 0, 0, 0, 0, 0, false⟩) [] rfl rfl ⟨Nat.zero_le _, by constructor <;> decide⟩ (fun _ => ⟨rfl, rfl, rfl, rfl⟩) ?_
  rintro ⟨i, c, r, w, a, b, d, k, h⟩ ⟨hi, hok⟩ R hR
  dsimp only at hi
  have e2 : IntKind.i64.wrap ((i : Int) + 1) = ((i + 1 : Nat) : Int) := by rw [wrap64 (by omega) (by omega)]; rfl
  obtain ⟨hc, hr, hw, ha, hb, hd, hk⟩ := hok
  dsimp only at hc hr hw ha hb hd hk
  conv => whnf
  refine Bif.of (fun h0 => ?_) fun h0 => ?_
  · have hlt : i < len := by simp at h0; omega
    obtain ⟨kd, ln, n, w0, w1, w2, w3, w4, w5, w6, w7, hEi, b1, b2⟩ := ta_cells (hE i hlt)
    have hk0 : 0 ≤ (IntKind.i64.wrap (kd.tmod 7 + 7)).tmod 7 ∧ (IntKind.i64.wrap (kd.tmod 7 + 7)).tmod 7 ≤ 6 := by
      have h1 := Int.lt_tmod_of_pos kd (show (0 : Int) < 7 by decide)
      have h2 := Int.tmod_lt_of_pos kd (show (0 : Int) < 7 by decide)
      rw [wrap64 (by omega) (by omega), Int.tmod_eq_emod_of_nonneg (by omega)]; omega
    have hN : (IntKind.i64.wrap ln).tmod 700 = ln % 700 := by rw [wrap64 (by omega) (by omega), Int.tmod_eq_emod_of_nonneg (by omega)]
    have hT := ts_ok (c := c) hr (ln % 700).toNat h ha hb hd hk
    have eW : IntKind.i64.wrap w = w := wrap64 (by omega) (by omega)
    generalize hK : (IntKind.i64.wrap (kd.tmod 7 + 7)).tmod 7 = K at hk0
    have hK' : K = 0 ∨ K = 1 ∨ K = 2 ∨ K = 3 ∨ K = 4 ∨ K = 5 ∨ K = 6 := by omega
    rcases hK' with rfl | rfl | rfl | rfl | rfl | rfl | rfl
    · have hlv := lev_or c w (tsH c r (ln % 700).toNat a b d k h)
      have hll := lev_le (c := c) (tsH c r (ln % 700).toNat a b d k h) (w := w) hw
      have ew : IntKind.i64.wrap (levG c w (tsH c r (ln % 700).toNat a b d k h)) = levG c w (tsH c r (ln % 700).toNat a b d k h) := wrap64 (by omega) (by omega)
      generalize hg : levG c w (tsH c r (ln % 700).toNat a b d k h) = g at hlv hll ew
      conv => whnf
      refine Req.of ?_ ?_
      · (rcases hlv with e | e <;> simp [e] <;> omega)
      conv => whnf
      refine slc_ex i 0 hlt (by decide) (by rw [hEi]; rfl) (by first | omega | (simp; done)) ?_
      conv => whnf
      rw [hK]
      conv => whnf
      refine Req.of ?_ ?_
      · (rcases hlv with e | e <;> simp [e] <;> omega)
      conv => whnf
      refine slc_ex i 1 hlt (by decide) (by rw [hEi]; rfl) (by first | omega | (simp; done)) ?_
      conv => whnf
      refine ACalls.useE (tone_ticked _ _ _ _ _ _ _ _ _ ?_ ?_ ?_ ?_) [1, 2, 3, 4] rfl (by (conv => whnf); try rfl) (by (conv => whnf); try rfl) ?_
      · omega
      · omega
      · omega
      · omega
      conv => whnf
      refine ACalls.useE (tone_levelU _ _ _ _ _ _ _ _) [1, 2, 3, 4] rfl (by (conv => whnf); try rfl) (by (conv => whnf); try rfl) ?_
      conv => whnf
      rw [hN]
      conv => whnf
      rw [hg]
      conv => whnf
      rw [ew]
      conv => whnf
      refine Bif.of (fun h0 => ?_) fun h0 => ?_
      · conv => whnf
        refine Bif.knT ?_ fun h1 => ?_
        · with_reducible assumption
        conv => whnf
        refine Bif.knT ?_ fun h2 => ?_
        · with_reducible assumption
        conv => whnf
        refine Bif.knT ?_ fun h3 => ?_
        · with_reducible assumption
        conv => whnf
        refine Bif.of (fun h4 => ?_) fun h4 => ?_
        · conv => whnf
          (exfalso; clear hR; simp at *; omega)
        · conv => whnf
          (rw [e2]; exact hR (i + 1, ⟨c, r, w, tsA c r (ln % 700).toNat a b d k h, tsB c r (ln % 700).toNat a b d k h, tsD c r (ln % 700).toNat a b d k h, tsK c r (ln % 700).toNat a b d k h, tsH c r (ln % 700).toNat a b d k h⟩) _ _ _ rfl rfl ⟨hlt, ⟨hc, hr, hw, hT.1, hT.2.1, hT.2.2.1, hT.2.2.2⟩⟩ (by show len - (i + 1) < len - i; omega))
      · conv => whnf
        refine Bif.knF ?_ fun h5 => ?_
        · with_reducible assumption
        conv => whnf
        refine Bif.knF ?_ fun h6 => ?_
        · with_reducible assumption
        conv => whnf
        refine Bif.knF ?_ fun h7 => ?_
        · with_reducible assumption
        conv => whnf
        (rw [e2]; exact hR (i + 1, ⟨c, r, w, tsA c r (ln % 700).toNat a b d k h, tsB c r (ln % 700).toNat a b d k h, tsD c r (ln % 700).toNat a b d k h, tsK c r (ln % 700).toNat a b d k h, tsH c r (ln % 700).toNat a b d k h⟩) _ _ _ rfl rfl ⟨hlt, ⟨hc, hr, hw, hT.1, hT.2.1, hT.2.2.1, hT.2.2.2⟩⟩ (by show len - (i + 1) < len - i; omega))
    · have hlv := lev_or c w (tsH c r (ln % 700).toNat a b d k h)
      have hll := lev_le (c := c) (tsH c r (ln % 700).toNat a b d k h) (w := w) hw
      have ew : IntKind.i64.wrap (levG c w (tsH c r (ln % 700).toNat a b d k h)) = levG c w (tsH c r (ln % 700).toNat a b d k h) := wrap64 (by omega) (by omega)
      generalize hg : levG c w (tsH c r (ln % 700).toNat a b d k h) = g at hlv hll ew
      conv => whnf
      refine Req.of ?_ ?_
      · (rcases hlv with e | e <;> simp [e] <;> omega)
      conv => whnf
      refine slc_ex i 0 hlt (by decide) (by rw [hEi]; rfl) (by first | omega | (simp; done)) ?_
      conv => whnf
      rw [hK]
      conv => whnf
      refine Req.of ?_ ?_
      · (rcases hlv with e | e <;> simp [e] <;> omega)
      conv => whnf
      refine slc_ex i 1 hlt (by decide) (by rw [hEi]; rfl) (by first | omega | (simp; done)) ?_
      conv => whnf
      refine ACalls.useE (tone_ticked _ _ _ _ _ _ _ _ _ ?_ ?_ ?_ ?_) [1, 2, 3, 4] rfl (by (conv => whnf); try rfl) (by (conv => whnf); try rfl) ?_
      · omega
      · omega
      · omega
      · omega
      conv => whnf
      refine ACalls.useE (tone_levelU _ _ _ _ _ _ _ _) [1, 2, 3, 4] rfl (by (conv => whnf); try rfl) (by (conv => whnf); try rfl) ?_
      conv => whnf
      rw [hN]
      conv => whnf
      rw [hg]
      conv => whnf
      rw [ew]
      conv => whnf
      refine Bif.of (fun h0 => ?_) fun h0 => ?_
      · conv => whnf
        refine Bif.knT ?_ fun h1 => ?_
        · with_reducible assumption
        conv => whnf
        refine Bif.knT ?_ fun h2 => ?_
        · with_reducible assumption
        conv => whnf
        refine Bif.knT ?_ fun h3 => ?_
        · with_reducible assumption
        conv => whnf
        refine Bif.of (fun h4 => ?_) fun h4 => ?_
        · conv => whnf
          (exfalso; clear hR; simp at *; omega)
        · conv => whnf
          (rw [e2]; exact hR (i + 1, ⟨c, r, w, tsA c r (ln % 700).toNat a b d k h, tsB c r (ln % 700).toNat a b d k h, tsD c r (ln % 700).toNat a b d k h, tsK c r (ln % 700).toNat a b d k h, tsH c r (ln % 700).toNat a b d k h⟩) _ _ _ rfl rfl ⟨hlt, ⟨hc, hr, hw, hT.1, hT.2.1, hT.2.2.1, hT.2.2.2⟩⟩ (by show len - (i + 1) < len - i; omega))
      · conv => whnf
        refine Bif.knF ?_ fun h5 => ?_
        · with_reducible assumption
        conv => whnf
        refine Bif.knF ?_ fun h6 => ?_
        · with_reducible assumption
        conv => whnf
        refine Bif.knF ?_ fun h7 => ?_
        · with_reducible assumption
        conv => whnf
        (rw [e2]; exact hR (i + 1, ⟨c, r, w, tsA c r (ln % 700).toNat a b d k h, tsB c r (ln % 700).toNat a b d k h, tsD c r (ln % 700).toNat a b d k h, tsK c r (ln % 700).toNat a b d k h, tsH c r (ln % 700).toNat a b d k h⟩) _ _ _ rfl rfl ⟨hlt, ⟨hc, hr, hw, hT.1, hT.2.1, hT.2.2.1, hT.2.2.2⟩⟩ (by show len - (i + 1) < len - i; omega))
    · have hlv := lev_or c w (tsH c r (ln % 700).toNat a b d k h)
      have hll := lev_le (c := c) (tsH c r (ln % 700).toNat a b d k h) (w := w) hw
      have ew : IntKind.i64.wrap (levG c w (tsH c r (ln % 700).toNat a b d k h)) = levG c w (tsH c r (ln % 700).toNat a b d k h) := wrap64 (by omega) (by omega)
      generalize hg : levG c w (tsH c r (ln % 700).toNat a b d k h) = g at hlv hll ew
      conv => whnf
      refine Req.of ?_ ?_
      · (rcases hlv with e | e <;> simp [e] <;> omega)
      conv => whnf
      refine slc_ex i 0 hlt (by decide) (by rw [hEi]; rfl) (by first | omega | (simp; done)) ?_
      conv => whnf
      rw [hK]
      conv => whnf
      refine Req.of ?_ ?_
      · (rcases hlv with e | e <;> simp [e] <;> omega)
      conv => whnf
      refine slc_ex i 1 hlt (by decide) (by rw [hEi]; rfl) (by first | omega | (simp; done)) ?_
      conv => whnf
      refine ACalls.useE (tone_ticked _ _ _ _ _ _ _ _ _ ?_ ?_ ?_ ?_) [1, 2, 3, 4] rfl (by (conv => whnf); try rfl) (by (conv => whnf); try rfl) ?_
      · omega
      · omega
      · omega
      · omega
      conv => whnf
      refine ACalls.useE (tone_levelU _ _ _ _ _ _ _ _) [1, 2, 3, 4] rfl (by (conv => whnf); try rfl) (by (conv => whnf); try rfl) ?_
      conv => whnf
      rw [hN]
      conv => whnf
      rw [hg]
      conv => whnf
      rw [ew]
      conv => whnf
      refine Bif.of (fun h0 => ?_) fun h0 => ?_
      · conv => whnf
        refine Bif.knT ?_ fun h1 => ?_
        · with_reducible assumption
        conv => whnf
        refine Bif.knT ?_ fun h2 => ?_
        · with_reducible assumption
        conv => whnf
        refine Bif.knT ?_ fun h3 => ?_
        · with_reducible assumption
        conv => whnf
        refine Bif.of (fun h4 => ?_) fun h4 => ?_
        · conv => whnf
          (exfalso; clear hR; simp at *; omega)
        · conv => whnf
          (rw [e2]; exact hR (i + 1, ⟨c, r, w, tsA c r (ln % 700).toNat a b d k h, tsB c r (ln % 700).toNat a b d k h, tsD c r (ln % 700).toNat a b d k h, tsK c r (ln % 700).toNat a b d k h, tsH c r (ln % 700).toNat a b d k h⟩) _ _ _ rfl rfl ⟨hlt, ⟨hc, hr, hw, hT.1, hT.2.1, hT.2.2.1, hT.2.2.2⟩⟩ (by show len - (i + 1) < len - i; omega))
      · conv => whnf
        refine Bif.knF ?_ fun h5 => ?_
        · with_reducible assumption
        conv => whnf
        refine Bif.knF ?_ fun h6 => ?_
        · with_reducible assumption
        conv => whnf
        refine Bif.knF ?_ fun h7 => ?_
        · with_reducible assumption
        conv => whnf
        (rw [e2]; exact hR (i + 1, ⟨c, r, w, tsA c r (ln % 700).toNat a b d k h, tsB c r (ln % 700).toNat a b d k h, tsD c r (ln % 700).toNat a b d k h, tsK c r (ln % 700).toNat a b d k h, tsH c r (ln % 700).toNat a b d k h⟩) _ _ _ rfl rfl ⟨hlt, ⟨hc, hr, hw, hT.1, hT.2.1, hT.2.2.1, hT.2.2.2⟩⟩ (by show len - (i + 1) < len - i; omega))
    · have hlv := lev_or (n % 16) w h
      have hll := lev_le (c := (n % 16)) h (w := w) hw
      have ew : IntKind.i64.wrap (levG (n % 16) w h) = levG (n % 16) w h := wrap64 (by omega) (by omega)
      generalize hg : levG (n % 16) w h = g at hlv hll ew
      conv => whnf
      refine Req.of ?_ ?_
      · (rcases hlv with e | e <;> simp [e] <;> omega)
      conv => whnf
      refine slc_ex i 0 hlt (by decide) (by rw [hEi]; rfl) (by first | omega | (simp; done)) ?_
      conv => whnf
      rw [hK]
      conv => whnf
      refine Req.of ?_ ?_
      · (rcases hlv with e | e <;> simp [e] <;> omega)
      conv => whnf
      refine slc_ex i 2 hlt (by decide) (by rw [hEi]; rfl) (by first | omega | (simp; done)) ?_
      conv => whnf
      refine ACalls.useE (tone_control _ _ _ _ _ _ _ _ _) [1, 2, 3, 4] rfl (by (conv => whnf); try rfl) (by (conv => whnf); try rfl) ?_
      conv => whnf
      refine ACalls.useE (tone_levelU _ _ _ _ _ _ _ _) [1, 2, 3, 4] rfl (by (conv => whnf); try rfl) (by (conv => whnf); try rfl) ?_
      conv => whnf
      rw [hg]
      conv => whnf
      rw [ew]
      conv => whnf
      refine Bif.of (fun h0 => ?_) fun h0 => ?_
      · conv => whnf
        refine Bif.knT ?_ fun h1 => ?_
        · with_reducible assumption
        conv => whnf
        refine Bif.knT ?_ fun h2 => ?_
        · with_reducible assumption
        conv => whnf
        refine Bif.knT ?_ fun h3 => ?_
        · with_reducible assumption
        conv => whnf
        refine Bif.of (fun h4 => ?_) fun h4 => ?_
        · conv => whnf
          (exfalso; clear hR; simp at *; omega)
        · conv => whnf
          (rw [e2]; exact hR (i + 1, ⟨n % 16, r, w, a, b, d, k, h⟩) _ _ _ rfl rfl ⟨hlt, ⟨by dsimp only; omega, hr, hw, ha, hb, hd, hk⟩⟩ (by show len - (i + 1) < len - i; omega))
      · conv => whnf
        refine Bif.knF ?_ fun h5 => ?_
        · with_reducible assumption
        conv => whnf
        refine Bif.knF ?_ fun h6 => ?_
        · with_reducible assumption
        conv => whnf
        refine Bif.knF ?_ fun h7 => ?_
        · with_reducible assumption
        conv => whnf
        (rw [e2]; exact hR (i + 1, ⟨n % 16, r, w, a, b, d, k, h⟩) _ _ _ rfl rfl ⟨hlt, ⟨by dsimp only; omega, hr, hw, ha, hb, hd, hk⟩⟩ (by show len - (i + 1) < len - i; omega))
    · have hlv := lev_or c w h
      have hll := lev_le (c := c) h (w := w) hw
      have ew : IntKind.i64.wrap (levG c w h) = levG c w h := wrap64 (by omega) (by omega)
      generalize hg : levG c w h = g at hlv hll ew
      conv => whnf
      refine Req.of ?_ ?_
      · (rcases hlv with e | e <;> simp [e] <;> omega)
      conv => whnf
      refine slc_ex i 0 hlt (by decide) (by rw [hEi]; rfl) (by first | omega | (simp; done)) ?_
      conv => whnf
      rw [hK]
      conv => whnf
      refine Req.of ?_ ?_
      · (rcases hlv with e | e <;> simp [e] <;> omega)
      conv => whnf
      refine slc_ex i 2 hlt (by decide) (by rw [hEi]; rfl) (by first | omega | (simp; done)) ?_
      conv => whnf
      refine ACalls.useE (tone_rate _ _ _ _ _ _ _ _ _) [1, 2, 3, 4] rfl (by (conv => whnf); try rfl) (by (conv => whnf); try rfl) ?_
      conv => whnf
      refine ACalls.useE (tone_levelU _ _ _ _ _ _ _ _) [1, 2, 3, 4] rfl (by (conv => whnf); try rfl) (by (conv => whnf); try rfl) ?_
      conv => whnf
      rw [hg]
      conv => whnf
      rw [ew]
      conv => whnf
      refine Bif.of (fun h0 => ?_) fun h0 => ?_
      · conv => whnf
        refine Bif.knT ?_ fun h1 => ?_
        · with_reducible assumption
        conv => whnf
        refine Bif.knT ?_ fun h2 => ?_
        · with_reducible assumption
        conv => whnf
        refine Bif.knT ?_ fun h3 => ?_
        · with_reducible assumption
        conv => whnf
        refine Bif.of (fun h4 => ?_) fun h4 => ?_
        · conv => whnf
          (exfalso; clear hR; simp at *; omega)
        · conv => whnf
          (rw [e2]; exact hR (i + 1, ⟨c, n % 32, w, a, b, d, k, h⟩) _ _ _ rfl rfl ⟨hlt, ⟨hc, by dsimp only; omega, hw, ha, hb, hd, hk⟩⟩ (by show len - (i + 1) < len - i; omega))
      · conv => whnf
        refine Bif.knF ?_ fun h5 => ?_
        · with_reducible assumption
        conv => whnf
        refine Bif.knF ?_ fun h6 => ?_
        · with_reducible assumption
        conv => whnf
        refine Bif.knF ?_ fun h7 => ?_
        · with_reducible assumption
        conv => whnf
        (rw [e2]; exact hR (i + 1, ⟨c, n % 32, w, a, b, d, k, h⟩) _ _ _ rfl rfl ⟨hlt, ⟨hc, by dsimp only; omega, hw, ha, hb, hd, hk⟩⟩ (by show len - (i + 1) < len - i; omega))
    · have hlv := lev_or c (n % 16) h
      have hll := lev_le (c := c) h (w := (n % 16)) (by omega)
      have ew : IntKind.i64.wrap (levG c (n % 16) h) = levG c (n % 16) h := wrap64 (by omega) (by omega)
      have en : (IntKind.i64.wrap n).tmod 16 = n % 16 := by rw [wrap64 (by omega) (by omega), Int.tmod_eq_emod_of_nonneg (by omega)]
      generalize hg : levG c (n % 16) h = g at hlv hll ew
      conv => whnf
      refine Req.of ?_ ?_
      · (rcases hlv with e | e <;> simp [e] <;> omega)
      conv => whnf
      refine slc_ex i 0 hlt (by decide) (by rw [hEi]; rfl) (by first | omega | (simp; done)) ?_
      conv => whnf
      rw [hK]
      conv => whnf
      refine Req.of ?_ ?_
      · (rcases hlv with e | e <;> simp [e] <;> omega)
      conv => whnf
      refine slc_ex i 2 hlt (by decide) (by rw [hEi]; rfl) (by first | omega | (simp; done)) ?_
      conv => whnf
      refine ACalls.useE (tone_volume _ _ _ _ _ _ _ _ _) [1, 2, 3, 4] rfl (by (conv => whnf); try rfl) (by (conv => whnf); try rfl) ?_
      conv => whnf
      refine Req.of ?_ ?_
      · (rcases hlv with e | e <;> simp [e] <;> omega)
      conv => whnf
      refine slc_ex i 2 hlt (by decide) (by rw [hEi]; rfl) (by first | omega | (simp; done)) ?_
      conv => whnf
      refine ACalls.useE (tone_levelU _ _ _ _ _ _ _ _) [1, 2, 3, 4] rfl (by (conv => whnf); try rfl) (by (conv => whnf); try rfl) ?_
      conv => whnf
      rw [hg]
      conv => whnf
      rw [ew]
      conv => whnf
      rw [en]
      conv => whnf
      refine Bif.of (fun h0 => ?_) fun h0 => ?_
      · conv => whnf
        refine Bif.knT ?_ fun h1 => ?_
        · with_reducible assumption
        conv => whnf
        refine Bif.knT ?_ fun h2 => ?_
        · with_reducible assumption
        conv => whnf
        refine Bif.knT ?_ fun h3 => ?_
        · with_reducible assumption
        conv => whnf
        refine Bif.of (fun h4 => ?_) fun h4 => ?_
        · conv => whnf
          (exfalso; clear hR; simp at *; omega)
        · conv => whnf
          (rw [e2]; exact hR (i + 1, ⟨c, r, n % 16, a, b, d, k, h⟩) _ _ _ rfl rfl ⟨hlt, ⟨hc, hr, by dsimp only; omega, ha, hb, hd, hk⟩⟩ (by show len - (i + 1) < len - i; omega))
      · conv => whnf
        refine Bif.knF ?_ fun h5 => ?_
        · with_reducible assumption
        conv => whnf
        refine Bif.knF ?_ fun h6 => ?_
        · with_reducible assumption
        conv => whnf
        refine Bif.knF ?_ fun h7 => ?_
        · with_reducible assumption
        conv => whnf
        (rw [e2]; exact hR (i + 1, ⟨c, r, n % 16, a, b, d, k, h⟩) _ _ _ rfl rfl ⟨hlt, ⟨hc, hr, by dsimp only; omega, ha, hb, hd, hk⟩⟩ (by show len - (i + 1) < len - i; omega))
    · cases ho : okW w0 w1 w2 w3 w4 w5 w6 w7 with
      | true =>
        have hq := (okW_iff ..).1 ho
        obtain ⟨q0, q1, q2, q3, q4, q5, q6, q7⟩ := hq
        have hlv := lev_or w0 w2 (w7 == 1)
        have hll := lev_le (c := w0) (w7 == 1) (w := w2) q2
        have ew : IntKind.i64.wrap (levG w0 w2 (w7 == 1)) = levG w0 w2 (w7 == 1) := wrap64 (by omega) (by omega)
        generalize hg : levG w0 w2 (w7 == 1) = g at hlv hll ew
        conv => whnf
        refine Req.of ?_ ?_
        · (rcases hlv with e | e <;> simp [e] <;> omega)
        conv => whnf
        refine slc_ex i 0 hlt (by decide) (by rw [hEi]; rfl) (by first | omega | (simp; done)) ?_
        conv => whnf
        rw [hK]
        conv => whnf
        refine Req.of ?_ ?_
        · (rcases hlv with e | e <;> simp [e] <;> omega)
        conv => whnf
        refine slc_ex i 3 hlt (by decide) (by rw [hEi]; rfl) (by first | omega | (simp; done)) ?_
        conv => whnf
        refine slc_ex i 4 hlt (by decide) (by rw [hEi]; rfl) (by first | omega | (simp; done)) ?_
        conv => whnf
        refine slc_ex i 5 hlt (by decide) (by rw [hEi]; rfl) (by first | omega | (simp; done)) ?_
        conv => whnf
        refine slc_ex i 6 hlt (by decide) (by rw [hEi]; rfl) (by first | omega | (simp; done)) ?_
        conv => whnf
        refine slc_ex i 7 hlt (by decide) (by rw [hEi]; rfl) (by first | omega | (simp; done)) ?_
        conv => whnf
        refine slc_ex i 8 hlt (by decide) (by rw [hEi]; rfl) (by first | omega | (simp; done)) ?_
        conv => whnf
        refine slc_ex i 9 hlt (by decide) (by rw [hEi]; rfl) (by first | omega | (simp; done)) ?_
        conv => whnf
        refine slc_ex i 10 hlt (by decide) (by rw [hEi]; rfl) (by first | omega | (simp; done)) ?_
        conv => whnf
        refine ACalls.useE (tone_setU _ _ _ _ _ _ _ _ _ _ _ _ _ _ _ _) [1, 2, 3, 4] rfl (by (conv => whnf); try rfl) (by (conv => whnf); try rfl) ?_
        conv => whnf
        rw [ho]
        conv => whnf
        refine Req.of ?_ ?_
        · (rcases hlv with e | e <;> simp [e] <;> omega)
        conv => whnf
        refine slc_ex i 5 hlt (by decide) (by rw [hEi]; rfl) (by first | omega | (simp; done)) ?_
        conv => whnf
        refine ACalls.useE (tone_levelU _ _ _ _ _ _ _ _) [1, 2, 3, 4] rfl (by (conv => whnf); try rfl) (by (conv => whnf); try rfl) ?_
        conv => whnf
        rw [hg]
        conv => whnf
        rw [ew]
        conv => whnf
        refine Bif.of (fun h0 => ?_) fun h0 => ?_
        · conv => whnf
          refine Bif.knT ?_ fun h1 => ?_
          · with_reducible assumption
          conv => whnf
          refine Bif.knT ?_ fun h2 => ?_
          · with_reducible assumption
          conv => whnf
          refine Bif.knT ?_ fun h3 => ?_
          · with_reducible assumption
          conv => whnf
          refine Bif.of (fun h4 => ?_) fun h4 => ?_
          · conv => whnf
            (exfalso; clear hR; simp at *; omega)
          · conv => whnf
            (rw [e2]; exact hR (i + 1, ⟨w0, w1, w2, w3, w4, w5, w6, w7 == 1⟩) _ _ _ rfl rfl ⟨hlt, ⟨q0, q1, q2, q3, q4, q5, q6⟩⟩ (by show len - (i + 1) < len - i; omega))
        · conv => whnf
          refine Bif.knF ?_ fun h5 => ?_
          · with_reducible assumption
          conv => whnf
          refine Bif.knF ?_ fun h6 => ?_
          · with_reducible assumption
          conv => whnf
          refine Bif.knF ?_ fun h7 => ?_
          · with_reducible assumption
          conv => whnf
          (rw [e2]; exact hR (i + 1, ⟨w0, w1, w2, w3, w4, w5, w6, w7 == 1⟩) _ _ _ rfl rfl ⟨hlt, ⟨q0, q1, q2, q3, q4, q5, q6⟩⟩ (by show len - (i + 1) < len - i; omega))
      | false =>
        have hlv := lev_or c w h
        have hll := lev_le (c := c) h (w := w) hw
        have ew : IntKind.i64.wrap (levG c w h) = levG c w h := wrap64 (by omega) (by omega)
        generalize hg : levG c w h = g at hlv hll ew
        conv => whnf
        refine Req.of ?_ ?_
        · (rcases hlv with e | e <;> simp [e] <;> omega)
        conv => whnf
        refine slc_ex i 0 hlt (by decide) (by rw [hEi]; rfl) (by first | omega | (simp; done)) ?_
        conv => whnf
        rw [hK]
        conv => whnf
        refine Req.of ?_ ?_
        · (rcases hlv with e | e <;> simp [e] <;> omega)
        conv => whnf
        refine slc_ex i 3 hlt (by decide) (by rw [hEi]; rfl) (by first | omega | (simp; done)) ?_
        conv => whnf
        refine slc_ex i 4 hlt (by decide) (by rw [hEi]; rfl) (by first | omega | (simp; done)) ?_
        conv => whnf
        refine slc_ex i 5 hlt (by decide) (by rw [hEi]; rfl) (by first | omega | (simp; done)) ?_
        conv => whnf
        refine slc_ex i 6 hlt (by decide) (by rw [hEi]; rfl) (by first | omega | (simp; done)) ?_
        conv => whnf
        refine slc_ex i 7 hlt (by decide) (by rw [hEi]; rfl) (by first | omega | (simp; done)) ?_
        conv => whnf
        refine slc_ex i 8 hlt (by decide) (by rw [hEi]; rfl) (by first | omega | (simp; done)) ?_
        conv => whnf
        refine slc_ex i 9 hlt (by decide) (by rw [hEi]; rfl) (by first | omega | (simp; done)) ?_
        conv => whnf
        refine slc_ex i 10 hlt (by decide) (by rw [hEi]; rfl) (by first | omega | (simp; done)) ?_
        conv => whnf
        refine ACalls.useE (tone_setU _ _ _ _ _ _ _ _ _ _ _ _ _ _ _ _) [1, 2, 3, 4] rfl (by (conv => whnf); try rfl) (by (conv => whnf); try rfl) ?_
        conv => whnf
        rw [ho]
        conv => whnf
        refine ACalls.useE (tone_levelU _ _ _ _ _ _ _ _) [1, 2, 3, 4] rfl (by (conv => whnf); try rfl) (by (conv => whnf); try rfl) ?_
        conv => whnf
        rw [hg]
        conv => whnf
        rw [ew]
        conv => whnf
        refine Bif.of (fun h0 => ?_) fun h0 => ?_
        · conv => whnf
          refine Bif.knT ?_ fun h1 => ?_
          · with_reducible assumption
          conv => whnf
          refine Bif.knT ?_ fun h2 => ?_
          · with_reducible assumption
          conv => whnf
          refine Bif.knT ?_ fun h3 => ?_
          · with_reducible assumption
          conv => whnf
          refine Bif.of (fun h4 => ?_) fun h4 => ?_
          · conv => whnf
            (exfalso; clear hR; simp at *; omega)
          · conv => whnf
            (rw [e2]; exact hR (i + 1, ⟨c, r, w, a, b, d, k, h⟩) _ _ _ rfl rfl ⟨hlt, ⟨hc, hr, hw, ha, hb, hd, hk⟩⟩ (by show len - (i + 1) < len - i; omega))
        · conv => whnf
          refine Bif.knF ?_ fun h5 => ?_
          · with_reducible assumption
          conv => whnf
          refine Bif.knF ?_ fun h6 => ?_
          · with_reducible assumption
          conv => whnf
          refine Bif.knF ?_ fun h7 => ?_
          · with_reducible assumption
          conv => whnf
          (rw [e2]; exact hR (i + 1, ⟨c, r, w, a, b, d, k, h⟩) _ _ _ rfl rfl ⟨hlt, ⟨hc, hr, hw, ha, hb, hd, hk⟩⟩ (by show len - (i + 1) < len - i; omega))
  · clear hR
    conv => whnf
    refine ACalls.useE (awake19) [] rfl (by (conv => whnf); try rfl) (by (conv => whnf); try rfl) ?_
    conv => whnf
    refine ⟨rfl, ?_⟩
    conv => whnf
theorem walk_ToneBounds_nil : ACalls Try.prog 10 [.slice none 0 0] [] fun v _ => v = .bool true := by
  refine ACalls.code tabOk h10 Try.func10 Try.call10 ok10 ?_
  conv => whnf
  refine ACalls.useE (tone_new) [] rfl (by (conv => whnf); try rfl) (by (conv => whnf); try rfl) ?_
  conv => whnf
  refine ALoop.run 1 ?_
  conv => whnf
  refine ACalls.useE (awake19) [] rfl (by (conv => whnf); try rfl) (by (conv => whnf); try rfl) ?_
  conv => whnf
end Go.Proofs
