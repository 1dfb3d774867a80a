/-
  Walks through the functions of the program, by contract.
-/
import Derived.Test.YtlodkcpaoljdlaaTbndF
set_option linter.all false
set_option linter.unusedVariables false
set_option linter.unusedSimpArgs false
set_option linter.unnecessarySimpa false
namespace Go.Proofs
open Go.Aw
set_option maxRecDepth 100000
set_option maxHeartbeats 8000000
theorem walk_ToneCopies (tk : Int) (wt : (Lit.int .u8 tk).wf = true) (off len cap : Nat) (hl : len ≤ maxLen) (E : Nat → List Value) (hE : ∀ i, i < len → FitsAll taKs (E i)) :
    ACalls Try.prog 12 [.slice (some ⟨0, off, none⟩) len cap, .int .u8 tk] [.ro (slc off 11 len E)] fun v _ => v = .bool true := by
  have htk := wf_u8 wt
  have etk : IntKind.i64.wrap tk = tk := wrap64 (by omega) (by omega)
  refine ACalls.code tabOk h12 Try.func12 Try.call12 ok12 ?_
  conv => whnf
  refine Bif.of (fun h60 => ?_) fun h60 => ?_
  · conv => whnf
    refine ⟨rfl, ?_⟩
    conv => whnf
  have hl : len ≤ 10 := by simp at h60; omega
  conv => whnf
  refine ACalls.useE (tone_new) [] rfl (by (conv => whnf); try rfl) (by (conv => whnf); try rfl) ?_
  conv => whnf
  refine ALoop.fd (σ := Nat × VW) (fun s => [.slice (some ⟨0, off, none⟩) len cap, .int .u8 tk, .chan none, .chan none, .bool false, .pointer (some ⟨1, 0, none⟩), .int .i64 s.1, .chan none, .chan none, .chan none, .chan none, .chan none, .chan none, .chan none, .chan none, .chan none, .chan none, .chan none, .chan none, .chan none, .chan none, .chan none, .chan none, .chan none, .chan none, .chan none, .chan none, .chan none, .chan none, .chan none, .chan none, .chan none, .chan none, .chan none, .chan none, .chan none, .chan none, .chan none, .chan none, .chan none, .chan none, .chan none, .chan none, .chan none, .chan none, .chan none, .chan none, .chan none, .chan none, .chan none, .chan none, .chan none, .chan none, .chan none, .chan none, .chan none, .chan none, .chan none, .chan none, .chan none, .chan none, .chan none, .chan none, .chan none, .chan none, .chan none, .chan none, .chan none, .chan none, .chan none, .chan none, .chan none, .chan none, .chan none, .chan none, .chan none, .chan none, .chan none, .chan none, .chan none, .chan none, .chan none, .chan none, .chan none, .chan none, .chan none, .chan none, .chan none, .chan none, .chan none, .chan none, .chan none]) (fun s => [.ro (slc off 11 len E), .cells [.int .u8 s.2.c, .int .u8 s.2.r, .int .u8 s.2.w, .pointer (some ⟨2, 0, none⟩), .pointer (some ⟨3, 0, none⟩), .pointer (some ⟨4, 0, none⟩), .int .i64 s.2.k, .bool s.2.h] 87, .cells [.int .u8 s.2.a, .int .i64 4, .int .i64 1] 76, .cells [.int .u8 s.2.b, .int .i64 5, .int .i64 2] 76, .cells [.int .u16 s.2.d, .int .i64 9, .int .i64 4] 81]) (fun s => s.1 ≤ len ∧ s.2.Ok) (fun s => len - s.1) (0, ⟨0, 0, 0, 0, 0, 0, 0, false⟩) [] rfl rfl ⟨Nat.zero_le _, by constructor <;> decide⟩ (fun _ => ⟨rfl, rfl, rfl, rfl⟩) ?_
  rintro ⟨i, c, r, w, a, b, d, k, h⟩ ⟨hi, hok⟩ R hR
  dsimp only at hi
  have e2 : IntKind.i64.wrap ((i : Int) + 1) = ((i + 1 : Nat) : Int) := by rw [wrap64 (by omega) (by omega)]; rfl
  obtain ⟨hc, hr, hw, ha, hb, hd, hk⟩ := hok
  dsimp only at hc hr hw ha hb hd hk
  conv => whnf
  refine Bif.of (fun h0 => ?_) fun h0 => ?_
  · have hlt : i < len := by simp at h0; omega
    obtain ⟨kd, ln, n, w0, w1, w2, w3, w4, w5, w6, w7, hEi, b1, b2⟩ := ta_cells (hE i hlt)
    have hk0 : 0 ≤ (IntKind.i64.wrap (kd.tmod 7 + 7)).tmod 7 ∧ (IntKind.i64.wrap (kd.tmod 7 + 7)).tmod 7 ≤ 6 := by
      have h1 := Int.lt_tmod_of_pos kd (show (0 : Int) < 7 by decide)
      have h2 := Int.tmod_lt_of_pos kd (show (0 : Int) < 7 by decide)
      rw [wrap64 (by omega) (by omega), Int.tmod_eq_emod_of_nonneg (by omega)]; omega
    have hN : (IntKind.i64.wrap ln).tmod 700 = ln % 700 := by rw [wrap64 (by omega) (by omega), Int.tmod_eq_emod_of_nonneg (by omega)]
    have hT := ts_ok (c := c) hr (ln % 700).toNat h ha hb hd hk
    generalize hK : (IntKind.i64.wrap (kd.tmod 7 + 7)).tmod 7 = K at hk0
    have hK' : K = 0 ∨ K = 1 ∨ K = 2 ∨ K = 3 ∨ K = 4 ∨ K = 5 ∨ K = 6 := by omega
    rcases hK' with rfl | rfl | rfl | rfl | rfl | rfl | rfl
    · conv => whnf
      refine Req.of ?_ ?_
      · (clear hR; simp; omega)
      conv => whnf
      refine slc_ex i 0 hlt (by decide) (by rw [hEi]; rfl) (by first | omega | (simp; done)) ?_
      conv => whnf
      rw [hK]
      conv => whnf
      refine Req.of ?_ ?_
      · (clear hR; simp; omega)
      conv => whnf
      refine slc_ex i 1 hlt (by decide) (by rw [hEi]; rfl) (by first | omega | (simp; done)) ?_
      conv => whnf
      refine ACalls.useE (tone_ticked _ _ _ _ _ _ _ _ _ ?_ ?_ ?_ ?_) [1, 2, 3, 4] rfl (by (conv => whnf); try rfl) (by (conv => whnf); try rfl) ?_
      · omega
      · omega
      · omega
      · omega
      conv => whnf
      rw [hN]
      conv => whnf
      (rw [e2]; exact hR (i + 1, ⟨c, r, w, tsA c r (ln % 700).toNat a b d k h, tsB c r (ln % 700).toNat a b d k h, tsD c r (ln % 700).toNat a b d k h, tsK c r (ln % 700).toNat a b d k h, tsH c r (ln % 700).toNat a b d k h⟩) _ _ _ rfl rfl ⟨hlt, ⟨hc, hr, hw, hT.1, hT.2.1, hT.2.2.1, hT.2.2.2⟩⟩ (by show len - (i + 1) < len - i; omega))
    · conv => whnf
      refine Req.of ?_ ?_
      · (clear hR; simp; omega)
      conv => whnf
      refine slc_ex i 0 hlt (by decide) (by rw [hEi]; rfl) (by first | omega | (simp; done)) ?_
      conv => whnf
      rw [hK]
      conv => whnf
      refine Req.of ?_ ?_
      · (clear hR; simp; omega)
      conv => whnf
      refine slc_ex i 1 hlt (by decide) (by rw [hEi]; rfl) (by first | omega | (simp; done)) ?_
      conv => whnf
      refine ACalls.useE (tone_ticked _ _ _ _ _ _ _ _ _ ?_ ?_ ?_ ?_) [1, 2, 3, 4] rfl (by (conv => whnf); try rfl) (by (conv => whnf); try rfl) ?_
      · omega
      · omega
      · omega
      · omega
      conv => whnf
      rw [hN]
      conv => whnf
      (rw [e2]; exact hR (i + 1, ⟨c, r, w, tsA c r (ln % 700).toNat a b d k h, tsB c r (ln % 700).toNat a b d k h, tsD c r (ln % 700).toNat a b d k h, tsK c r (ln % 700).toNat a b d k h, tsH c r (ln % 700).toNat a b d k h⟩) _ _ _ rfl rfl ⟨hlt, ⟨hc, hr, hw, hT.1, hT.2.1, hT.2.2.1, hT.2.2.2⟩⟩ (by show len - (i + 1) < len - i; omega))
    · conv => whnf
      refine Req.of ?_ ?_
      · (clear hR; simp; omega)
      conv => whnf
      refine slc_ex i 0 hlt (by decide) (by rw [hEi]; rfl) (by first | omega | (simp; done)) ?_
      conv => whnf
      rw [hK]
      conv => whnf
      refine Req.of ?_ ?_
      · (clear hR; simp; omega)
      conv => whnf
      refine slc_ex i 1 hlt (by decide) (by rw [hEi]; rfl) (by first | omega | (simp; done)) ?_
      conv => whnf
      refine ACalls.useE (tone_ticked _ _ _ _ _ _ _ _ _ ?_ ?_ ?_ ?_) [1, 2, 3, 4] rfl (by (conv => whnf); try rfl) (by (conv => whnf); try rfl) ?_
      · omega
      · omega
      · omega
      · omega
      conv => whnf
      rw [hN]
      conv => whnf
      (rw [e2]; exact hR (i + 1, ⟨c, r, w, tsA c r (ln % 700).toNat a b d k h, tsB c r (ln % 700).toNat a b d k h, tsD c r (ln % 700).toNat a b d k h, tsK c r (ln % 700).toNat a b d k h, tsH c r (ln % 700).toNat a b d k h⟩) _ _ _ rfl rfl ⟨hlt, ⟨hc, hr, hw, hT.1, hT.2.1, hT.2.2.1, hT.2.2.2⟩⟩ (by show len - (i + 1) < len - i; omega))
    · conv => whnf
      refine Req.of ?_ ?_
      · (clear hR; simp; omega)
      conv => whnf
      refine slc_ex i 0 hlt (by decide) (by rw [hEi]; rfl) (by first | omega | (simp; done)) ?_
      conv => whnf
      rw [hK]
      conv => whnf
      refine Req.of ?_ ?_
      · (clear hR; simp; omega)
      conv => whnf
      refine slc_ex i 2 hlt (by decide) (by rw [hEi]; rfl) (by first | omega | (simp; done)) ?_
      conv => whnf
      refine ACalls.useE (tone_control _ _ _ _ _ _ _ _ _) [1, 2, 3, 4] rfl (by (conv => whnf); try rfl) (by (conv => whnf); try rfl) ?_
      conv => whnf
      (rw [e2]; exact hR (i + 1, ⟨n % 16, r, w, a, b, d, k, h⟩) _ _ _ rfl rfl ⟨hlt, ⟨by dsimp only; omega, hr, hw, ha, hb, hd, hk⟩⟩ (by show len - (i + 1) < len - i; omega))
    · conv => whnf
      refine Req.of ?_ ?_
      · (clear hR; simp; omega)
      conv => whnf
      refine slc_ex i 0 hlt (by decide) (by rw [hEi]; rfl) (by first | omega | (simp; done)) ?_
      conv => whnf
      rw [hK]
      conv => whnf
      refine Req.of ?_ ?_
      · (clear hR; simp; omega)
      conv => whnf
      refine slc_ex i 2 hlt (by decide) (by rw [hEi]; rfl) (by first | omega | (simp; done)) ?_
      conv => whnf
      refine ACalls.useE (tone_rate _ _ _ _ _ _ _ _ _) [1, 2, 3, 4] rfl (by (conv => whnf); try rfl) (by (conv => whnf); try rfl) ?_
      conv => whnf
      (rw [e2]; exact hR (i + 1, ⟨c, n % 32, w, a, b, d, k, h⟩) _ _ _ rfl rfl ⟨hlt, ⟨hc, by dsimp only; omega, hw, ha, hb, hd, hk⟩⟩ (by show len - (i + 1) < len - i; omega))
    · conv => whnf
      refine Req.of ?_ ?_
      · (clear hR; simp; omega)
      conv => whnf
      refine slc_ex i 0 hlt (by decide) (by rw [hEi]; rfl) (by first | omega | (simp; done)) ?_
      conv => whnf
      rw [hK]
      conv => whnf
      refine Req.of ?_ ?_
      · (clear hR; simp; omega)
      conv => whnf
      refine slc_ex i 1 hlt (by decide) (by rw [hEi]; rfl) (by first | omega | (simp; done)) ?_
      conv => whnf
      refine ACalls.useE (tone_ticked _ _ _ _ _ _ _ _ _ ?_ ?_ ?_ ?_) [1, 2, 3, 4] rfl (by (conv => whnf); try rfl) (by (conv => whnf); try rfl) ?_
      · omega
      · omega
      · omega
      · omega
      conv => whnf
      rw [hN]
      conv => whnf
      (rw [e2]; exact hR (i + 1, ⟨c, r, w, tsA c r (ln % 700).toNat a b d k h, tsB c r (ln % 700).toNat a b d k h, tsD c r (ln % 700).toNat a b d k h, tsK c r (ln % 700).toNat a b d k h, tsH c r (ln % 700).toNat a b d k h⟩) _ _ _ rfl rfl ⟨hlt, ⟨hc, hr, hw, hT.1, hT.2.1, hT.2.2.1, hT.2.2.2⟩⟩ (by show len - (i + 1) < len - i; omega))
    · cases ho : okW w0 w1 w2 w3 w4 w5 w6 w7 with
      | true =>
        have hq := (okW_iff ..).1 ho
        obtain ⟨q0, q1, q2, q3, q4, q5, q6, q7⟩ := hq
        conv => whnf
        refine Req.of ?_ ?_
        · (clear hR; simp; omega)
        conv => whnf
        refine slc_ex i 0 hlt (by decide) (by rw [hEi]; rfl) (by first | omega | (simp; done)) ?_
        conv => whnf
        rw [hK]
        conv => whnf
        refine Req.of ?_ ?_
        · (clear hR; simp; omega)
        conv => whnf
        refine slc_ex i 3 hlt (by decide) (by rw [hEi]; rfl) (by first | omega | (simp; done)) ?_
        conv => whnf
        refine slc_ex i 4 hlt (by decide) (by rw [hEi]; rfl) (by first | omega | (simp; done)) ?_
        conv => whnf
        refine slc_ex i 5 hlt (by decide) (by rw [hEi]; rfl) (by first | omega | (simp; done)) ?_
        conv => whnf
        refine slc_ex i 6 hlt (by decide) (by rw [hEi]; rfl) (by first | omega | (simp; done)) ?_
        conv => whnf
        refine slc_ex i 7 hlt (by decide) (by rw [hEi]; rfl) (by first | omega | (simp; done)) ?_
        conv => whnf
        refine slc_ex i 8 hlt (by decide) (by rw [hEi]; rfl) (by first | omega | (simp; done)) ?_
        conv => whnf
        refine slc_ex i 9 hlt (by decide) (by rw [hEi]; rfl) (by first | omega | (simp; done)) ?_
        conv => whnf
        refine slc_ex i 10 hlt (by decide) (by rw [hEi]; rfl) (by first | omega | (simp; done)) ?_
        conv => whnf
        refine ACalls.useE (tone_setU _ _ _ _ _ _ _ _ _ _ _ _ _ _ _ _) [1, 2, 3, 4] rfl (by (conv => whnf); try rfl) (by (conv => whnf); try rfl) ?_
        conv => whnf
        rw [ho]
        conv => whnf
        (rw [e2]; exact hR (i + 1, ⟨w0, w1, w2, w3, w4, w5, w6, w7 == 1⟩) _ _ _ rfl rfl ⟨hlt, ⟨q0, q1, q2, q3, q4, q5, q6⟩⟩ (by show len - (i + 1) < len - i; omega))
      | false =>
        conv => whnf
        refine Req.of ?_ ?_
        · (clear hR; simp; omega)
        conv => whnf
        refine slc_ex i 0 hlt (by decide) (by rw [hEi]; rfl) (by first | omega | (simp; done)) ?_
        conv => whnf
        rw [hK]
        conv => whnf
        refine Req.of ?_ ?_
        · (clear hR; simp; omega)
        conv => whnf
        refine slc_ex i 3 hlt (by decide) (by rw [hEi]; rfl) (by first | omega | (simp; done)) ?_
        conv => whnf
        refine slc_ex i 4 hlt (by decide) (by rw [hEi]; rfl) (by first | omega | (simp; done)) ?_
        conv => whnf
        refine slc_ex i 5 hlt (by decide) (by rw [hEi]; rfl) (by first | omega | (simp; done)) ?_
        conv => whnf
        refine slc_ex i 6 hlt (by decide) (by rw [hEi]; rfl) (by first | omega | (simp; done)) ?_
        conv => whnf
        refine slc_ex i 7 hlt (by decide) (by rw [hEi]; rfl) (by first | omega | (simp; done)) ?_
        conv => whnf
        refine slc_ex i 8 hlt (by decide) (by rw [hEi]; rfl) (by first | omega | (simp; done)) ?_
        conv => whnf
        refine slc_ex i 9 hlt (by decide) (by rw [hEi]; rfl) (by first | omega | (simp; done)) ?_
        conv => whnf
        refine slc_ex i 10 hlt (by decide) (by rw [hEi]; rfl) (by first | omega | (simp; done)) ?_
        conv => whnf
        refine ACalls.useE (tone_setU _ _ _ _ _ _ _ _ _ _ _ _ _ _ _ _) [1, 2, 3, 4] rfl (by (conv => whnf); try rfl) (by (conv => whnf); try rfl) ?_
        conv => whnf
        rw [ho]
        conv => whnf
        (rw [e2]; exact hR (i + 1, ⟨c, r, w, a, b, d, k, h⟩) _ _ _ rfl rfl ⟨hlt, ⟨hc, hr, hw, ha, hb, hd, hk⟩⟩ (by show len - (i + 1) < len - i; omega))
  · clear hR
    have hT := ts_ok (c := c) hr tk.toNat h ha hb hd hk
    obtain ⟨hTa, hTb, hTd, hTk⟩ := hT
    conv => whnf
    refine ACalls.useE (tone_wordsU _ _ _ _ _ _ _ _ ?_ ?_ ?_ ?_ ?_ ?_ ?_) [1, 2, 3, 4] rfl (by (conv => whnf); try rfl) (by (conv => whnf); try rfl) ?_
    · omega
    · omega
    · omega
    · omega
    · omega
    · omega
    · omega
    conv => whnf
    refine ACalls.useE (tone_copy _ _ _ _ _ _ _ _ ?_ ?_ ?_ ?_ ?_ ?_ ?_) [1, 2, 3, 4] rfl (by (conv => whnf); try rfl) (by (conv => whnf); try rfl) ?_
    · omega
    · omega
    · omega
    · omega
    · omega
    · omega
    · omega
    conv => whnf
    refine ACalls.useE (tone_copy _ _ _ _ _ _ _ _ ?_ ?_ ?_ ?_ ?_ ?_ ?_) [1, 2, 3, 4] rfl (by (conv => whnf); try rfl) (by (conv => whnf); try rfl) ?_
    · omega
    · omega
    · omega
    · omega
    · omega
    · omega
    · omega
    conv => whnf
    refine ACalls.useE (tone_ticked _ _ _ _ _ _ _ _ _ ?_ ?_ ?_ ?_) [6, 7, 8, 9] rfl (by (conv => whnf); try rfl) (by (conv => whnf); try rfl) ?_
    · omega
    · omega
    · omega
    · omega
    conv => whnf
    refine ACalls.useE (tone_ticked _ _ _ _ _ _ _ _ _ ?_ ?_ ?_ ?_) [10, 11, 12, 13] rfl (by (conv => whnf); try rfl) (by (conv => whnf); try rfl) ?_
    · omega
    · omega
    · omega
    · omega
    conv => whnf
    refine ACalls.useE (tone_wordsU _ _ _ _ _ _ _ _ ?_ ?_ ?_ ?_ ?_ ?_ ?_) [6, 7, 8, 9] rfl (by (conv => whnf); try rfl) (by (conv => whnf); try rfl) ?_
    · omega
    · omega
    · omega
    · (rw [etk]; omega)
    · (rw [etk]; omega)
    · (rw [etk]; omega)
    · (rw [etk]; omega)
    conv => whnf
    refine ACalls.useE (tone_wordsU _ _ _ _ _ _ _ _ ?_ ?_ ?_ ?_ ?_ ?_ ?_) [10, 11, 12, 13] rfl (by (conv => whnf); try rfl) (by (conv => whnf); try rfl) ?_
    · omega
    · omega
    · omega
    · (rw [etk]; omega)
    · (rw [etk]; omega)
    · (rw [etk]; omega)
    · (rw [etk]; omega)
    conv => whnf
    rw [etk]
    conv => whnf
    refine Bif.knT ?_ fun h0 => ?_
    · (simp; done)
    rw [h0]
    conv => whnf
    refine ACalls.useE (tone_wordsU _ _ _ _ _ _ _ _ ?_ ?_ ?_ ?_ ?_ ?_ ?_) [1, 2, 3, 4] rfl (by (conv => whnf); try rfl) (by (conv => whnf); try rfl) ?_
    · omega
    · omega
    · omega
    · omega
    · omega
    · omega
    · omega
    conv => whnf
    refine ⟨rfl, ?_⟩
    conv => whnf
    refine Bif.knT ?_ fun h1 => ?_
    · (simp; done)
    rw [h1]
    conv => whnf
    refine ACalls.useE (awake19) [] rfl (by (conv => whnf); try rfl) (by (conv => whnf); try rfl) ?_
    conv => whnf
    refine ⟨rfl, ?_⟩
    conv => whnf
    refine ⟨rfl, ?_⟩
    conv => whnf
theorem walk_ToneCopies_nil (tk : Int) (wt : (Lit.int .u8 tk).wf = true) : ACalls Try.prog 12 [.slice none 0 0, .int .u8 tk] [] fun v _ => v = .bool true := by
  have htk := wf_u8 wt
  have etk : IntKind.i64.wrap tk = tk := wrap64 (by omega) (by omega)
  have hT := ts_ok (c := 0) (r := 0) (by decide) tk.toNat (a := 0) (b := 0) (d := 0) (k := 0) false (by decide) (by decide) (by decide) (by decide)
  obtain ⟨hTa, hTb, hTd, hTk⟩ := hT
  refine ACalls.code tabOk h12 Try.func12 Try.call12 ok12 ?_
  conv => whnf
  refine ACalls.useE (tone_new) [] rfl (by (conv => whnf); try rfl) (by (conv => whnf); try rfl) ?_
  conv => whnf
  refine ALoop.run 1 ?_
  conv => whnf
  refine ACalls.useE (tone_wordsU _ _ _ _ _ _ _ _ ?_ ?_ ?_ ?_ ?_ ?_ ?_) [0, 1, 2, 3] rfl (by (conv => whnf); try rfl) (by (conv => whnf); try rfl) ?_
  · decide
  · decide
  · decide
  · decide
  · decide
  · decide
  · decide
  conv => whnf
  refine ACalls.useE (tone_copy _ _ _ _ _ _ _ _ ?_ ?_ ?_ ?_ ?_ ?_ ?_) [0, 1, 2, 3] rfl (by (conv => whnf); try rfl) (by (conv => whnf); try rfl) ?_
  · decide
  · decide
  · decide
  · decide
  · decide
  · decide
  · decide
  conv => whnf
  refine ACalls.useE (tone_copy _ _ _ _ _ _ _ _ ?_ ?_ ?_ ?_ ?_ ?_ ?_) [0, 1, 2, 3] rfl (by (conv => whnf); try rfl) (by (conv => whnf); try rfl) ?_
  · decide
  · decide
  · decide
  · decide
  · decide
  · decide
  · decide
  conv => whnf
  refine ACalls.useE (tone_ticked _ _ _ _ _ _ _ _ _ ?_ ?_ ?_ ?_) [5, 6, 7, 8] rfl (by (conv => whnf); try rfl) (by (conv => whnf); try rfl) ?_
  · decide
  · decide
  · decide
  · omega
  conv => whnf
  refine ACalls.useE (tone_ticked _ _ _ _ _ _ _ _ _ ?_ ?_ ?_ ?_) [9, 10, 11, 12] rfl (by (conv => whnf); try rfl) (by (conv => whnf); try rfl) ?_
  · decide
  · decide
  · decide
  · omega
  conv => whnf
  refine ACalls.useE (tone_wordsU _ _ _ _ _ _ _ _ ?_ ?_ ?_ ?_ ?_ ?_ ?_) [5, 6, 7, 8] rfl (by (conv => whnf); try rfl) (by (conv => whnf); try rfl) ?_
  · decide
  · decide
  · decide
  · (rw [etk]; omega)
  · (rw [etk]; omega)
  · (rw [etk]; omega)
  · (rw [etk]; omega)
  conv => whnf
  refine ACalls.useE (tone_wordsU _ _ _ _ _ _ _ _ ?_ ?_ ?_ ?_ ?_ ?_ ?_) [9, 10, 11, 12] rfl (by (conv => whnf); try rfl) (by (conv => whnf); try rfl) ?_
  · decide
  · decide
  · decide
  · (rw [etk]; omega)
  · (rw [etk]; omega)
  · (rw [etk]; omega)
  · (rw [etk]; omega)
  conv => whnf
  rw [etk]
  conv => whnf
  refine Bif.knT ?_ fun h0 => ?_
  · (simp; done)
  rw [h0]
  conv => whnf
  refine ACalls.useE (tone_wordsU _ _ _ _ _ _ _ _ ?_ ?_ ?_ ?_ ?_ ?_ ?_) [0, 1, 2, 3] rfl (by (conv => whnf); try rfl) (by (conv => whnf); try rfl) ?_
  · decide
  · decide
  · decide
  · decide
  · decide
  · decide
  · decide
  conv => whnf
  refine ⟨rfl, ?_⟩
  conv => whnf
  refine ACalls.useE (awake19) [] rfl (by (conv => whnf); try rfl) (by (conv => whnf); try rfl) ?_
  conv => whnf
  refine ⟨rfl, ?_⟩
  conv => whnf
end Go.Proofs
