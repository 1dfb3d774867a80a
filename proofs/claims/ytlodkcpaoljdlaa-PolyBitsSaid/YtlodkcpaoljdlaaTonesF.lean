/-
  Walks through the functions of the program, by contract.
-/
import Derived.Test.YtlodkcpaoljdlaaTickuF
set_option linter.all false
set_option linter.unusedVariables false
set_option linter.unusedSimpArgs false
set_option linter.unnecessarySimpa false
namespace Go.Proofs
open Go.Aw
set_option maxRecDepth 100000
set_option maxHeartbeats 8000000
/-- May these be a voice's words? -/
@[irreducible] def okW (w0 w1 w2 w3 w4 w5 w6 w7 : Int) : Bool := decide ((0 ≤ w0 ∧ w0 ≤ 15) ∧ (0 ≤ w1 ∧ w1 ≤ 31) ∧ (0 ≤ w2 ∧ w2 ≤ 15) ∧ (0 ≤ w3 ∧ w3 ≤ 15) ∧ (0 ≤ w4 ∧ w4 ≤ 31) ∧ (0 ≤ w5 ∧ w5 ≤ 511) ∧ (0 ≤ w6 ∧ w6 ≤ 95) ∧ (0 ≤ w7 ∧ w7 ≤ 1))
theorem okW_iff (w0 w1 w2 w3 w4 w5 w6 w7 : Int) : okW w0 w1 w2 w3 w4 w5 w6 w7 = true ↔ (0 ≤ w0 ∧ w0 ≤ 15) ∧ (0 ≤ w1 ∧ w1 ≤ 31) ∧ (0 ≤ w2 ∧ w2 ≤ 15) ∧ (0 ≤ w3 ∧ w3 ≤ 15) ∧ (0 ≤ w4 ∧ w4 ≤ 31) ∧ (0 ≤ w5 ∧ w5 ≤ 511) ∧ (0 ≤ w6 ∧ w6 ≤ 95) ∧ (0 ≤ w7 ∧ w7 ≤ 1) := by unfold okW; simp only [decide_eq_true_eq]
theorem okW_not {w0 w1 w2 w3 w4 w5 w6 w7 : Int} (h : okW w0 w1 w2 w3 w4 w5 w6 w7 = false) : ¬ ((0 ≤ w0 ∧ w0 ≤ 15) ∧ (0 ≤ w1 ∧ w1 ≤ 31) ∧ (0 ≤ w2 ∧ w2 ≤ 15) ∧ (0 ≤ w3 ∧ w3 ≤ 15) ∧ (0 ≤ w4 ∧ w4 ≤ 31) ∧ (0 ≤ w5 ∧ w5 ≤ 511) ∧ (0 ≤ w6 ∧ w6 ≤ 95) ∧ (0 ≤ w7 ∧ w7 ≤ 1)) := fun hc => by rw [(okW_iff ..).2 hc] at h; cases h
theorem tone_set_ok (c r w a b d k : Int) (h : Bool) (w0 w1 w2 w3 w4 w5 w6 w7 : Int) (hW : okW w0 w1 w2 w3 w4 w5 w6 w7 = true) : ACalls Try.prog 40 [.pointer (some ⟨0, 0, none⟩), .agg #[.int .i64 w0, .int .i64 w1, .int .i64 w2, .int .i64 w3, .int .i64 w4, .int .i64 w5, .int .i64 w6, .int .i64 w7]] [.cells [.int .u8 c, .int .u8 r, .int .u8 w, .pointer (some ⟨1, 0, none⟩), .pointer (some ⟨2, 0, none⟩), .pointer (some ⟨3, 0, none⟩), .int .i64 k, .bool h] 87, .cells [.int .u8 a, .int .i64 4, .int .i64 1] 76, .cells [.int .u8 b, .int .i64 5, .int .i64 2] 76, .cells [.int .u16 d, .int .i64 9, .int .i64 4] 81] fun v H => v = .int .i64 0 ∧ H = [.cells [.int .u8 w0, .int .u8 w1, .int .u8 w2, .pointer (some ⟨1, 0, none⟩), .pointer (some ⟨2, 0, none⟩), .pointer (some ⟨3, 0, none⟩), .int .i64 w6, .bool (w7 == 1)] 87, .cells [.int .u8 w3, .int .i64 4, .int .i64 1] 76, .cells [.int .u8 w4, .int .i64 5, .int .i64 2] 76, .cells [.int .u16 w5, .int .i64 9, .int .i64 4] 81] := by
  have h' := (okW_iff ..).1 hW
  obtain ⟨c0, c1, c2, c3, c4, c5, c6, c7⟩ := h'
  have x0 : IntKind.u8.wrap w0 = w0 := wrap8 (by omega) (by omega)
  have x1 : IntKind.u8.wrap w1 = w1 := wrap8 (by omega) (by omega)
  have x2 : IntKind.u8.wrap w2 = w2 := wrap8 (by omega) (by omega)
  have x3 : IntKind.u8.wrap w3 = w3 := wrap8 (by omega) (by omega)
  have x4 : IntKind.u8.wrap w4 = w4 := wrap8 (by omega) (by omega)
  have x5 : IntKind.u16.wrap w5 = w5 := wrap16 (by omega) (by omega)
  have p4 : (2 : Int) ^ (4 : Int).toNat = 16 := by decide
  have p5 : (2 : Int) ^ (5 : Int).toNat = 32 := by decide
  have p9 : (2 : Int) ^ (9 : Int).toNat = 512 := by decide
  refine ACalls.code tabOk h40 Try.func40 Try.call40 ok40 ?_
  conv => whnf
  refine ALoop.run 9 ?_
  conv => whnf
  refine Bif.knF ?_ fun h0 => ?_
  · (simp; omega)
  rw [h0]
  conv => whnf
  refine Bif.knF ?_ fun h1 => ?_
  · (simp; omega)
  rw [h1]
  conv => whnf
  refine Bif.knF ?_ fun h2 => ?_
  · (simp; omega)
  rw [h2]
  conv => whnf
  refine Bif.knF ?_ fun h3 => ?_
  · (simp; omega)
  rw [h3]
  conv => whnf
  refine Bif.knF ?_ fun h4 => ?_
  · (simp; omega)
  rw [h4]
  conv => whnf
  refine Bif.knF ?_ fun h5 => ?_
  · (simp; omega)
  rw [h5]
  conv => whnf
  refine Bif.knF ?_ fun h6 => ?_
  · (simp; omega)
  rw [h6]
  conv => whnf
  refine Bif.knF ?_ fun h7 => ?_
  · (simp; omega)
  rw [h7]
  conv => whnf
  refine Bif.knF ?_ fun h8 => ?_
  · (simp; omega)
  rw [h8]
  conv => whnf
  refine Bif.knF ?_ fun h9 => ?_
  · (simp; omega)
  rw [h9]
  conv => whnf
  refine Bif.knF ?_ fun h10 => ?_
  · (simp; omega)
  rw [h10]
  conv => whnf
  refine Bif.knF ?_ fun h11 => ?_
  · (simp; omega)
  rw [h11]
  conv => whnf
  refine Bif.knF ?_ fun h12 => ?_
  · (simp; omega)
  rw [h12]
  conv => whnf
  refine Bif.knF ?_ fun h13 => ?_
  · (simp; omega)
  rw [h13]
  conv => whnf
  refine Bif.knF ?_ fun h14 => ?_
  · (simp; omega)
  rw [h14]
  conv => whnf
  refine Bif.knF ?_ fun h15 => ?_
  · (simp; omega)
  rw [h15]
  conv => whnf
  refine ⟨rfl, ?_⟩
  conv => whnf
  refine ⟨rfl, ?_⟩
  conv => whnf
  refine ⟨rfl, ?_⟩
  conv => whnf
  refine ACalls.useE (poly8_set _ _ _ _ ?_ ?_ ?_) [1] rfl (by (conv => whnf); try rfl) (by (conv => whnf); try rfl) ?_
  · decide
  · omega
  · omega
  conv => whnf
  refine ACalls.useE (poly8_set _ _ _ _ ?_ ?_ ?_) [2] rfl (by (conv => whnf); try rfl) (by (conv => whnf); try rfl) ?_
  · decide
  · omega
  · omega
  conv => whnf
  refine ACalls.useE (poly16_set _ _ _ _ ?_ ?_ ?_) [3] rfl (by (conv => whnf); try rfl) (by (conv => whnf); try rfl) ?_
  · decide
  · omega
  · omega
  conv => whnf
  refine ⟨rfl, ?_⟩
  conv => whnf
  (simp; omega)
theorem tone_set_bad (c r w a b d k : Int) (h : Bool) (w0 w1 w2 w3 w4 w5 w6 w7 : Int) (hW : okW w0 w1 w2 w3 w4 w5 w6 w7 = false) : ACalls Try.prog 40 [.pointer (some ⟨0, 0, none⟩), .agg #[.int .i64 w0, .int .i64 w1, .int .i64 w2, .int .i64 w3, .int .i64 w4, .int .i64 w5, .int .i64 w6, .int .i64 w7]] [.cells [.int .u8 c, .int .u8 r, .int .u8 w, .pointer (some ⟨1, 0, none⟩), .pointer (some ⟨2, 0, none⟩), .pointer (some ⟨3, 0, none⟩), .int .i64 k, .bool h] 87, .cells [.int .u8 a, .int .i64 4, .int .i64 1] 76, .cells [.int .u8 b, .int .i64 5, .int .i64 2] 76, .cells [.int .u16 d, .int .i64 9, .int .i64 4] 81] fun v H => v = .int .i64 6 ∧ H = [.cells [.int .u8 c, .int .u8 r, .int .u8 w, .pointer (some ⟨1, 0, none⟩), .pointer (some ⟨2, 0, none⟩), .pointer (some ⟨3, 0, none⟩), .int .i64 k, .bool h] 87, .cells [.int .u8 a, .int .i64 4, .int .i64 1] 76, .cells [.int .u8 b, .int .i64 5, .int .i64 2] 76, .cells [.int .u16 d, .int .i64 9, .int .i64 4] 81] := by
  have h' := okW_not hW
  refine ACalls.code tabOk h40 Try.func40 Try.call40 ok40 ?_
  conv => whnf
  refine ALoop.run 9 ?_
  conv => whnf
  refine Bif.of (fun h0 => ?_) fun h0 => ?_
  · rw [h0]
    conv => whnf
    exact ⟨rfl, rfl⟩
  · rw [h0]
    conv => whnf
    refine Bif.of (fun h1 => ?_) fun h1 => ?_
    · rw [h1]
      conv => whnf
      exact ⟨rfl, rfl⟩
    · rw [h1]
      conv => whnf
      refine Bif.of (fun h2 => ?_) fun h2 => ?_
      · rw [h2]
        conv => whnf
        exact ⟨rfl, rfl⟩
      · rw [h2]
        conv => whnf
        refine Bif.of (fun h3 => ?_) fun h3 => ?_
        · rw [h3]
          conv => whnf
          exact ⟨rfl, rfl⟩
        · rw [h3]
          conv => whnf
          refine Bif.of (fun h4 => ?_) fun h4 => ?_
          · rw [h4]
            conv => whnf
            exact ⟨rfl, rfl⟩
          · rw [h4]
            conv => whnf
            refine Bif.of (fun h5 => ?_) fun h5 => ?_
            · rw [h5]
              conv => whnf
              exact ⟨rfl, rfl⟩
            · rw [h5]
              conv => whnf
              refine Bif.of (fun h6 => ?_) fun h6 => ?_
              · rw [h6]
                conv => whnf
                exact ⟨rfl, rfl⟩
              · rw [h6]
                conv => whnf
                refine Bif.of (fun h7 => ?_) fun h7 => ?_
                · rw [h7]
                  conv => whnf
                  exact ⟨rfl, rfl⟩
                · rw [h7]
                  conv => whnf
                  refine Bif.of (fun h8 => ?_) fun h8 => ?_
                  · rw [h8]
                    conv => whnf
                    exact ⟨rfl, rfl⟩
                  · rw [h8]
                    conv => whnf
                    refine Bif.of (fun h9 => ?_) fun h9 => ?_
                    · rw [h9]
                      conv => whnf
                      exact ⟨rfl, rfl⟩
                    · rw [h9]
                      conv => whnf
                      refine Bif.of (fun h10 => ?_) fun h10 => ?_
                      · rw [h10]
                        conv => whnf
                        exact ⟨rfl, rfl⟩
                      · rw [h10]
                        conv => whnf
                        refine Bif.of (fun h11 => ?_) fun h11 => ?_
                        · rw [h11]
                          conv => whnf
                          exact ⟨rfl, rfl⟩
                        · rw [h11]
                          conv => whnf
                          refine Bif.of (fun h12 => ?_) fun h12 => ?_
                          · rw [h12]
                            conv => whnf
                            exact ⟨rfl, rfl⟩
                          · rw [h12]
                            conv => whnf
                            refine Bif.of (fun h13 => ?_) fun h13 => ?_
                            · rw [h13]
                              conv => whnf
                              exact ⟨rfl, rfl⟩
                            · rw [h13]
                              conv => whnf
                              refine Bif.of (fun h14 => ?_) fun h14 => ?_
                              · rw [h14]
                                conv => whnf
                                exact ⟨rfl, rfl⟩
                              · rw [h14]
                                conv => whnf
                                refine Bif.of (fun h15 => ?_) fun h15 => ?_
                                · rw [h15]
                                  conv => whnf
                                  exact ⟨rfl, rfl⟩
                                · rw [h15]
                                  conv => whnf
                                  (exfalso; clear hW; simp only [beq_iff_eq, beq_eq_false_iff_ne, bne_iff_ne, bne_eq_false_iff_eq, ne_eq, decide_eq_true_eq, decide_eq_false_iff_not] at *; omega)
theorem tone_control (c r w a b d k : Int) (h : Bool) (n : Int) : ACalls Try.prog 33 [.pointer (some ⟨0, 0, none⟩), .int .u8 n] [.cells [.int .u8 c, .int .u8 r, .int .u8 w, .pointer (some ⟨1, 0, none⟩), .pointer (some ⟨2, 0, none⟩), .pointer (some ⟨3, 0, none⟩), .int .i64 k, .bool h] 87, .cells [.int .u8 a, .int .i64 4, .int .i64 1] 76, .cells [.int .u8 b, .int .i64 5, .int .i64 2] 76, .cells [.int .u16 d, .int .i64 9, .int .i64 4] 81] fun v H => v = .tuple #[] ∧ H = [.cells [.int .u8 (n % 16), .int .u8 r, .int .u8 w, .pointer (some ⟨1, 0, none⟩), .pointer (some ⟨2, 0, none⟩), .pointer (some ⟨3, 0, none⟩), .int .i64 k, .bool h] 87, .cells [.int .u8 a, .int .i64 4, .int .i64 1] 76, .cells [.int .u8 b, .int .i64 5, .int .i64 2] 76, .cells [.int .u16 d, .int .i64 9, .int .i64 4] 81] := by
  refine ACalls.code tabOk h33 Try.func33 Try.call33 ok33 ?_
  conv => whnf
  refine ACalls.code tabOk h55 Try.func55 Try.call55 ok55 ?_
  conv => whnf
  refine ACalls.code tabOk h56 Try.func56 Try.call56 ok56 ?_
  conv => whnf
  (rw [and15u]; exact ⟨rfl, rfl⟩)
theorem tone_rate (c r w a b d k : Int) (h : Bool) (n : Int) : ACalls Try.prog 34 [.pointer (some ⟨0, 0, none⟩), .int .u8 n] [.cells [.int .u8 c, .int .u8 r, .int .u8 w, .pointer (some ⟨1, 0, none⟩), .pointer (some ⟨2, 0, none⟩), .pointer (some ⟨3, 0, none⟩), .int .i64 k, .bool h] 87, .cells [.int .u8 a, .int .i64 4, .int .i64 1] 76, .cells [.int .u8 b, .int .i64 5, .int .i64 2] 76, .cells [.int .u16 d, .int .i64 9, .int .i64 4] 81] fun v H => v = .tuple #[] ∧ H = [.cells [.int .u8 c, .int .u8 (n % 32), .int .u8 w, .pointer (some ⟨1, 0, none⟩), .pointer (some ⟨2, 0, none⟩), .pointer (some ⟨3, 0, none⟩), .int .i64 k, .bool h] 87, .cells [.int .u8 a, .int .i64 4, .int .i64 1] 76, .cells [.int .u8 b, .int .i64 5, .int .i64 2] 76, .cells [.int .u16 d, .int .i64 9, .int .i64 4] 81] := by
  have e : bits .and .u8 n 31 = n % 32 := and_mask .u8 n 5 (by decide)
  refine ACalls.code tabOk h34 Try.func34 Try.call34 ok34 ?_
  conv => whnf
  refine ACalls.code tabOk h55 Try.func55 Try.call55 ok55 ?_
  conv => whnf
  refine ACalls.code tabOk h57 Try.func57 Try.call57 ok57 ?_
  conv => whnf
  (rw [e]; exact ⟨rfl, rfl⟩)
theorem tone_volume (c r w a b d k : Int) (h : Bool) (n : Int) : ACalls Try.prog 35 [.pointer (some ⟨0, 0, none⟩), .int .u8 n] [.cells [.int .u8 c, .int .u8 r, .int .u8 w, .pointer (some ⟨1, 0, none⟩), .pointer (some ⟨2, 0, none⟩), .pointer (some ⟨3, 0, none⟩), .int .i64 k, .bool h] 87, .cells [.int .u8 a, .int .i64 4, .int .i64 1] 76, .cells [.int .u8 b, .int .i64 5, .int .i64 2] 76, .cells [.int .u16 d, .int .i64 9, .int .i64 4] 81] fun v H => v = .tuple #[] ∧ H = [.cells [.int .u8 c, .int .u8 r, .int .u8 (n % 16), .pointer (some ⟨1, 0, none⟩), .pointer (some ⟨2, 0, none⟩), .pointer (some ⟨3, 0, none⟩), .int .i64 k, .bool h] 87, .cells [.int .u8 a, .int .i64 4, .int .i64 1] 76, .cells [.int .u8 b, .int .i64 5, .int .i64 2] 76, .cells [.int .u16 d, .int .i64 9, .int .i64 4] 81] := by
  refine ACalls.code tabOk h35 Try.func35 Try.call35 ok35 ?_
  conv => whnf
  refine ACalls.code tabOk h55 Try.func55 Try.call55 ok55 ?_
  conv => whnf
  refine ACalls.code tabOk h58 Try.func58 Try.call58 ok58 ?_
  conv => whnf
  (rw [and15u]; exact ⟨rfl, rfl⟩)
def one2 (b : Bool) : Int := bif b then 1 else 0
theorem one2_eq (b : Bool) : (one2 b == 1) = b := by cases b <;> rfl
theorem one2_le (b : Bool) : 0 ≤ one2 b ∧ one2 b ≤ 1 := by cases b <;> decide
theorem tone_wordsU (c r w a b d k : Int) (h : Bool) (hc : 0 ≤ c ∧ c ≤ 15) (hr : 0 ≤ r ∧ r ≤ 31) (hw : 0 ≤ w ∧ w ≤ 15) (ha : 0 ≤ a ∧ a ≤ 15) (hb : 0 ≤ b ∧ b ≤ 31) (hd : 0 ≤ d ∧ d ≤ 511) (hk : 0 ≤ k ∧ k ≤ 95) : ACalls Try.prog 37 [.pointer (some ⟨0, 0, none⟩)] [.cells [.int .u8 c, .int .u8 r, .int .u8 w, .pointer (some ⟨1, 0, none⟩), .pointer (some ⟨2, 0, none⟩), .pointer (some ⟨3, 0, none⟩), .int .i64 k, .bool h] 87, .cells [.int .u8 a, .int .i64 4, .int .i64 1] 76, .cells [.int .u8 b, .int .i64 5, .int .i64 2] 76, .cells [.int .u16 d, .int .i64 9, .int .i64 4] 81] fun v H => v = .agg #[.int .i64 c, .int .i64 r, .int .i64 w, .int .i64 a, .int .i64 b, .int .i64 d, .int .i64 k, .int .i64 (one2 h)] ∧ H = [.cells [.int .u8 c, .int .u8 r, .int .u8 w, .pointer (some ⟨1, 0, none⟩), .pointer (some ⟨2, 0, none⟩), .pointer (some ⟨3, 0, none⟩), .int .i64 k, .bool h] 87, .cells [.int .u8 a, .int .i64 4, .int .i64 1] 76, .cells [.int .u8 b, .int .i64 5, .int .i64 2] 76, .cells [.int .u16 d, .int .i64 9, .int .i64 4] 81] := by
  have := tone_words c r w a b d k h
  rw [wrap64 (n := c) (by omega) (by omega), wrap64 (n := r) (by omega) (by omega), wrap64 (n := w) (by omega) (by omega), wrap64 (n := a) (by omega) (by omega), wrap64 (n := b) (by omega) (by omega), wrap64 (n := d) (by omega) (by omega)] at this
  exact this
theorem tone_copy (c r w a b d k : Int) (h : Bool) (hc : 0 ≤ c ∧ c ≤ 15) (hr : 0 ≤ r ∧ r ≤ 31) (hw : 0 ≤ w ∧ w ≤ 15) (ha : 0 ≤ a ∧ a ≤ 15) (hb : 0 ≤ b ∧ b ≤ 31) (hd : 0 ≤ d ∧ d ≤ 511) (hk : 0 ≤ k ∧ k ≤ 95) : ACalls Try.prog 44 [.pointer (some ⟨0, 0, none⟩)] [.cells [.int .u8 c, .int .u8 r, .int .u8 w, .pointer (some ⟨1, 0, none⟩), .pointer (some ⟨2, 0, none⟩), .pointer (some ⟨3, 0, none⟩), .int .i64 k, .bool h] 87, .cells [.int .u8 a, .int .i64 4, .int .i64 1] 76, .cells [.int .u8 b, .int .i64 5, .int .i64 2] 76, .cells [.int .u16 d, .int .i64 9, .int .i64 4] 81] fun v H => v = .pointer (some ⟨4, 0, none⟩) ∧ H = [.cells [.int .u8 c, .int .u8 r, .int .u8 w, .pointer (some ⟨1, 0, none⟩), .pointer (some ⟨2, 0, none⟩), .pointer (some ⟨3, 0, none⟩), .int .i64 k, .bool h] 87, .cells [.int .u8 a, .int .i64 4, .int .i64 1] 76, .cells [.int .u8 b, .int .i64 5, .int .i64 2] 76, .cells [.int .u16 d, .int .i64 9, .int .i64 4] 81, .cells [.int .u8 c, .int .u8 r, .int .u8 w, .pointer (some ⟨5, 0, none⟩), .pointer (some ⟨6, 0, none⟩), .pointer (some ⟨7, 0, none⟩), .int .i64 k, .bool h] 87, .cells [.int .u8 a, .int .i64 4, .int .i64 1] 76, .cells [.int .u8 b, .int .i64 5, .int .i64 2] 76, .cells [.int .u16 d, .int .i64 9, .int .i64 4] 81] := by
  have hW : okW c r w a b d k (one2 h) = true := (okW_iff ..).2 ⟨hc, hr, hw, ha, hb, hd, hk, one2_le h⟩
  refine ACalls.codeN tabOk h44 Try.func44 Try.call44 ok44 [0, 1, 2, 3, 4, 5, 6, 7] ?_
  conv => whnf
  refine ACalls.useE (tone_new) [] rfl (by (conv => whnf); try rfl) (by (conv => whnf); try rfl) ?_
  conv => whnf
  refine ACalls.useE (tone_wordsU _ _ _ _ _ _ _ _ ?_ ?_ ?_ ?_ ?_ ?_ ?_) [0, 1, 2, 3] rfl (by (conv => whnf); try rfl) (by (conv => whnf); try rfl) ?_
  · omega
  · omega
  · omega
  · omega
  · omega
  · omega
  · omega
  conv => whnf
  refine ACalls.useE (tone_set_ok _ _ _ _ _ _ _ _ _ _ _ _ _ _ _ _ ?_) [4, 5, 6, 7] rfl (by (conv => whnf); try rfl) (by (conv => whnf); try rfl) ?_
  · omega
  conv => whnf
  (rw [one2_eq]; exact ⟨rfl, rfl⟩)
/-- The voice's inner state, in bounds. -/
structure VT.Ok (s : VT) : Prop where
  a : 0 ≤ s.a ∧ s.a ≤ 15
  b : 0 ≤ s.b ∧ s.b ≤ 31
  d : 0 ≤ s.d ∧ s.d ≤ 511
  k : 0 ≤ s.k ∧ s.k ≤ 95
theorem nx4_le {n : Int} (h : 0 ≤ n ∧ n ≤ 15) : 0 ≤ nx8 4 1 n ∧ nx8 4 1 n ≤ 15 := by
  obtain ⟨j, rfl⟩ : ∃ j : Nat, n = j := ⟨n.toNat, by omega⟩
  have key : ∀ j : Nat, j < 16 → 0 ≤ nx8 4 1 (j : Int) ∧ nx8 4 1 (j : Int) ≤ 15 := by decide +kernel
  exact key j (by omega)
theorem nx5_le {n : Int} (h : 0 ≤ n ∧ n ≤ 31) : 0 ≤ nx8 5 2 n ∧ nx8 5 2 n ≤ 31 := by
  obtain ⟨j, rfl⟩ : ∃ j : Nat, n = j := ⟨n.toNat, by omega⟩
  have key : ∀ j : Nat, j < 32 → 0 ≤ nx8 5 2 (j : Int) ∧ nx8 5 2 (j : Int) ≤ 31 := by decide +kernel
  exact key j (by omega)
theorem nx9_le {n : Int} (h : 0 ≤ n ∧ n ≤ 511) : 0 ≤ nx16 9 4 n ∧ nx16 9 4 n ≤ 511 := by
  obtain ⟨j, rfl⟩ : ∃ j : Nat, n = j := ⟨n.toNat, by omega⟩
  have key : ∀ j : Nat, j < 512 → 0 ≤ nx16 9 4 (j : Int) ∧ nx16 9 4 (j : Int) ≤ 511 := by decide +kernel
  exact key j (by omega)
theorem VT.Ok.turn {c : Int} {s : VT} (h : s.Ok) : (VT.turn c s).Ok := by
  obtain ⟨ha, hb, hd, hk⟩ := h
  unfold VT.turn
  cases c == 4 || c == 5 || c == 6 || c == 7 || c == 12 || c == 13 || c == 14 || c == 15
  · cases c == 8
    · exact ⟨nx4_le ha, hb, hd, hk⟩
    · exact ⟨ha, hb, nx9_le hd, hk⟩
  · exact ⟨ha, hb, hd, hk⟩
theorem VT.Ok.beat {c : Int} {s : VT} (h : s.Ok) : (VT.beatG c s).Ok := by
  obtain ⟨ha, hb, hd, hk⟩ := h
  have h2 : VT.Ok { s with b := nx8 5 2 s.b } := ⟨ha, nx5_le hb, hd, hk⟩
  unfold VT.beatG
  cases (c == 2 || c == 6 || c == 10 || c == 14) && !(slow5 (nx8 5 2 s.b))
  · cases (c == 3 || c == 7 || c == 11 || c == 15) && !(lb8 s.b)
    · cases c == 9 || c == 10 || c == 11
      · exact h2.turn
      · exact ⟨h2.a, h2.b, h2.d, h2.k⟩
    · exact h2
  · exact h2
theorem VT.Ok.tick {c r : Int} (hr : 0 ≤ r ∧ r ≤ 31) {s : VT} (h : s.Ok) : (s.tickG c (lenG c r)).Ok := by
  have hk := VT.ok_tickG (c := c) hr h.k
  obtain ⟨ha, hb, hd, hk0⟩ := h
  unfold VT.tickG at hk ⊢
  split
  · exact VT.Ok.beat ⟨ha, hb, hd, ⟨Int.le_refl _, by show (0 : Int) ≤ 95; decide⟩⟩
  · rename_i hn
    rw [if_neg hn] at hk
    exact ⟨ha, hb, hd, hk⟩
theorem VT.Ok.ticks {c r : Int} (hr : 0 ≤ r ∧ r ≤ 31) {s : VT} (h : s.Ok) : ∀ n, (VT.ticksG c r n s).Ok
  | 0 => h
  | n + 1 => (VT.Ok.ticks hr h n).tick hr
theorem ts_ok {c r : Int} (hr : 0 ≤ r ∧ r ≤ 31) (n : Nat) {a b d k : Int} (h : Bool) (ha : 0 ≤ a ∧ a ≤ 15) (hb : 0 ≤ b ∧ b ≤ 31) (hd : 0 ≤ d ∧ d ≤ 511) (hk : 0 ≤ k ∧ k ≤ 95) :
    (0 ≤ tsA c r n a b d k h ∧ tsA c r n a b d k h ≤ 15) ∧ (0 ≤ tsB c r n a b d k h ∧ tsB c r n a b d k h ≤ 31) ∧ (0 ≤ tsD c r n a b d k h ∧ tsD c r n a b d k h ≤ 511) ∧ (0 ≤ tsK c r n a b d k h ∧ tsK c r n a b d k h ≤ 95) := by
  have := VT.Ok.ticks (c := c) hr (s := ⟨a, b, d, k, h⟩) ⟨ha, hb, hd, hk⟩ n
  unfold tsA tsB tsD tsK
  exact ⟨this.a, this.b, this.d, this.k⟩
end Go.Proofs
