/-
  Walks through the functions of the program, by contract.
-/
import Derived.Test.YtimihamgemboeaaMrefF
set_option linter.all false
set_option linter.unusedVariables false
set_option linter.unusedSimpArgs false
set_option linter.unnecessarySimpa false
namespace Go.Proofs
open Go.Aw
set_option maxRecDepth 100000
set_option maxHeartbeats 4000000

def okM (w0 w1 w2 : Int) : Bool := (decide (w0 = 16) && decide (w1 = 0) && decide (w2 = 0)) || (decide (0 ≤ w0) && decide (w0 < 16) && decide (0 ≤ w1) && decide (w1 ≤ 3) && decide (0 ≤ w2) && decide (w2 ≤ 31))
theorem okM_iff (w0 w1 w2 : Int) : okM w0 w1 w2 = true ↔ (w0 = 16 ∧ w1 = 0 ∧ w2 = 0) ∨ (0 ≤ w0 ∧ w0 < 16 ∧ 0 ≤ w1 ∧ w1 ≤ 3 ∧ 0 ≤ w2 ∧ w2 ≤ 31) := by
  unfold okM; simp; omega
def bitI (w k : Int) : Bool := decide (w / k % 2 = 1)
def MS.of (w0 w1 w2 : Int) : MS := ⟨w0, w1, bitI w2 1, bitI w2 2, bitI w2 4, bitI w2 8, bitI w2 16⟩
theorem enc_bits (w : Int) (h : 0 ≤ w ∧ w ≤ 31) : enc5 (bitI w 1) (bitI w 2) (bitI w 4) (bitI w 8) (bitI w 16) = w := by
  obtain ⟨j, rfl⟩ : ∃ j : Nat, w = j := ⟨w.toNat, by omega⟩
  have hj : j < 32 := by omega
  clear h
  unfold enc5
  revert hj; revert j; decide
theorem enc5_bd (a b c d e : Bool) : 0 ≤ enc5 a b c d e ∧ enc5 a b c d e ≤ 31 := by unfold enc5; cases a <;> cases b <;> cases c <;> cases d <;> cases e <;> decide
def MS.cells (s : MS) : Value := .agg #[.int .i64 s.c, .int .i64 s.g, .bool s.m0, .bool s.m1, .bool s.m2, .bool s.m3, .bool s.m4]
def MS.words (s : MS) : Value := .agg #[.int .i64 s.c, .int .i64 s.g, .int .i64 (enc5 s.m0 s.m1 s.m2 s.m3 s.m4)]

theorem motion_set_ok (c g m w0 w1 w2 : Int) (h : okM w0 w1 w2 = true) : ACalls Try.prog 18 [.pointer (some ⟨0, 0, none⟩), .agg #[.int .i64 w0, .int .i64 w1, .int .i64 w2]] [.cells [.int .i64 c, .int .i64 g, .int .u8 m] 54]
    fun r H => r = .int .i64 0 ∧ H = [(MS.of w0 w1 w2).blk] := by
  have h' := (okM_iff _ _ _).1 h
  have e : enc5 (bitI w2 1) (bitI w2 2) (bitI w2 4) (bitI w2 8) (bitI w2 16) = w2 := enc_bits w2 (by omega)
  have ew : IntKind.u8.wrap w2 = w2 := wrap8 (by omega) (by omega)
  rcases h' with h' | h'
  · obtain ⟨rfl, rfl, rfl⟩ := h'
    refine ACalls.code tabOk h18 Try.func18 Try.call18 ok18 ?_
    conv => whnf
    (exact ⟨rfl, by simp [MS.blk, MS.of, e, ew]⟩)
  · refine ACalls.code tabOk h18 Try.func18 Try.call18 ok18 ?_
    conv => whnf
    refine Bif.knF ?_ fun h0 => ?_
    · (simp; omega)
    rw [h0]
    conv => whnf
    refine Bif.knF ?_ fun h1 => ?_
    · (simp; omega)
    rw [h1]
    conv => whnf
    refine Bif.knF ?_ fun h2 => ?_
    · (simp; omega)
    rw [h2]
    conv => whnf
    refine Bif.knF ?_ fun h3 => ?_
    · (simp; omega)
    rw [h3]
    conv => whnf
    refine Bif.knF ?_ fun h4 => ?_
    · (simp; omega)
    rw [h4]
    conv => whnf
    refine Bif.knF ?_ fun h5 => ?_
    · (simp; omega)
    rw [h5]
    conv => whnf
    refine Bif.knF ?_ fun h6 => ?_
    · (simp; omega)
    rw [h6]
    conv => whnf
    (exact ⟨rfl, by simp [MS.blk, MS.of, e, ew]⟩)
theorem motion_set_bad (c g m w0 w1 w2 : Int) (h : okM w0 w1 w2 = false) : ACalls Try.prog 18 [.pointer (some ⟨0, 0, none⟩), .agg #[.int .i64 w0, .int .i64 w1, .int .i64 w2]] [.cells [.int .i64 c, .int .i64 g, .int .u8 m] 54]
    fun r H => r = .int .i64 6 ∧ H = [.cells [.int .i64 c, .int .i64 g, .int .u8 m] 54] := by
  have h' : ¬ ((w0 = 16 ∧ w1 = 0 ∧ w2 = 0) ∨ (0 ≤ w0 ∧ w0 < 16 ∧ 0 ≤ w1 ∧ w1 ≤ 3 ∧ 0 ≤ w2 ∧ w2 ≤ 31)) := fun k => by rw [(okM_iff _ _ _).2 k] at h; cases h
  refine ACalls.code tabOk h18 Try.func18 Try.call18 ok18 ?_
  conv => whnf
  refine Bif.of (fun h0 => ?_) fun h0 => ?_
  · rw [h0]
    conv => whnf
    exact ⟨rfl, rfl⟩
  · rw [h0]
    conv => whnf
    refine Bif.of (fun h1 => ?_) fun h1 => ?_
    · rw [h1]
      conv => whnf
      exact ⟨rfl, rfl⟩
    · rw [h1]
      conv => whnf
      refine Bif.of (fun h2 => ?_) fun h2 => ?_
      · rw [h2]
        conv => whnf
        exact ⟨rfl, rfl⟩
      · rw [h2]
        conv => whnf
        refine Bif.of (fun h3 => ?_) fun h3 => ?_
        · rw [h3]
          conv => whnf
          exact ⟨rfl, rfl⟩
        · rw [h3]
          conv => whnf
          refine Bif.of (fun h4 => ?_) fun h4 => ?_
          · rw [h4]
            conv => whnf
            exact ⟨rfl, rfl⟩
          · rw [h4]
            conv => whnf
            refine Bif.of (fun h5 => ?_) fun h5 => ?_
            · rw [h5]
              conv => whnf
              exact ⟨rfl, rfl⟩
            · rw [h5]
              conv => whnf
              refine Bif.of (fun h6 => ?_) fun h6 => ?_
              · rw [h6]
                conv => whnf
                refine Bif.of (fun h7 => ?_) fun h7 => ?_
                · rw [h7]
                  conv => whnf
                  exact ⟨rfl, rfl⟩
                · rw [h7]
                  conv => whnf
                  refine Bif.of (fun h8 => ?_) fun h8 => ?_
                  · rw [h8]
                    conv => whnf
                    exact ⟨rfl, rfl⟩
                  · rw [h8]
                    conv => whnf
                    (exfalso; simp at *; omega)
              · rw [h6]
                conv => whnf
                (exfalso; simp at *; omega)
theorem motion_words (c g : Int) (m0 m1 m2 m3 m4 : Bool) : ACalls Try.prog 22 [.pointer (some ⟨0, 0, none⟩)] [.cells [.int .i64 c, .int .i64 g, .int .u8 (enc5 m0 m1 m2 m3 m4)] 54]
    fun r H => r = MS.words ⟨c, g, m0, m1, m2, m3, m4⟩ ∧ H = [.cells [.int .i64 c, .int .i64 g, .int .u8 (enc5 m0 m1 m2 m3 m4)] 54] := by
  have hb := enc5_bd m0 m1 m2 m3 m4
  have ew : IntKind.i64.wrap (enc5 m0 m1 m2 m3 m4) = enc5 m0 m1 m2 m3 m4 := wrap64 (by omega) (by omega)
  refine ACalls.code tabOk h22 Try.func22 Try.call22 ok22 ?_
  conv => whnf
  (rw [ew]; exact ⟨rfl, rfl⟩)
theorem motion_copy (c g m : Int) : ACalls Try.prog 24 [.pointer (some ⟨0, 0, none⟩)] [.cells [.int .i64 c, .int .i64 g, .int .u8 m] 54]
    fun r H => r = .pointer (some ⟨1, 0, none⟩) ∧ H = [.cells [.int .i64 c, .int .i64 g, .int .u8 m] 54, .cells [.int .i64 c, .int .i64 g, .int .u8 m] 54] := by
  refine ACalls.codeN tabOk h24 Try.func24 Try.call24 ok24 [0, 1] ?_
  conv => whnf
  exact ⟨rfl, rfl⟩

theorem ref17_new : ACalls Try.prog 16 [] [] fun r H => r = MS.cells ⟨16, 0, false, false, false, false, false⟩ ∧ H = [] := by
  refine ACalls.code tabOk h16 Try.func16 Try.call16 ok16 ?_
  conv => whnf
  exact ⟨rfl, rfl⟩
theorem ref17_strobe : ACalls Try.prog 17 [] [] fun r H => r = MS.cells ⟨0, 0, true, true, true, true, true⟩ ∧ H = [] := by
  refine ACalls.code tabOk h17 Try.func17 Try.call17 ok17 ?_
  conv => whnf
  exact ⟨rfl, rfl⟩
theorem ref17_right (w0 w1 w2 : Int) : ACalls Try.prog 19 [.agg #[.int .i64 w0, .int .i64 w1, .int .i64 w2]] [] fun r H => r = .bool (okM w0 w1 w2) ∧ H = [] := by
  cases h : okM w0 w1 w2 with
  | true =>
    have h' := (okM_iff _ _ _).1 h
    rcases h' with h' | h'
    · obtain ⟨rfl, rfl, rfl⟩ := h'
      refine ACalls.code tabOk h19 Try.func19 Try.call19 ok19 ?_
      conv => whnf
      exact ⟨rfl, rfl⟩
    · have k : (w0 == 16) = false := by simp; omega
      have k2 : decide (w2 ≤ 31) = true := by simp; omega
      refine ACalls.code tabOk h19 Try.func19 Try.call19 ok19 ?_
      conv => whnf
      refine Bif.knF ?_ fun h0 => ?_
      · with_reducible assumption
      rw [h0]
      conv => whnf
      refine Bif.knT ?_ fun h1 => ?_
      · (simp; omega)
      rw [h1]
      conv => whnf
      refine Bif.knT ?_ fun h2 => ?_
      · (simp; omega)
      rw [h2]
      conv => whnf
      refine Bif.knT ?_ fun h3 => ?_
      · (simp; omega)
      rw [h3]
      conv => whnf
      refine Bif.knT ?_ fun h4 => ?_
      · (simp; omega)
      rw [h4]
      conv => whnf
      refine Bif.knT ?_ fun h5 => ?_
      · (simp; omega)
      rw [h5]
      conv => whnf
      (simp; omega)
  | false =>
    have h' : ¬ ((w0 = 16 ∧ w1 = 0 ∧ w2 = 0) ∨ (0 ≤ w0 ∧ w0 < 16 ∧ 0 ≤ w1 ∧ w1 ≤ 3 ∧ 0 ≤ w2 ∧ w2 ≤ 31)) := fun k => by rw [(okM_iff _ _ _).2 k] at h; cases h
    refine ACalls.code tabOk h19 Try.func19 Try.call19 ok19 ?_
    conv => whnf
    refine Bif.of (fun h0 => ?_) fun h0 => ?_
    · rw [h0]
      conv => whnf
      refine Bif.of (fun h1 => ?_) fun h1 => ?_
      · rw [h1]
        conv => whnf
        (refine ⟨?_, rfl⟩; congr 1; simp at *; omega)
      · rw [h1]
        conv => whnf
        exact ⟨rfl, rfl⟩
    · rw [h0]
      conv => whnf
      refine Bif.of (fun h2 => ?_) fun h2 => ?_
      · rw [h2]
        conv => whnf
        refine Bif.of (fun h3 => ?_) fun h3 => ?_
        · rw [h3]
          conv => whnf
          refine Bif.of (fun h4 => ?_) fun h4 => ?_
          · rw [h4]
            conv => whnf
            refine Bif.of (fun h5 => ?_) fun h5 => ?_
            · rw [h5]
              conv => whnf
              refine Bif.of (fun h6 => ?_) fun h6 => ?_
              · rw [h6]
                conv => whnf
                (refine ⟨?_, rfl⟩; congr 1; simp at *; omega)
              · rw [h6]
                conv => whnf
                exact ⟨rfl, rfl⟩
            · rw [h5]
              conv => whnf
              exact ⟨rfl, rfl⟩
          · rw [h4]
            conv => whnf
            exact ⟨rfl, rfl⟩
        · rw [h3]
          conv => whnf
          exact ⟨rfl, rfl⟩
      · rw [h2]
        conv => whnf
        exact ⟨rfl, rfl⟩
theorem ref17_of (w0 w1 w2 : Int) (h : 0 ≤ w2 ∧ w2 ≤ 31) : ACalls Try.prog 20 [.agg #[.int .i64 w0, .int .i64 w1, .int .i64 w2]] [] fun r H => r = (MS.of w0 w1 w2).cells ∧ H = [] := by
  have e1 : IntKind.i64.wrap (w2.tdiv 2) = w2 / 2 := by rw [Int.tdiv_eq_ediv_of_nonneg h.1, wrap64 (by omega) (by omega)]
  have e2 : IntKind.i64.wrap ((w2 / 2).tdiv 2) = w2 / 4 := by rw [Int.tdiv_eq_ediv_of_nonneg (by omega), wrap64 (by omega) (by omega)]; omega
  have e3 : IntKind.i64.wrap ((w2 / 4).tdiv 2) = w2 / 8 := by rw [Int.tdiv_eq_ediv_of_nonneg (by omega), wrap64 (by omega) (by omega)]; omega
  have e4 : IntKind.i64.wrap ((w2 / 8).tdiv 2) = w2 / 16 := by rw [Int.tdiv_eq_ediv_of_nonneg (by omega), wrap64 (by omega) (by omega)]; omega
  have b0 : (w2.tmod 2 == 1) = bitI w2 1 := by unfold bitI; rw [Int.tmod_eq_emod_of_nonneg (by omega), Int.ediv_one]; rfl
  have b1 : ((w2 / 2).tmod 2 == 1) = bitI w2 2 := by unfold bitI; rw [Int.tmod_eq_emod_of_nonneg (by omega)]; rfl
  have b2 : ((w2 / 4).tmod 2 == 1) = bitI w2 4 := by unfold bitI; rw [Int.tmod_eq_emod_of_nonneg (by omega)]; rfl
  have b3 : ((w2 / 8).tmod 2 == 1) = bitI w2 8 := by unfold bitI; rw [Int.tmod_eq_emod_of_nonneg (by omega)]; rfl
  have b4 : ((w2 / 16).tmod 2 == 1) = bitI w2 16 := by unfold bitI; rw [Int.tmod_eq_emod_of_nonneg (by omega)]; rfl
  refine ACalls.code tabOk h20 Try.func20 Try.call20 ok20 ?_
  conv => whnf
  refine ALoop.run 6 ?_
  conv => whnf
  (rw [e1, e2, e3, e4, b0, b1, b2, b3, b4]; exact ⟨rfl, rfl⟩)
end Go.Proofs
