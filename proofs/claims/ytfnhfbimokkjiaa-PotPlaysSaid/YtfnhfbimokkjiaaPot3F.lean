/-
  Walks through the functions of the program, by contract.
-/
import Derived.Test.YtfnhfbimokkjiaaPot2F
set_option linter.all false
set_option linter.unusedVariables false
set_option linter.unusedSimpArgs false
set_option linter.unnecessarySimpa false
namespace Go.Proofs
open Go.Aw
set_option maxRecDepth 100000
set_option maxHeartbeats 8000000

theorem pot_one (b : Bool) : ACalls Try.prog 28 [.bool b] [] fun r H => r = .int .i64 (one2 b) ∧ H = [] := by
  cases b <;> refine ACalls.code tabOk h28 Try.func28 Try.call28 ok28 ?_ <;> (conv => whnf)
  · exact ⟨rfl, rfl⟩
  · exact ⟨rfl, rfl⟩
theorem ref20_one (b : Bool) : ACalls Try.prog 29 [.bool b] [] fun r H => r = .int .i64 (one2 b) ∧ H = [] := by
  cases b <;> refine ACalls.code tabOk h29 Try.func29 Try.call29 ok29 ?_ <;> (conv => whnf)
  · exact ⟨rfl, rfl⟩
  · exact ⟨rfl, rfl⟩
theorem pot_words (v0 v1 v2 v3 ch : Int) (du h0 l0 h1 l1 la : Bool) (hv : (0 ≤ v0 ∧ v0 ≤ 255) ∧ (0 ≤ v1 ∧ v1 ≤ 255) ∧ (0 ≤ v2 ∧ v2 ≤ 255) ∧ (0 ≤ v3 ∧ v3 ≤ 255)) : ACalls Try.prog 23 [.pointer (some ⟨0, 0, none⟩)] [.cells [.int .u8 v0, .int .u8 v1, .int .u8 v2, .int .u8 v3, .int .i64 ch, .bool du, .bool h0, .bool l0, .bool h1, .bool l1, .bool la] 58] fun r H => r = PS.words ⟨v0, v1, v2, v3, ch, du, h0, l0, h1, l1, la⟩ ∧ H = [PS.blk ⟨v0, v1, v2, v3, ch, du, h0, l0, h1, l1, la⟩] := by
  have x0 : IntKind.i64.wrap v0 = v0 := wrap64 (by omega) (by omega)
  have x1 : IntKind.i64.wrap v1 = v1 := wrap64 (by omega) (by omega)
  have x2 : IntKind.i64.wrap v2 = v2 := wrap64 (by omega) (by omega)
  have x3 : IntKind.i64.wrap v3 = v3 := wrap64 (by omega) (by omega)
  refine ACalls.code tabOk h23 Try.func23 Try.call23 ok23 ?_
  conv => whnf
  refine ACalls.useE (pot_one _) [] rfl (by (conv => whnf); try rfl) (by (conv => whnf); try rfl) ?_
  conv => whnf
  refine ⟨rfl, ?_⟩
  conv => whnf
  refine ⟨rfl, ?_⟩
  conv => whnf
  refine ACalls.useE (pot_one _) [] rfl (by (conv => whnf); try rfl) (by (conv => whnf); try rfl) ?_
  conv => whnf
  refine ⟨rfl, ?_⟩
  conv => whnf
  refine ALoop.run 5 ?_
  conv => whnf
  refine ALoop.run 5 ?_
  conv => whnf
  refine ACalls.useE (pot_one _) [] rfl (by (conv => whnf); try rfl) (by (conv => whnf); try rfl) ?_
  conv => whnf
  refine ⟨rfl, ?_⟩
  conv => whnf
  refine ACalls.useE (pot_one _) [] rfl (by (conv => whnf); try rfl) (by (conv => whnf); try rfl) ?_
  conv => whnf
  refine ACalls.useE (pot_one _) [] rfl (by (conv => whnf); try rfl) (by (conv => whnf); try rfl) ?_
  conv => whnf
  refine ⟨rfl, ?_⟩
  conv => whnf
  refine ACalls.useE (pot_one _) [] rfl (by (conv => whnf); try rfl) (by (conv => whnf); try rfl) ?_
  conv => whnf
  (rw [x0, x1, x2, x3]; exact ⟨rfl, rfl⟩)
theorem ref20_words (v0 v1 v2 v3 ch : Int) (du h0 l0 h1 l1 la : Bool) : ACalls Try.prog 24 [.agg #[.int .i64 v0, .int .i64 v1, .int .i64 v2, .int .i64 v3, .int .i64 ch, .bool du, .bool h0, .bool h1, .bool la, .bool l0, .bool l1]] [] fun r H => r = PS.words ⟨v0, v1, v2, v3, ch, du, h0, l0, h1, l1, la⟩ ∧ H = [] := by
  refine ACalls.code tabOk h24 Try.func24 Try.call24 ok24 ?_
  conv => whnf
  refine ACalls.useE (ref20_one _) [] rfl (by (conv => whnf); try rfl) (by (conv => whnf); try rfl) ?_
  conv => whnf
  refine ⟨rfl, ?_⟩
  conv => whnf
  refine ⟨rfl, ?_⟩
  conv => whnf
  refine ⟨rfl, ?_⟩
  conv => whnf
  refine ⟨rfl, ?_⟩
  conv => whnf
  refine ⟨rfl, ?_⟩
  conv => whnf
  refine ⟨rfl, ?_⟩
  conv => whnf
  refine ⟨rfl, ?_⟩
  conv => whnf
  refine ⟨rfl, ?_⟩
  conv => whnf
  refine ⟨rfl, ?_⟩
  conv => whnf
  refine ⟨rfl, ?_⟩
  conv => whnf
  refine ACalls.useE (ref20_one _) [] rfl (by (conv => whnf); try rfl) (by (conv => whnf); try rfl) ?_
  conv => whnf
  refine ⟨rfl, ?_⟩
  conv => whnf
  refine ⟨rfl, ?_⟩
  conv => whnf
  refine ⟨rfl, ?_⟩
  conv => whnf
  refine ⟨rfl, ?_⟩
  conv => whnf
  refine ⟨rfl, ?_⟩
  conv => whnf
  refine ⟨rfl, ?_⟩
  conv => whnf
  refine ⟨rfl, ?_⟩
  conv => whnf
  refine ⟨rfl, ?_⟩
  conv => whnf
  refine ⟨rfl, ?_⟩
  conv => whnf
  refine ACalls.useE (ref20_one _) [] rfl (by (conv => whnf); try rfl) (by (conv => whnf); try rfl) ?_
  conv => whnf
  refine ⟨rfl, ?_⟩
  conv => whnf
  refine ⟨rfl, ?_⟩
  conv => whnf
  refine ⟨rfl, ?_⟩
  conv => whnf
  refine ⟨rfl, ?_⟩
  conv => whnf
  refine ⟨rfl, ?_⟩
  conv => whnf
  refine ⟨rfl, ?_⟩
  conv => whnf
  refine ⟨rfl, ?_⟩
  conv => whnf
  refine ⟨rfl, ?_⟩
  conv => whnf
  refine ACalls.useE (ref20_one _) [] rfl (by (conv => whnf); try rfl) (by (conv => whnf); try rfl) ?_
  conv => whnf
  refine ⟨rfl, ?_⟩
  conv => whnf
  refine ⟨rfl, ?_⟩
  conv => whnf
  refine ⟨rfl, ?_⟩
  conv => whnf
  refine ⟨rfl, ?_⟩
  conv => whnf
  refine ⟨rfl, ?_⟩
  conv => whnf
  refine ⟨rfl, ?_⟩
  conv => whnf
  refine ⟨rfl, ?_⟩
  conv => whnf
  refine ACalls.useE (ref20_one _) [] rfl (by (conv => whnf); try rfl) (by (conv => whnf); try rfl) ?_
  conv => whnf
  refine ⟨rfl, ?_⟩
  conv => whnf
  refine ⟨rfl, ?_⟩
  conv => whnf
  refine ⟨rfl, ?_⟩
  conv => whnf
  refine ⟨rfl, ?_⟩
  conv => whnf
  refine ⟨rfl, ?_⟩
  conv => whnf
  refine ⟨rfl, ?_⟩
  conv => whnf
  refine ACalls.useE (ref20_one _) [] rfl (by (conv => whnf); try rfl) (by (conv => whnf); try rfl) ?_
  conv => whnf
  refine ⟨rfl, ?_⟩
  conv => whnf
  refine ⟨rfl, ?_⟩
  conv => whnf
  refine ⟨rfl, ?_⟩
  conv => whnf
  refine ⟨rfl, ?_⟩
  conv => whnf
  refine ⟨rfl, ?_⟩
  conv => whnf
  exact ⟨rfl, rfl⟩
theorem ref20_of (w0 w1 w2 w3 w4 w5 w6 w7 w8 w9 w10 : Int) : ACalls Try.prog 21 [.agg #[.int .i64 w0, .int .i64 w1, .int .i64 w2, .int .i64 w3, .int .i64 w4, .int .i64 w5, .int .i64 w6, .int .i64 w7, .int .i64 w8, .int .i64 w9, .int .i64 w10]] [] fun r H => r = (PS.of w0 w1 w2 w3 w4 w5 w6 w7 w8 w9 w10).ref ∧ H = [] := by
  refine ACalls.code tabOk h21 Try.func21 Try.call21 ok21 ?_
  conv => whnf
  exact ⟨rfl, rfl⟩
theorem ref20_right (w0 w1 w2 w3 w4 w5 w6 w7 w8 w9 w10 : Int) : ACalls Try.prog 20 [.agg #[.int .i64 w0, .int .i64 w1, .int .i64 w2, .int .i64 w3, .int .i64 w4, .int .i64 w5, .int .i64 w6, .int .i64 w7, .int .i64 w8, .int .i64 w9, .int .i64 w10]] [] fun r H => r = .bool (okP w0 w1 w2 w3 w4 w5 w6 w7 w8 w9 w10) ∧ H = [] := by
  cases h : okP w0 w1 w2 w3 w4 w5 w6 w7 w8 w9 w10 with
  | true =>
    have h' := (okP_iff ..).1 h
    obtain ⟨c0, c1, c2, c3, c4, c5, c6, c7, c8, c9, c10, c11, c12, c13, c14⟩ := h'
    refine ACalls.code tabOk h20 Try.func20 Try.call20 ok20 ?_
    conv => whnf
    refine ALoop.run 12 ?_
    conv => whnf
    refine Bif.knF ?_ fun h0 => ?_
    · (simp; omega)
    rw [h0]
    conv => whnf
    refine Bif.knF ?_ fun h1 => ?_
    · (simp; omega)
    rw [h1]
    conv => whnf
    refine Bif.knF ?_ fun h2 => ?_
    · (simp; omega)
    rw [h2]
    conv => whnf
    refine Bif.knF ?_ fun h3 => ?_
    · (simp; omega)
    rw [h3]
    conv => whnf
    refine Bif.knF ?_ fun h4 => ?_
    · (simp; omega)
    rw [h4]
    conv => whnf
    refine Bif.knF ?_ fun h5 => ?_
    · (simp; omega)
    rw [h5]
    conv => whnf
    refine Bif.knF ?_ fun h6 => ?_
    · (simp; omega)
    rw [h6]
    conv => whnf
    refine Bif.knF ?_ fun h7 => ?_
    · (simp; omega)
    rw [h7]
    conv => whnf
    refine Bif.knF ?_ fun h8 => ?_
    · (simp; omega)
    rw [h8]
    conv => whnf
    refine Bif.knF ?_ fun h9 => ?_
    · (simp; omega)
    rw [h9]
    conv => whnf
    refine Bif.knF ?_ fun h10 => ?_
    · (simp; omega)
    rw [h10]
    conv => whnf
    refine Bif.knF ?_ fun h11 => ?_
    · (simp; omega)
    rw [h11]
    conv => whnf
    refine Bif.knF ?_ fun h12 => ?_
    · (simp; omega)
    rw [h12]
    conv => whnf
    refine Bif.knF ?_ fun h13 => ?_
    · (simp; omega)
    rw [h13]
    conv => whnf
    refine Bif.knF ?_ fun h14 => ?_
    · (simp; omega)
    rw [h14]
    conv => whnf
    refine Bif.knF ?_ fun h15 => ?_
    · (simp; omega)
    rw [h15]
    conv => whnf
    refine Bif.knF ?_ fun h16 => ?_
    · (simp; omega)
    rw [h16]
    conv => whnf
    refine Bif.knF ?_ fun h17 => ?_
    · (simp; omega)
    rw [h17]
    conv => whnf
    refine Bif.knF ?_ fun h18 => ?_
    · (simp; omega)
    rw [h18]
    conv => whnf
    refine Bif.knF ?_ fun h19 => ?_
    · (simp; omega)
    rw [h19]
    conv => whnf
    refine Bif.knF ?_ fun h20 => ?_
    · (simp; omega)
    rw [h20]
    conv => whnf
    refine Bif.knF ?_ fun h21 => ?_
    · (simp; omega)
    rw [h21]
    conv => whnf
    refine ALoop.run 12 ?_
    conv => whnf
    refine Bif.of (fun h22 => ?_) fun h22 => ?_
    · rw [h22]
      conv => whnf
      refine Bif.of (fun h23 => ?_) fun h23 => ?_
      · rw [h23]
        conv => whnf
        (exfalso; clear h; simp only [beq_iff_eq, beq_eq_false_iff_ne, ne_eq, decide_eq_true_eq, decide_eq_false_iff_not] at *; omega)
      · rw [h23]
        conv => whnf
        refine Bif.of (fun h24 => ?_) fun h24 => ?_
        · rw [h24]
          conv => whnf
          refine Bif.knT ?_ fun h25 => ?_
          · (exfalso; clear h; simp only [beq_iff_eq, beq_eq_false_iff_ne, ne_eq, decide_eq_true_eq, decide_eq_false_iff_not] at *; omega)
          rw [h25]
          conv => whnf
          refine Bif.knT ?_ fun h26 => ?_
          · (exfalso; clear h; simp only [beq_iff_eq, beq_eq_false_iff_ne, ne_eq, decide_eq_true_eq, decide_eq_false_iff_not] at *; omega)
          rw [h26]
          conv => whnf
          (exfalso; clear h; simp only [beq_iff_eq, beq_eq_false_iff_ne, ne_eq, decide_eq_true_eq, decide_eq_false_iff_not] at *; omega)
        · rw [h24]
          conv => whnf
          refine Bif.knT ?_ fun h27 => ?_
          · with_reducible assumption
          rw [h27]
          conv => whnf
          refine Bif.of (fun h28 => ?_) fun h28 => ?_
          · rw [h28]
            conv => whnf
            (exfalso; clear h; simp only [beq_iff_eq, beq_eq_false_iff_ne, ne_eq, decide_eq_true_eq, decide_eq_false_iff_not] at *; omega)
          · rw [h28]
            conv => whnf
            refine Bif.knF ?_ fun h29 => ?_
            · with_reducible assumption
            rw [h29]
            conv => whnf
            refine Bif.of (fun h30 => ?_) fun h30 => ?_
            · rw [h30]
              conv => whnf
              exact ⟨rfl, rfl⟩
            · rw [h30]
              conv => whnf
              (refine ⟨?_, rfl⟩; congr 1; clear h; simp only [beq_iff_eq, beq_eq_false_iff_ne, ne_eq, decide_eq_true_eq, decide_eq_false_iff_not] at *; omega)
    · rw [h22]
      conv => whnf
      refine Bif.of (fun h31 => ?_) fun h31 => ?_
      · rw [h31]
        conv => whnf
        refine Bif.of (fun h32 => ?_) fun h32 => ?_
        · rw [h32]
          conv => whnf
          refine Bif.of (fun h33 => ?_) fun h33 => ?_
          · rw [h33]
            conv => whnf
            (exfalso; clear h; simp only [beq_iff_eq, beq_eq_false_iff_ne, ne_eq, decide_eq_true_eq, decide_eq_false_iff_not] at *; omega)
          · rw [h33]
            conv => whnf
            refine Bif.knF ?_ fun h34 => ?_
            · with_reducible assumption
            rw [h34]
            conv => whnf
            refine Bif.knT ?_ fun h35 => ?_
            · with_reducible assumption
            rw [h35]
            conv => whnf
            refine Bif.of (fun h36 => ?_) fun h36 => ?_
            · rw [h36]
              conv => whnf
              refine Bif.of (fun h37 => ?_) fun h37 => ?_
              · rw [h37]
                conv => whnf
                (exfalso; clear h; simp only [beq_iff_eq, beq_eq_false_iff_ne, ne_eq, decide_eq_true_eq, decide_eq_false_iff_not] at *; omega)
              · rw [h37]
                conv => whnf
                refine Bif.of (fun h38 => ?_) fun h38 => ?_
                · rw [h38]
                  conv => whnf
                  exact ⟨rfl, rfl⟩
                · rw [h38]
                  conv => whnf
                  (refine ⟨?_, rfl⟩; congr 1; clear h; simp only [beq_iff_eq, beq_eq_false_iff_ne, ne_eq, decide_eq_true_eq, decide_eq_false_iff_not] at *; omega)
            · rw [h36]
              conv => whnf
              refine Bif.of (fun h39 => ?_) fun h39 => ?_
              · rw [h39]
                conv => whnf
                exact ⟨rfl, rfl⟩
              · rw [h39]
                conv => whnf
                (refine ⟨?_, rfl⟩; congr 1; clear h; simp only [beq_iff_eq, beq_eq_false_iff_ne, ne_eq, decide_eq_true_eq, decide_eq_false_iff_not] at *; omega)
        · rw [h32]
          conv => whnf
          refine Bif.knF ?_ fun h40 => ?_
          · with_reducible assumption
          rw [h40]
          conv => whnf
          refine Bif.knT ?_ fun h41 => ?_
          · with_reducible assumption
          rw [h41]
          conv => whnf
          refine Bif.of (fun h42 => ?_) fun h42 => ?_
          · rw [h42]
            conv => whnf
            refine Bif.of (fun h43 => ?_) fun h43 => ?_
            · rw [h43]
              conv => whnf
              (exfalso; clear h; simp only [beq_iff_eq, beq_eq_false_iff_ne, ne_eq, decide_eq_true_eq, decide_eq_false_iff_not] at *; omega)
            · rw [h43]
              conv => whnf
              refine Bif.of (fun h44 => ?_) fun h44 => ?_
              · rw [h44]
                conv => whnf
                exact ⟨rfl, rfl⟩
              · rw [h44]
                conv => whnf
                (refine ⟨?_, rfl⟩; congr 1; clear h; simp only [beq_iff_eq, beq_eq_false_iff_ne, ne_eq, decide_eq_true_eq, decide_eq_false_iff_not] at *; omega)
          · rw [h42]
            conv => whnf
            refine Bif.of (fun h45 => ?_) fun h45 => ?_
            · rw [h45]
              conv => whnf
              exact ⟨rfl, rfl⟩
            · rw [h45]
              conv => whnf
              (refine ⟨?_, rfl⟩; congr 1; clear h; simp only [beq_iff_eq, beq_eq_false_iff_ne, ne_eq, decide_eq_true_eq, decide_eq_false_iff_not] at *; omega)
      · rw [h31]
        conv => whnf
        refine Bif.knF ?_ fun h46 => ?_
        · with_reducible assumption
        rw [h46]
        conv => whnf
        refine Bif.knF ?_ fun h47 => ?_
        · with_reducible assumption
        rw [h47]
        conv => whnf
        refine Bif.knT ?_ fun h48 => ?_
        · (exfalso; clear h; simp only [beq_iff_eq, beq_eq_false_iff_ne, ne_eq, decide_eq_true_eq, decide_eq_false_iff_not] at *; omega)
        rw [h48]
        conv => whnf
        exact ⟨rfl, rfl⟩
  | false =>
    have h' := okP_not h
    refine ACalls.code tabOk h20 Try.func20 Try.call20 ok20 ?_
    conv => whnf
    refine ALoop.run 12 ?_
    conv => whnf
    refine Bif.of (fun h0 => ?_) fun h0 => ?_
    · rw [h0]
      conv => whnf
      exact ⟨rfl, rfl⟩
    · rw [h0]
      conv => whnf
      refine Bif.of (fun h1 => ?_) fun h1 => ?_
      · rw [h1]
        conv => whnf
        exact ⟨rfl, rfl⟩
      · rw [h1]
        conv => whnf
        refine Bif.of (fun h2 => ?_) fun h2 => ?_
        · rw [h2]
          conv => whnf
          exact ⟨rfl, rfl⟩
        · rw [h2]
          conv => whnf
          refine Bif.of (fun h3 => ?_) fun h3 => ?_
          · rw [h3]
            conv => whnf
            exact ⟨rfl, rfl⟩
          · rw [h3]
            conv => whnf
            refine Bif.of (fun h4 => ?_) fun h4 => ?_
            · rw [h4]
              conv => whnf
              exact ⟨rfl, rfl⟩
            · rw [h4]
              conv => whnf
              refine Bif.of (fun h5 => ?_) fun h5 => ?_
              · rw [h5]
                conv => whnf
                exact ⟨rfl, rfl⟩
              · rw [h5]
                conv => whnf
                refine Bif.of (fun h6 => ?_) fun h6 => ?_
                · rw [h6]
                  conv => whnf
                  exact ⟨rfl, rfl⟩
                · rw [h6]
                  conv => whnf
                  refine Bif.of (fun h7 => ?_) fun h7 => ?_
                  · rw [h7]
                    conv => whnf
                    exact ⟨rfl, rfl⟩
                  · rw [h7]
                    conv => whnf
                    refine Bif.of (fun h8 => ?_) fun h8 => ?_
                    · rw [h8]
                      conv => whnf
                      exact ⟨rfl, rfl⟩
                    · rw [h8]
                      conv => whnf
                      refine Bif.of (fun h9 => ?_) fun h9 => ?_
                      · rw [h9]
                        conv => whnf
                        exact ⟨rfl, rfl⟩
                      · rw [h9]
                        conv => whnf
                        refine Bif.of (fun h10 => ?_) fun h10 => ?_
                        · rw [h10]
                          conv => whnf
                          exact ⟨rfl, rfl⟩
                        · rw [h10]
                          conv => whnf
                          refine Bif.of (fun h11 => ?_) fun h11 => ?_
                          · rw [h11]
                            conv => whnf
                            exact ⟨rfl, rfl⟩
                          · rw [h11]
                            conv => whnf
                            refine Bif.of (fun h12 => ?_) fun h12 => ?_
                            · rw [h12]
                              conv => whnf
                              exact ⟨rfl, rfl⟩
                            · rw [h12]
                              conv => whnf
                              refine Bif.of (fun h13 => ?_) fun h13 => ?_
                              · rw [h13]
                                conv => whnf
                                exact ⟨rfl, rfl⟩
                              · rw [h13]
                                conv => whnf
                                refine Bif.of (fun h14 => ?_) fun h14 => ?_
                                · rw [h14]
                                  conv => whnf
                                  exact ⟨rfl, rfl⟩
                                · rw [h14]
                                  conv => whnf
                                  refine Bif.of (fun h15 => ?_) fun h15 => ?_
                                  · rw [h15]
                                    conv => whnf
                                    exact ⟨rfl, rfl⟩
                                  · rw [h15]
                                    conv => whnf
                                    refine Bif.of (fun h16 => ?_) fun h16 => ?_
                                    · rw [h16]
                                      conv => whnf
                                      exact ⟨rfl, rfl⟩
                                    · rw [h16]
                                      conv => whnf
                                      refine Bif.of (fun h17 => ?_) fun h17 => ?_
                                      · rw [h17]
                                        conv => whnf
                                        exact ⟨rfl, rfl⟩
                                      · rw [h17]
                                        conv => whnf
                                        refine Bif.of (fun h18 => ?_) fun h18 => ?_
                                        · rw [h18]
                                          conv => whnf
                                          exact ⟨rfl, rfl⟩
                                        · rw [h18]
                                          conv => whnf
                                          refine Bif.of (fun h19 => ?_) fun h19 => ?_
                                          · rw [h19]
                                            conv => whnf
                                            exact ⟨rfl, rfl⟩
                                          · rw [h19]
                                            conv => whnf
                                            refine Bif.of (fun h20 => ?_) fun h20 => ?_
                                            · rw [h20]
                                              conv => whnf
                                              exact ⟨rfl, rfl⟩
                                            · rw [h20]
                                              conv => whnf
                                              refine Bif.of (fun h21 => ?_) fun h21 => ?_
                                              · rw [h21]
                                                conv => whnf
                                                exact ⟨rfl, rfl⟩
                                              · rw [h21]
                                                conv => whnf
                                                refine ALoop.run 12 ?_
                                                conv => whnf
                                                refine Bif.of (fun h22 => ?_) fun h22 => ?_
                                                · rw [h22]
                                                  conv => whnf
                                                  refine Bif.of (fun h23 => ?_) fun h23 => ?_
                                                  · rw [h23]
                                                    conv => whnf
                                                    exact ⟨rfl, rfl⟩
                                                  · rw [h23]
                                                    conv => whnf
                                                    refine Bif.of (fun h24 => ?_) fun h24 => ?_
                                                    · rw [h24]
                                                      conv => whnf
                                                      refine Bif.knT ?_ fun h25 => ?_
                                                      · (exfalso; simp at *; omega)
                                                      rw [h25]
                                                      conv => whnf
                                                      refine Bif.knT ?_ fun h26 => ?_
                                                      · (exfalso; simp at *; omega)
                                                      rw [h26]
                                                      conv => whnf
                                                      exact ⟨rfl, rfl⟩
                                                    · rw [h24]
                                                      conv => whnf
                                                      refine Bif.knT ?_ fun h27 => ?_
                                                      · with_reducible assumption
                                                      rw [h27]
                                                      conv => whnf
                                                      refine Bif.of (fun h28 => ?_) fun h28 => ?_
                                                      · rw [h28]
                                                        conv => whnf
                                                        exact ⟨rfl, rfl⟩
                                                      · rw [h28]
                                                        conv => whnf
                                                        refine Bif.knF ?_ fun h29 => ?_
                                                        · with_reducible assumption
                                                        rw [h29]
                                                        conv => whnf
                                                        refine Bif.of (fun h30 => ?_) fun h30 => ?_
                                                        · rw [h30]
                                                          conv => whnf
                                                          (refine ⟨?_, rfl⟩; congr 1; simp at *; omega)
                                                        · rw [h30]
                                                          conv => whnf
                                                          (refine ⟨?_, rfl⟩; congr 1; simp at *; omega)
                                                · rw [h22]
                                                  conv => whnf
                                                  refine Bif.of (fun h31 => ?_) fun h31 => ?_
                                                  · rw [h31]
                                                    conv => whnf
                                                    refine Bif.of (fun h32 => ?_) fun h32 => ?_
                                                    · rw [h32]
                                                      conv => whnf
                                                      refine Bif.of (fun h33 => ?_) fun h33 => ?_
                                                      · rw [h33]
                                                        conv => whnf
                                                        exact ⟨rfl, rfl⟩
                                                      · rw [h33]
                                                        conv => whnf
                                                        refine Bif.knF ?_ fun h34 => ?_
                                                        · with_reducible assumption
                                                        rw [h34]
                                                        conv => whnf
                                                        refine Bif.knT ?_ fun h35 => ?_
                                                        · with_reducible assumption
                                                        rw [h35]
                                                        conv => whnf
                                                        refine Bif.of (fun h36 => ?_) fun h36 => ?_
                                                        · rw [h36]
                                                          conv => whnf
                                                          refine Bif.of (fun h37 => ?_) fun h37 => ?_
                                                          · rw [h37]
                                                            conv => whnf
                                                            exact ⟨rfl, rfl⟩
                                                          · rw [h37]
                                                            conv => whnf
                                                            refine Bif.of (fun h38 => ?_) fun h38 => ?_
                                                            · rw [h38]
                                                              conv => whnf
                                                              (refine ⟨?_, rfl⟩; congr 1; simp at *; omega)
                                                            · rw [h38]
                                                              conv => whnf
                                                              (refine ⟨?_, rfl⟩; congr 1; simp at *; omega)
                                                        · rw [h36]
                                                          conv => whnf
                                                          refine Bif.of (fun h39 => ?_) fun h39 => ?_
                                                          · rw [h39]
                                                            conv => whnf
                                                            (refine ⟨?_, rfl⟩; congr 1; simp at *; omega)
                                                          · rw [h39]
                                                            conv => whnf
                                                            (refine ⟨?_, rfl⟩; congr 1; simp at *; omega)
                                                    · rw [h32]
                                                      conv => whnf
                                                      refine Bif.knF ?_ fun h40 => ?_
                                                      · with_reducible assumption
                                                      rw [h40]
                                                      conv => whnf
                                                      refine Bif.knT ?_ fun h41 => ?_
                                                      · with_reducible assumption
                                                      rw [h41]
                                                      conv => whnf
                                                      refine Bif.of (fun h42 => ?_) fun h42 => ?_
                                                      · rw [h42]
                                                        conv => whnf
                                                        refine Bif.of (fun h43 => ?_) fun h43 => ?_
                                                        · rw [h43]
                                                          conv => whnf
                                                          exact ⟨rfl, rfl⟩
                                                        · rw [h43]
                                                          conv => whnf
                                                          refine Bif.of (fun h44 => ?_) fun h44 => ?_
                                                          · rw [h44]
                                                            conv => whnf
                                                            (refine ⟨?_, rfl⟩; congr 1; simp at *; omega)
                                                          · rw [h44]
                                                            conv => whnf
                                                            (refine ⟨?_, rfl⟩; congr 1; simp at *; omega)
                                                      · rw [h42]
                                                        conv => whnf
                                                        refine Bif.of (fun h45 => ?_) fun h45 => ?_
                                                        · rw [h45]
                                                          conv => whnf
                                                          (refine ⟨?_, rfl⟩; congr 1; simp at *; omega)
                                                        · rw [h45]
                                                          conv => whnf
                                                          (refine ⟨?_, rfl⟩; congr 1; simp at *; omega)
                                                  · rw [h31]
                                                    conv => whnf
                                                    refine Bif.knF ?_ fun h46 => ?_
                                                    · with_reducible assumption
                                                    rw [h46]
                                                    conv => whnf
                                                    refine Bif.knF ?_ fun h47 => ?_
                                                    · with_reducible assumption
                                                    rw [h47]
                                                    conv => whnf
                                                    refine Bif.knT ?_ fun h48 => ?_
                                                    · (exfalso; simp at *; omega)
                                                    rw [h48]
                                                    conv => whnf
                                                    (refine ⟨?_, rfl⟩; congr 1; simp at *; omega)
theorem pot_set_ok (v0 v1 v2 v3 ch : Int) (du h0 l0 h1 l1 la : Bool) (w0 w1 w2 w3 w4 w5 w6 w7 w8 w9 w10 : Int) (h : okP w0 w1 w2 w3 w4 w5 w6 w7 w8 w9 w10 = true) : ACalls Try.prog 19 [.pointer (some ⟨0, 0, none⟩), .agg #[.int .i64 w0, .int .i64 w1, .int .i64 w2, .int .i64 w3, .int .i64 w4, .int .i64 w5, .int .i64 w6, .int .i64 w7, .int .i64 w8, .int .i64 w9, .int .i64 w10]] [.cells [.int .u8 v0, .int .u8 v1, .int .u8 v2, .int .u8 v3, .int .i64 ch, .bool du, .bool h0, .bool l0, .bool h1, .bool l1, .bool la] 58] fun r H => r = .int .i64 0 ∧ H = [(PS.of w0 w1 w2 w3 w4 w5 w6 w7 w8 w9 w10).blk] := by
  have h' := (okP_iff ..).1 h
  obtain ⟨c0, c1, c2, c3, c4, c5, c6, c7, c8, c9, c10, c11, c12, c13, c14⟩ := h'
  have x0 : IntKind.u8.wrap w0 = w0 := wrap8 (by omega) (by omega)
  have x1 : IntKind.u8.wrap w1 = w1 := wrap8 (by omega) (by omega)
  have x2 : IntKind.u8.wrap w2 = w2 := wrap8 (by omega) (by omega)
  have x3 : IntKind.u8.wrap w3 = w3 := wrap8 (by omega) (by omega)
  have y0 : (!(w8 == 1) || ((w9 == 1) && (w6 == 1))) = (w9 == 1) := by
    have d8 : w8 = 0 ∨ w8 = 1 := by omega
    have d6 : w6 = 0 ∨ w6 = 1 := by omega
    have d9 : w9 = 0 ∨ w9 = 1 := by omega
    rcases d8 with rfl | rfl <;> rcases d6 with rfl | rfl <;> rcases d9 with rfl | rfl <;> first | rfl | (exfalso; omega)
  have y1 : (!(w8 == 1) || ((w10 == 1) && (w7 == 1))) = (w10 == 1) := by
    have d8 : w8 = 0 ∨ w8 = 1 := by omega
    have d6 : w7 = 0 ∨ w7 = 1 := by omega
    have d9 : w10 = 0 ∨ w10 = 1 := by omega
    rcases d8 with rfl | rfl <;> rcases d6 with rfl | rfl <;> rcases d9 with rfl | rfl <;> first | rfl | (exfalso; omega)
  refine ACalls.code tabOk h19 Try.func19 Try.call19 ok19 ?_
  conv => whnf
  refine ACalls.code tabOk h27 Try.func27 Try.call27 ok27 ?_
  conv => whnf
  refine ALoop.run 7 ?_
  conv => whnf
  refine Bif.knF ?_ fun h0 => ?_
  · (simp; omega)
  rw [h0]
  conv => whnf
  refine Bif.knF ?_ fun h1 => ?_
  · (simp; omega)
  rw [h1]
  conv => whnf
  refine Bif.knF ?_ fun h2 => ?_
  · (simp; omega)
  rw [h2]
  conv => whnf
  refine Bif.knF ?_ fun h3 => ?_
  · (simp; omega)
  rw [h3]
  conv => whnf
  refine Bif.knF ?_ fun h4 => ?_
  · (simp; omega)
  rw [h4]
  conv => whnf
  refine Bif.knF ?_ fun h5 => ?_
  · (simp; omega)
  rw [h5]
  conv => whnf
  refine Bif.knF ?_ fun h6 => ?_
  · (simp; omega)
  rw [h6]
  conv => whnf
  refine Bif.knF ?_ fun h7 => ?_
  · (simp; omega)
  rw [h7]
  conv => whnf
  refine ACalls.code tabOk h27 Try.func27 Try.call27 ok27 ?_
  conv => whnf
  refine ALoop.run 7 ?_
  conv => whnf
  refine Bif.knF ?_ fun h8 => ?_
  · (simp; omega)
  rw [h8]
  conv => whnf
  refine Bif.knF ?_ fun h9 => ?_
  · (simp; omega)
  rw [h9]
  conv => whnf
  refine ACalls.code tabOk h27 Try.func27 Try.call27 ok27 ?_
  conv => whnf
  refine ALoop.run 7 ?_
  conv => whnf
  refine Bif.knF ?_ fun h10 => ?_
  · (simp; omega)
  rw [h10]
  conv => whnf
  refine Bif.knF ?_ fun h11 => ?_
  · (simp; omega)
  rw [h11]
  conv => whnf
  refine Bif.knF ?_ fun h12 => ?_
  · (simp; omega)
  rw [h12]
  conv => whnf
  refine Bif.knF ?_ fun h13 => ?_
  · (simp; omega)
  rw [h13]
  conv => whnf
  refine Bif.knF ?_ fun h14 => ?_
  · (simp; omega)
  rw [h14]
  conv => whnf
  refine Bif.knF ?_ fun h15 => ?_
  · (simp; omega)
  rw [h15]
  conv => whnf
  refine Bif.knF ?_ fun h16 => ?_
  · (simp; omega)
  rw [h16]
  conv => whnf
  refine Bif.knF ?_ fun h17 => ?_
  · (simp; omega)
  rw [h17]
  conv => whnf
  refine Bif.knF ?_ fun h18 => ?_
  · (simp; omega)
  rw [h18]
  conv => whnf
  refine Bif.knF ?_ fun h19 => ?_
  · (simp; omega)
  rw [h19]
  conv => whnf
  refine Bif.knF ?_ fun h20 => ?_
  · (simp; omega)
  rw [h20]
  conv => whnf
  refine Bif.knF ?_ fun h21 => ?_
  · (simp; omega)
  rw [h21]
  conv => whnf
  refine Bif.of (fun h22 => ?_) fun h22 => ?_
  · rw [h22]
    conv => whnf
    refine Bif.of (fun h23 => ?_) fun h23 => ?_
    · rw [h23]
      conv => whnf
      (exfalso; clear h y0 y1 x0 x1 x2 x3; simp only [beq_iff_eq, beq_eq_false_iff_ne, bne_iff_ne, bne_eq_false_iff_eq, ne_eq, decide_eq_true_eq, decide_eq_false_iff_not] at *; omega)
    · rw [h23]
      conv => whnf
      refine ALoop.run 7 ?_
      conv => whnf
      refine ALoop.run 7 ?_
      conv => whnf
      refine ACalls.useE (pot_see _ _ _ _ _ _ _ _ _ _ _) [2] rfl (by (conv => whnf); try rfl) (by (conv => whnf); try rfl) ?_
      conv => whnf
      refine ALoop.run 7 ?_
      conv => whnf
      rw [y0]
      conv => whnf
      rw [y1]
      conv => whnf
      refine Bif.knF ?_ fun h24 => ?_
      · (simp; done)
      rw [h24]
      conv => whnf
      refine Bif.knF ?_ fun h25 => ?_
      · (simp; done)
      rw [h25]
      conv => whnf
      (rw [x0, x1, x2, x3]; exact ⟨rfl, rfl⟩)
  · rw [h22]
    conv => whnf
    refine ALoop.run 7 ?_
    conv => whnf
    refine ALoop.run 7 ?_
    conv => whnf
    refine ACalls.useE (pot_see _ _ _ _ _ _ _ _ _ _ _) [2] rfl (by (conv => whnf); try rfl) (by (conv => whnf); try rfl) ?_
    conv => whnf
    refine ALoop.run 7 ?_
    conv => whnf
    rw [y0]
    conv => whnf
    rw [y1]
    conv => whnf
    refine Bif.knF ?_ fun h26 => ?_
    · (simp; done)
    rw [h26]
    conv => whnf
    refine Bif.knF ?_ fun h27 => ?_
    · (simp; done)
    rw [h27]
    conv => whnf
    (rw [x0, x1, x2, x3]; exact ⟨rfl, rfl⟩)
theorem pot_set_bad (v0 v1 v2 v3 ch : Int) (du h0 l0 h1 l1 la : Bool) (w0 w1 w2 w3 w4 w5 w6 w7 w8 w9 w10 : Int) (h : okP w0 w1 w2 w3 w4 w5 w6 w7 w8 w9 w10 = false) : ACalls Try.prog 19 [.pointer (some ⟨0, 0, none⟩), .agg #[.int .i64 w0, .int .i64 w1, .int .i64 w2, .int .i64 w3, .int .i64 w4, .int .i64 w5, .int .i64 w6, .int .i64 w7, .int .i64 w8, .int .i64 w9, .int .i64 w10]] [.cells [.int .u8 v0, .int .u8 v1, .int .u8 v2, .int .u8 v3, .int .i64 ch, .bool du, .bool h0, .bool l0, .bool h1, .bool l1, .bool la] 58] fun r H => r = .int .i64 6 ∧ H = [PS.blk ⟨v0, v1, v2, v3, ch, du, h0, l0, h1, l1, la⟩] := by
  have h' := okP_not h
  by_cases hQ : ((0 ≤ w0 ∧ w0 ≤ 255) ∧ (0 ≤ w1 ∧ w1 ≤ 255) ∧ (0 ≤ w2 ∧ w2 ≤ 255) ∧ (0 ≤ w3 ∧ w3 ≤ 255) ∧ (0 ≤ w4 ∧ w4 ≤ 511) ∧ (0 ≤ w5 ∧ w5 ≤ 1) ∧ (0 ≤ w6 ∧ w6 ≤ 1) ∧ (0 ≤ w7 ∧ w7 ≤ 1) ∧ (0 ≤ w8 ∧ w8 ≤ 1) ∧ (0 ≤ w9 ∧ w9 ≤ 1) ∧ (0 ≤ w10 ∧ w10 ≤ 1) ∧ (w5 = 0 ∨ w4 = 0))
  · obtain ⟨c0, c1, c2, c3, c4, c5, c6, c7, c8, c9, c10, c11⟩ := hQ
    have d6 : w6 = 0 ∨ w6 = 1 := by omega
    have d7 : w7 = 0 ∨ w7 = 1 := by omega
    have d8 : w8 = 0 ∨ w8 = 1 := by omega
    have d9 : w9 = 0 ∨ w9 = 1 := by omega
    have d10 : w10 = 0 ∨ w10 = 1 := by omega
    clear h
    rcases d6 with rfl | rfl <;> rcases d7 with rfl | rfl <;> rcases d8 with rfl | rfl <;> rcases d9 with rfl | rfl <;> rcases d10 with rfl | rfl
    · clear h'
      refine ACalls.code tabOk h19 Try.func19 Try.call19 ok19 ?_
      conv => whnf
      refine ACalls.code tabOk h27 Try.func27 Try.call27 ok27 ?_
      conv => whnf
      refine ALoop.run 7 ?_
      conv => whnf
      refine Bif.knF ?_ fun h0 => ?_
      · (simp; omega)
      rw [h0]
      conv => whnf
      refine Bif.knF ?_ fun h1 => ?_
      · (simp; omega)
      rw [h1]
      conv => whnf
      refine Bif.knF ?_ fun h2 => ?_
      · (simp; omega)
      rw [h2]
      conv => whnf
      refine Bif.knF ?_ fun h3 => ?_
      · (simp; omega)
      rw [h3]
      conv => whnf
      refine Bif.knF ?_ fun h4 => ?_
      · (simp; omega)
      rw [h4]
      conv => whnf
      refine Bif.knF ?_ fun h5 => ?_
      · (simp; omega)
      rw [h5]
      conv => whnf
      refine Bif.knF ?_ fun h6 => ?_
      · (simp; omega)
      rw [h6]
      conv => whnf
      refine Bif.knF ?_ fun h7 => ?_
      · (simp; omega)
      rw [h7]
      conv => whnf
      refine ACalls.code tabOk h27 Try.func27 Try.call27 ok27 ?_
      conv => whnf
      refine ALoop.run 7 ?_
      conv => whnf
      refine Bif.knF ?_ fun h8 => ?_
      · (simp; omega)
      rw [h8]
      conv => whnf
      refine Bif.knF ?_ fun h9 => ?_
      · (simp; omega)
      rw [h9]
      conv => whnf
      refine ACalls.code tabOk h27 Try.func27 Try.call27 ok27 ?_
      conv => whnf
      refine ALoop.run 7 ?_
      conv => whnf
      refine Bif.knF ?_ fun h10 => ?_
      · (simp; omega)
      rw [h10]
      conv => whnf
      refine Bif.knF ?_ fun h11 => ?_
      · (simp; omega)
      rw [h11]
      conv => whnf
      refine Bif.of (fun h12 => ?_) fun h12 => ?_
      · rw [h12]
        conv => whnf
        refine Bif.of (fun h13 => ?_) fun h13 => ?_
        · rw [h13]
          conv => whnf
          exact ⟨rfl, rfl⟩
        · rw [h13]
          conv => whnf
          refine ALoop.run 7 ?_
          conv => whnf
          refine ALoop.run 7 ?_
          conv => whnf
          refine ACalls.useE (pot_see _ _ _ _ _ _ _ _ _ _ _) [2] rfl (by (conv => whnf); try rfl) (by (conv => whnf); try rfl) ?_
          conv => whnf
          refine ALoop.run 7 ?_
          conv => whnf
          exact ⟨rfl, rfl⟩
      · rw [h12]
        conv => whnf
        refine ALoop.run 7 ?_
        conv => whnf
        refine ALoop.run 7 ?_
        conv => whnf
        refine ACalls.useE (pot_see _ _ _ _ _ _ _ _ _ _ _) [2] rfl (by (conv => whnf); try rfl) (by (conv => whnf); try rfl) ?_
        conv => whnf
        refine ALoop.run 7 ?_
        conv => whnf
        exact ⟨rfl, rfl⟩
    · clear h'
      refine ACalls.code tabOk h19 Try.func19 Try.call19 ok19 ?_
      conv => whnf
      refine ACalls.code tabOk h27 Try.func27 Try.call27 ok27 ?_
      conv => whnf
      refine ALoop.run 7 ?_
      conv => whnf
      refine Bif.knF ?_ fun h0 => ?_
      · (simp; omega)
      rw [h0]
      conv => whnf
      refine Bif.knF ?_ fun h1 => ?_
      · (simp; omega)
      rw [h1]
      conv => whnf
      refine Bif.knF ?_ fun h2 => ?_
      · (simp; omega)
      rw [h2]
      conv => whnf
      refine Bif.knF ?_ fun h3 => ?_
      · (simp; omega)
      rw [h3]
      conv => whnf
      refine Bif.knF ?_ fun h4 => ?_
      · (simp; omega)
      rw [h4]
      conv => whnf
      refine Bif.knF ?_ fun h5 => ?_
      · (simp; omega)
      rw [h5]
      conv => whnf
      refine Bif.knF ?_ fun h6 => ?_
      · (simp; omega)
      rw [h6]
      conv => whnf
      refine Bif.knF ?_ fun h7 => ?_
      · (simp; omega)
      rw [h7]
      conv => whnf
      refine ACalls.code tabOk h27 Try.func27 Try.call27 ok27 ?_
      conv => whnf
      refine ALoop.run 7 ?_
      conv => whnf
      refine Bif.knF ?_ fun h8 => ?_
      · (simp; omega)
      rw [h8]
      conv => whnf
      refine Bif.knF ?_ fun h9 => ?_
      · (simp; omega)
      rw [h9]
      conv => whnf
      refine ACalls.code tabOk h27 Try.func27 Try.call27 ok27 ?_
      conv => whnf
      refine ALoop.run 7 ?_
      conv => whnf
      refine Bif.knF ?_ fun h10 => ?_
      · (simp; omega)
      rw [h10]
      conv => whnf
      refine Bif.knF ?_ fun h11 => ?_
      · (simp; omega)
      rw [h11]
      conv => whnf
      refine Bif.of (fun h12 => ?_) fun h12 => ?_
      · rw [h12]
        conv => whnf
        refine Bif.of (fun h13 => ?_) fun h13 => ?_
        · rw [h13]
          conv => whnf
          exact ⟨rfl, rfl⟩
        · rw [h13]
          conv => whnf
          refine ALoop.run 7 ?_
          conv => whnf
          refine ALoop.run 7 ?_
          conv => whnf
          refine ACalls.useE (pot_see _ _ _ _ _ _ _ _ _ _ _) [2] rfl (by (conv => whnf); try rfl) (by (conv => whnf); try rfl) ?_
          conv => whnf
          refine ALoop.run 7 ?_
          conv => whnf
          exact ⟨rfl, rfl⟩
      · rw [h12]
        conv => whnf
        refine ALoop.run 7 ?_
        conv => whnf
        refine ALoop.run 7 ?_
        conv => whnf
        refine ACalls.useE (pot_see _ _ _ _ _ _ _ _ _ _ _) [2] rfl (by (conv => whnf); try rfl) (by (conv => whnf); try rfl) ?_
        conv => whnf
        refine ALoop.run 7 ?_
        conv => whnf
        exact ⟨rfl, rfl⟩
    · clear h'
      refine ACalls.code tabOk h19 Try.func19 Try.call19 ok19 ?_
      conv => whnf
      refine ACalls.code tabOk h27 Try.func27 Try.call27 ok27 ?_
      conv => whnf
      refine ALoop.run 7 ?_
      conv => whnf
      refine Bif.knF ?_ fun h0 => ?_
      · (simp; omega)
      rw [h0]
      conv => whnf
      refine Bif.knF ?_ fun h1 => ?_
      · (simp; omega)
      rw [h1]
      conv => whnf
      refine Bif.knF ?_ fun h2 => ?_
      · (simp; omega)
      rw [h2]
      conv => whnf
      refine Bif.knF ?_ fun h3 => ?_
      · (simp; omega)
      rw [h3]
      conv => whnf
      refine Bif.knF ?_ fun h4 => ?_
      · (simp; omega)
      rw [h4]
      conv => whnf
      refine Bif.knF ?_ fun h5 => ?_
      · (simp; omega)
      rw [h5]
      conv => whnf
      refine Bif.knF ?_ fun h6 => ?_
      · (simp; omega)
      rw [h6]
      conv => whnf
      refine Bif.knF ?_ fun h7 => ?_
      · (simp; omega)
      rw [h7]
      conv => whnf
      refine ACalls.code tabOk h27 Try.func27 Try.call27 ok27 ?_
      conv => whnf
      refine ALoop.run 7 ?_
      conv => whnf
      refine Bif.knF ?_ fun h8 => ?_
      · (simp; omega)
      rw [h8]
      conv => whnf
      refine Bif.knF ?_ fun h9 => ?_
      · (simp; omega)
      rw [h9]
      conv => whnf
      refine ACalls.code tabOk h27 Try.func27 Try.call27 ok27 ?_
      conv => whnf
      refine ALoop.run 7 ?_
      conv => whnf
      refine Bif.knF ?_ fun h10 => ?_
      · (simp; omega)
      rw [h10]
      conv => whnf
      refine Bif.knF ?_ fun h11 => ?_
      · (simp; omega)
      rw [h11]
      conv => whnf
      refine Bif.of (fun h12 => ?_) fun h12 => ?_
      · rw [h12]
        conv => whnf
        refine Bif.of (fun h13 => ?_) fun h13 => ?_
        · rw [h13]
          conv => whnf
          exact ⟨rfl, rfl⟩
        · rw [h13]
          conv => whnf
          refine ALoop.run 7 ?_
          conv => whnf
          refine ALoop.run 7 ?_
          conv => whnf
          refine ACalls.useE (pot_see _ _ _ _ _ _ _ _ _ _ _) [2] rfl (by (conv => whnf); try rfl) (by (conv => whnf); try rfl) ?_
          conv => whnf
          refine ALoop.run 7 ?_
          conv => whnf
          exact ⟨rfl, rfl⟩
      · rw [h12]
        conv => whnf
        refine ALoop.run 7 ?_
        conv => whnf
        refine ALoop.run 7 ?_
        conv => whnf
        refine ACalls.useE (pot_see _ _ _ _ _ _ _ _ _ _ _) [2] rfl (by (conv => whnf); try rfl) (by (conv => whnf); try rfl) ?_
        conv => whnf
        refine ALoop.run 7 ?_
        conv => whnf
        exact ⟨rfl, rfl⟩
    · exfalso; omega
    · exfalso; omega
    · clear h'
      refine ACalls.code tabOk h19 Try.func19 Try.call19 ok19 ?_
      conv => whnf
      refine ACalls.code tabOk h27 Try.func27 Try.call27 ok27 ?_
      conv => whnf
      refine ALoop.run 7 ?_
      conv => whnf
      refine Bif.knF ?_ fun h0 => ?_
      · (simp; omega)
      rw [h0]
      conv => whnf
      refine Bif.knF ?_ fun h1 => ?_
      · (simp; omega)
      rw [h1]
      conv => whnf
      refine Bif.knF ?_ fun h2 => ?_
      · (simp; omega)
      rw [h2]
      conv => whnf
      refine Bif.knF ?_ fun h3 => ?_
      · (simp; omega)
      rw [h3]
      conv => whnf
      refine Bif.knF ?_ fun h4 => ?_
      · (simp; omega)
      rw [h4]
      conv => whnf
      refine Bif.knF ?_ fun h5 => ?_
      · (simp; omega)
      rw [h5]
      conv => whnf
      refine Bif.knF ?_ fun h6 => ?_
      · (simp; omega)
      rw [h6]
      conv => whnf
      refine Bif.knF ?_ fun h7 => ?_
      · (simp; omega)
      rw [h7]
      conv => whnf
      refine ACalls.code tabOk h27 Try.func27 Try.call27 ok27 ?_
      conv => whnf
      refine ALoop.run 7 ?_
      conv => whnf
      refine Bif.knF ?_ fun h8 => ?_
      · (simp; omega)
      rw [h8]
      conv => whnf
      refine Bif.knF ?_ fun h9 => ?_
      · (simp; omega)
      rw [h9]
      conv => whnf
      refine ACalls.code tabOk h27 Try.func27 Try.call27 ok27 ?_
      conv => whnf
      refine ALoop.run 7 ?_
      conv => whnf
      refine Bif.knF ?_ fun h10 => ?_
      · (simp; omega)
      rw [h10]
      conv => whnf
      refine Bif.knF ?_ fun h11 => ?_
      · (simp; omega)
      rw [h11]
      conv => whnf
      refine Bif.of (fun h12 => ?_) fun h12 => ?_
      · rw [h12]
        conv => whnf
        refine Bif.of (fun h13 => ?_) fun h13 => ?_
        · rw [h13]
          conv => whnf
          exact ⟨rfl, rfl⟩
        · rw [h13]
          conv => whnf
          refine ALoop.run 7 ?_
          conv => whnf
          refine ALoop.run 7 ?_
          conv => whnf
          refine ACalls.useE (pot_see _ _ _ _ _ _ _ _ _ _ _) [2] rfl (by (conv => whnf); try rfl) (by (conv => whnf); try rfl) ?_
          conv => whnf
          refine ALoop.run 7 ?_
          conv => whnf
          exact ⟨rfl, rfl⟩
      · rw [h12]
        conv => whnf
        refine ALoop.run 7 ?_
        conv => whnf
        refine ALoop.run 7 ?_
        conv => whnf
        refine ACalls.useE (pot_see _ _ _ _ _ _ _ _ _ _ _) [2] rfl (by (conv => whnf); try rfl) (by (conv => whnf); try rfl) ?_
        conv => whnf
        refine ALoop.run 7 ?_
        conv => whnf
        exact ⟨rfl, rfl⟩
    · clear h'
      refine ACalls.code tabOk h19 Try.func19 Try.call19 ok19 ?_
      conv => whnf
      refine ACalls.code tabOk h27 Try.func27 Try.call27 ok27 ?_
      conv => whnf
      refine ALoop.run 7 ?_
      conv => whnf
      refine Bif.knF ?_ fun h0 => ?_
      · (simp; omega)
      rw [h0]
      conv => whnf
      refine Bif.knF ?_ fun h1 => ?_
      · (simp; omega)
      rw [h1]
      conv => whnf
      refine Bif.knF ?_ fun h2 => ?_
      · (simp; omega)
      rw [h2]
      conv => whnf
      refine Bif.knF ?_ fun h3 => ?_
      · (simp; omega)
      rw [h3]
      conv => whnf
      refine Bif.knF ?_ fun h4 => ?_
      · (simp; omega)
      rw [h4]
      conv => whnf
      refine Bif.knF ?_ fun h5 => ?_
      · (simp; omega)
      rw [h5]
      conv => whnf
      refine Bif.knF ?_ fun h6 => ?_
      · (simp; omega)
      rw [h6]
      conv => whnf
      refine Bif.knF ?_ fun h7 => ?_
      · (simp; omega)
      rw [h7]
      conv => whnf
      refine ACalls.code tabOk h27 Try.func27 Try.call27 ok27 ?_
      conv => whnf
      refine ALoop.run 7 ?_
      conv => whnf
      refine Bif.knF ?_ fun h8 => ?_
      · (simp; omega)
      rw [h8]
      conv => whnf
      refine Bif.knF ?_ fun h9 => ?_
      · (simp; omega)
      rw [h9]
      conv => whnf
      refine ACalls.code tabOk h27 Try.func27 Try.call27 ok27 ?_
      conv => whnf
      refine ALoop.run 7 ?_
      conv => whnf
      refine Bif.knF ?_ fun h10 => ?_
      · (simp; omega)
      rw [h10]
      conv => whnf
      refine Bif.knF ?_ fun h11 => ?_
      · (simp; omega)
      rw [h11]
      conv => whnf
      refine Bif.of (fun h12 => ?_) fun h12 => ?_
      · rw [h12]
        conv => whnf
        refine Bif.of (fun h13 => ?_) fun h13 => ?_
        · rw [h13]
          conv => whnf
          exact ⟨rfl, rfl⟩
        · rw [h13]
          conv => whnf
          refine ALoop.run 7 ?_
          conv => whnf
          refine ALoop.run 7 ?_
          conv => whnf
          refine ACalls.useE (pot_see _ _ _ _ _ _ _ _ _ _ _) [2] rfl (by (conv => whnf); try rfl) (by (conv => whnf); try rfl) ?_
          conv => whnf
          refine ALoop.run 7 ?_
          conv => whnf
          exact ⟨rfl, rfl⟩
      · rw [h12]
        conv => whnf
        refine ALoop.run 7 ?_
        conv => whnf
        refine ALoop.run 7 ?_
        conv => whnf
        refine ACalls.useE (pot_see _ _ _ _ _ _ _ _ _ _ _) [2] rfl (by (conv => whnf); try rfl) (by (conv => whnf); try rfl) ?_
        conv => whnf
        refine ALoop.run 7 ?_
        conv => whnf
        exact ⟨rfl, rfl⟩
    · clear h'
      refine ACalls.code tabOk h19 Try.func19 Try.call19 ok19 ?_
      conv => whnf
      refine ACalls.code tabOk h27 Try.func27 Try.call27 ok27 ?_
      conv => whnf
      refine ALoop.run 7 ?_
      conv => whnf
      refine Bif.knF ?_ fun h0 => ?_
      · (simp; omega)
      rw [h0]
      conv => whnf
      refine Bif.knF ?_ fun h1 => ?_
      · (simp; omega)
      rw [h1]
      conv => whnf
      refine Bif.knF ?_ fun h2 => ?_
      · (simp; omega)
      rw [h2]
      conv => whnf
      refine Bif.knF ?_ fun h3 => ?_
      · (simp; omega)
      rw [h3]
      conv => whnf
      refine Bif.knF ?_ fun h4 => ?_
      · (simp; omega)
      rw [h4]
      conv => whnf
      refine Bif.knF ?_ fun h5 => ?_
      · (simp; omega)
      rw [h5]
      conv => whnf
      refine Bif.knF ?_ fun h6 => ?_
      · (simp; omega)
      rw [h6]
      conv => whnf
      refine Bif.knF ?_ fun h7 => ?_
      · (simp; omega)
      rw [h7]
      conv => whnf
      refine ACalls.code tabOk h27 Try.func27 Try.call27 ok27 ?_
      conv => whnf
      refine ALoop.run 7 ?_
      conv => whnf
      refine Bif.knF ?_ fun h8 => ?_
      · (simp; omega)
      rw [h8]
      conv => whnf
      refine Bif.knF ?_ fun h9 => ?_
      · (simp; omega)
      rw [h9]
      conv => whnf
      refine ACalls.code tabOk h27 Try.func27 Try.call27 ok27 ?_
      conv => whnf
      refine ALoop.run 7 ?_
      conv => whnf
      refine Bif.knF ?_ fun h10 => ?_
      · (simp; omega)
      rw [h10]
      conv => whnf
      refine Bif.knF ?_ fun h11 => ?_
      · (simp; omega)
      rw [h11]
      conv => whnf
      refine Bif.of (fun h12 => ?_) fun h12 => ?_
      · rw [h12]
        conv => whnf
        refine Bif.of (fun h13 => ?_) fun h13 => ?_
        · rw [h13]
          conv => whnf
          exact ⟨rfl, rfl⟩
        · rw [h13]
          conv => whnf
          refine ALoop.run 7 ?_
          conv => whnf
          refine ALoop.run 7 ?_
          conv => whnf
          refine ACalls.useE (pot_see _ _ _ _ _ _ _ _ _ _ _) [2] rfl (by (conv => whnf); try rfl) (by (conv => whnf); try rfl) ?_
          conv => whnf
          refine ALoop.run 7 ?_
          conv => whnf
          exact ⟨rfl, rfl⟩
      · rw [h12]
        conv => whnf
        refine ALoop.run 7 ?_
        conv => whnf
        refine ALoop.run 7 ?_
        conv => whnf
        refine ACalls.useE (pot_see _ _ _ _ _ _ _ _ _ _ _) [2] rfl (by (conv => whnf); try rfl) (by (conv => whnf); try rfl) ?_
        conv => whnf
        refine ALoop.run 7 ?_
        conv => whnf
        exact ⟨rfl, rfl⟩
    · clear h'
      refine ACalls.code tabOk h19 Try.func19 Try.call19 ok19 ?_
      conv => whnf
      refine ACalls.code tabOk h27 Try.func27 Try.call27 ok27 ?_
      conv => whnf
      refine ALoop.run 7 ?_
      conv => whnf
      refine Bif.knF ?_ fun h0 => ?_
      · (simp; omega)
      rw [h0]
      conv => whnf
      refine Bif.knF ?_ fun h1 => ?_
      · (simp; omega)
      rw [h1]
      conv => whnf
      refine Bif.knF ?_ fun h2 => ?_
      · (simp; omega)
      rw [h2]
      conv => whnf
      refine Bif.knF ?_ fun h3 => ?_
      · (simp; omega)
      rw [h3]
      conv => whnf
      refine Bif.knF ?_ fun h4 => ?_
      · (simp; omega)
      rw [h4]
      conv => whnf
      refine Bif.knF ?_ fun h5 => ?_
      · (simp; omega)
      rw [h5]
      conv => whnf
      refine Bif.knF ?_ fun h6 => ?_
      · (simp; omega)
      rw [h6]
      conv => whnf
      refine Bif.knF ?_ fun h7 => ?_
      · (simp; omega)
      rw [h7]
      conv => whnf
      refine ACalls.code tabOk h27 Try.func27 Try.call27 ok27 ?_
      conv => whnf
      refine ALoop.run 7 ?_
      conv => whnf
      refine Bif.knF ?_ fun h8 => ?_
      · (simp; omega)
      rw [h8]
      conv => whnf
      refine Bif.knF ?_ fun h9 => ?_
      · (simp; omega)
      rw [h9]
      conv => whnf
      refine ACalls.code tabOk h27 Try.func27 Try.call27 ok27 ?_
      conv => whnf
      refine ALoop.run 7 ?_
      conv => whnf
      refine Bif.knF ?_ fun h10 => ?_
      · (simp; omega)
      rw [h10]
      conv => whnf
      refine Bif.knF ?_ fun h11 => ?_
      · (simp; omega)
      rw [h11]
      conv => whnf
      refine Bif.of (fun h12 => ?_) fun h12 => ?_
      · rw [h12]
        conv => whnf
        refine Bif.of (fun h13 => ?_) fun h13 => ?_
        · rw [h13]
          conv => whnf
          exact ⟨rfl, rfl⟩
        · rw [h13]
          conv => whnf
          refine ALoop.run 7 ?_
          conv => whnf
          refine ALoop.run 7 ?_
          conv => whnf
          refine ACalls.useE (pot_see _ _ _ _ _ _ _ _ _ _ _) [2] rfl (by (conv => whnf); try rfl) (by (conv => whnf); try rfl) ?_
          conv => whnf
          refine ALoop.run 7 ?_
          conv => whnf
          exact ⟨rfl, rfl⟩
      · rw [h12]
        conv => whnf
        refine ALoop.run 7 ?_
        conv => whnf
        refine ALoop.run 7 ?_
        conv => whnf
        refine ACalls.useE (pot_see _ _ _ _ _ _ _ _ _ _ _) [2] rfl (by (conv => whnf); try rfl) (by (conv => whnf); try rfl) ?_
        conv => whnf
        refine ALoop.run 7 ?_
        conv => whnf
        exact ⟨rfl, rfl⟩
    · clear h'
      refine ACalls.code tabOk h19 Try.func19 Try.call19 ok19 ?_
      conv => whnf
      refine ACalls.code tabOk h27 Try.func27 Try.call27 ok27 ?_
      conv => whnf
      refine ALoop.run 7 ?_
      conv => whnf
      refine Bif.knF ?_ fun h0 => ?_
      · (simp; omega)
      rw [h0]
      conv => whnf
      refine Bif.knF ?_ fun h1 => ?_
      · (simp; omega)
      rw [h1]
      conv => whnf
      refine Bif.knF ?_ fun h2 => ?_
      · (simp; omega)
      rw [h2]
      conv => whnf
      refine Bif.knF ?_ fun h3 => ?_
      · (simp; omega)
      rw [h3]
      conv => whnf
      refine Bif.knF ?_ fun h4 => ?_
      · (simp; omega)
      rw [h4]
      conv => whnf
      refine Bif.knF ?_ fun h5 => ?_
      · (simp; omega)
      rw [h5]
      conv => whnf
      refine Bif.knF ?_ fun h6 => ?_
      · (simp; omega)
      rw [h6]
      conv => whnf
      refine Bif.knF ?_ fun h7 => ?_
      · (simp; omega)
      rw [h7]
      conv => whnf
      refine ACalls.code tabOk h27 Try.func27 Try.call27 ok27 ?_
      conv => whnf
      refine ALoop.run 7 ?_
      conv => whnf
      refine Bif.knF ?_ fun h8 => ?_
      · (simp; omega)
      rw [h8]
      conv => whnf
      refine Bif.knF ?_ fun h9 => ?_
      · (simp; omega)
      rw [h9]
      conv => whnf
      refine ACalls.code tabOk h27 Try.func27 Try.call27 ok27 ?_
      conv => whnf
      refine ALoop.run 7 ?_
      conv => whnf
      refine Bif.knF ?_ fun h10 => ?_
      · (simp; omega)
      rw [h10]
      conv => whnf
      refine Bif.knF ?_ fun h11 => ?_
      · (simp; omega)
      rw [h11]
      conv => whnf
      refine Bif.of (fun h12 => ?_) fun h12 => ?_
      · rw [h12]
        conv => whnf
        refine Bif.of (fun h13 => ?_) fun h13 => ?_
        · rw [h13]
          conv => whnf
          exact ⟨rfl, rfl⟩
        · rw [h13]
          conv => whnf
          refine ALoop.run 7 ?_
          conv => whnf
          refine ALoop.run 7 ?_
          conv => whnf
          refine ACalls.useE (pot_see _ _ _ _ _ _ _ _ _ _ _) [2] rfl (by (conv => whnf); try rfl) (by (conv => whnf); try rfl) ?_
          conv => whnf
          refine ALoop.run 7 ?_
          conv => whnf
          exact ⟨rfl, rfl⟩
      · rw [h12]
        conv => whnf
        refine ALoop.run 7 ?_
        conv => whnf
        refine ALoop.run 7 ?_
        conv => whnf
        refine ACalls.useE (pot_see _ _ _ _ _ _ _ _ _ _ _) [2] rfl (by (conv => whnf); try rfl) (by (conv => whnf); try rfl) ?_
        conv => whnf
        refine ALoop.run 7 ?_
        conv => whnf
        exact ⟨rfl, rfl⟩
    · clear h'
      refine ACalls.code tabOk h19 Try.func19 Try.call19 ok19 ?_
      conv => whnf
      refine ACalls.code tabOk h27 Try.func27 Try.call27 ok27 ?_
      conv => whnf
      refine ALoop.run 7 ?_
      conv => whnf
      refine Bif.knF ?_ fun h0 => ?_
      · (simp; omega)
      rw [h0]
      conv => whnf
      refine Bif.knF ?_ fun h1 => ?_
      · (simp; omega)
      rw [h1]
      conv => whnf
      refine Bif.knF ?_ fun h2 => ?_
      · (simp; omega)
      rw [h2]
      conv => whnf
      refine Bif.knF ?_ fun h3 => ?_
      · (simp; omega)
      rw [h3]
      conv => whnf
      refine Bif.knF ?_ fun h4 => ?_
      · (simp; omega)
      rw [h4]
      conv => whnf
      refine Bif.knF ?_ fun h5 => ?_
      · (simp; omega)
      rw [h5]
      conv => whnf
      refine Bif.knF ?_ fun h6 => ?_
      · (simp; omega)
      rw [h6]
      conv => whnf
      refine Bif.knF ?_ fun h7 => ?_
      · (simp; omega)
      rw [h7]
      conv => whnf
      refine ACalls.code tabOk h27 Try.func27 Try.call27 ok27 ?_
      conv => whnf
      refine ALoop.run 7 ?_
      conv => whnf
      refine Bif.knF ?_ fun h8 => ?_
      · (simp; omega)
      rw [h8]
      conv => whnf
      refine Bif.knF ?_ fun h9 => ?_
      · (simp; omega)
      rw [h9]
      conv => whnf
      refine ACalls.code tabOk h27 Try.func27 Try.call27 ok27 ?_
      conv => whnf
      refine ALoop.run 7 ?_
      conv => whnf
      refine Bif.knF ?_ fun h10 => ?_
      · (simp; omega)
      rw [h10]
      conv => whnf
      refine Bif.knF ?_ fun h11 => ?_
      · (simp; omega)
      rw [h11]
      conv => whnf
      refine Bif.of (fun h12 => ?_) fun h12 => ?_
      · rw [h12]
        conv => whnf
        refine Bif.of (fun h13 => ?_) fun h13 => ?_
        · rw [h13]
          conv => whnf
          exact ⟨rfl, rfl⟩
        · rw [h13]
          conv => whnf
          refine ALoop.run 7 ?_
          conv => whnf
          refine ALoop.run 7 ?_
          conv => whnf
          refine ACalls.useE (pot_see _ _ _ _ _ _ _ _ _ _ _) [2] rfl (by (conv => whnf); try rfl) (by (conv => whnf); try rfl) ?_
          conv => whnf
          refine ALoop.run 7 ?_
          conv => whnf
          exact ⟨rfl, rfl⟩
      · rw [h12]
        conv => whnf
        refine ALoop.run 7 ?_
        conv => whnf
        refine ALoop.run 7 ?_
        conv => whnf
        refine ACalls.useE (pot_see _ _ _ _ _ _ _ _ _ _ _) [2] rfl (by (conv => whnf); try rfl) (by (conv => whnf); try rfl) ?_
        conv => whnf
        refine ALoop.run 7 ?_
        conv => whnf
        exact ⟨rfl, rfl⟩
    · exfalso; omega
    · exfalso; omega
    · exfalso; omega
    · clear h'
      refine ACalls.code tabOk h19 Try.func19 Try.call19 ok19 ?_
      conv => whnf
      refine ACalls.code tabOk h27 Try.func27 Try.call27 ok27 ?_
      conv => whnf
      refine ALoop.run 7 ?_
      conv => whnf
      refine Bif.knF ?_ fun h0 => ?_
      · (simp; omega)
      rw [h0]
      conv => whnf
      refine Bif.knF ?_ fun h1 => ?_
      · (simp; omega)
      rw [h1]
      conv => whnf
      refine Bif.knF ?_ fun h2 => ?_
      · (simp; omega)
      rw [h2]
      conv => whnf
      refine Bif.knF ?_ fun h3 => ?_
      · (simp; omega)
      rw [h3]
      conv => whnf
      refine Bif.knF ?_ fun h4 => ?_
      · (simp; omega)
      rw [h4]
      conv => whnf
      refine Bif.knF ?_ fun h5 => ?_
      · (simp; omega)
      rw [h5]
      conv => whnf
      refine Bif.knF ?_ fun h6 => ?_
      · (simp; omega)
      rw [h6]
      conv => whnf
      refine Bif.knF ?_ fun h7 => ?_
      · (simp; omega)
      rw [h7]
      conv => whnf
      refine ACalls.code tabOk h27 Try.func27 Try.call27 ok27 ?_
      conv => whnf
      refine ALoop.run 7 ?_
      conv => whnf
      refine Bif.knF ?_ fun h8 => ?_
      · (simp; omega)
      rw [h8]
      conv => whnf
      refine Bif.knF ?_ fun h9 => ?_
      · (simp; omega)
      rw [h9]
      conv => whnf
      refine ACalls.code tabOk h27 Try.func27 Try.call27 ok27 ?_
      conv => whnf
      refine ALoop.run 7 ?_
      conv => whnf
      refine Bif.knF ?_ fun h10 => ?_
      · (simp; omega)
      rw [h10]
      conv => whnf
      refine Bif.knF ?_ fun h11 => ?_
      · (simp; omega)
      rw [h11]
      conv => whnf
      refine Bif.of (fun h12 => ?_) fun h12 => ?_
      · rw [h12]
        conv => whnf
        refine Bif.of (fun h13 => ?_) fun h13 => ?_
        · rw [h13]
          conv => whnf
          exact ⟨rfl, rfl⟩
        · rw [h13]
          conv => whnf
          refine ALoop.run 7 ?_
          conv => whnf
          refine ALoop.run 7 ?_
          conv => whnf
          refine ACalls.useE (pot_see _ _ _ _ _ _ _ _ _ _ _) [2] rfl (by (conv => whnf); try rfl) (by (conv => whnf); try rfl) ?_
          conv => whnf
          refine ALoop.run 7 ?_
          conv => whnf
          exact ⟨rfl, rfl⟩
      · rw [h12]
        conv => whnf
        refine ALoop.run 7 ?_
        conv => whnf
        refine ALoop.run 7 ?_
        conv => whnf
        refine ACalls.useE (pot_see _ _ _ _ _ _ _ _ _ _ _) [2] rfl (by (conv => whnf); try rfl) (by (conv => whnf); try rfl) ?_
        conv => whnf
        refine ALoop.run 7 ?_
        conv => whnf
        exact ⟨rfl, rfl⟩
    · clear h'
      refine ACalls.code tabOk h19 Try.func19 Try.call19 ok19 ?_
      conv => whnf
      refine ACalls.code tabOk h27 Try.func27 Try.call27 ok27 ?_
      conv => whnf
      refine ALoop.run 7 ?_
      conv => whnf
      refine Bif.knF ?_ fun h0 => ?_
      · (simp; omega)
      rw [h0]
      conv => whnf
      refine Bif.knF ?_ fun h1 => ?_
      · (simp; omega)
      rw [h1]
      conv => whnf
      refine Bif.knF ?_ fun h2 => ?_
      · (simp; omega)
      rw [h2]
      conv => whnf
      refine Bif.knF ?_ fun h3 => ?_
      · (simp; omega)
      rw [h3]
      conv => whnf
      refine Bif.knF ?_ fun h4 => ?_
      · (simp; omega)
      rw [h4]
      conv => whnf
      refine Bif.knF ?_ fun h5 => ?_
      · (simp; omega)
      rw [h5]
      conv => whnf
      refine Bif.knF ?_ fun h6 => ?_
      · (simp; omega)
      rw [h6]
      conv => whnf
      refine Bif.knF ?_ fun h7 => ?_
      · (simp; omega)
      rw [h7]
      conv => whnf
      refine ACalls.code tabOk h27 Try.func27 Try.call27 ok27 ?_
      conv => whnf
      refine ALoop.run 7 ?_
      conv => whnf
      refine Bif.knF ?_ fun h8 => ?_
      · (simp; omega)
      rw [h8]
      conv => whnf
      refine Bif.knF ?_ fun h9 => ?_
      · (simp; omega)
      rw [h9]
      conv => whnf
      refine ACalls.code tabOk h27 Try.func27 Try.call27 ok27 ?_
      conv => whnf
      refine ALoop.run 7 ?_
      conv => whnf
      refine Bif.knF ?_ fun h10 => ?_
      · (simp; omega)
      rw [h10]
      conv => whnf
      refine Bif.knF ?_ fun h11 => ?_
      · (simp; omega)
      rw [h11]
      conv => whnf
      refine Bif.of (fun h12 => ?_) fun h12 => ?_
      · rw [h12]
        conv => whnf
        refine Bif.of (fun h13 => ?_) fun h13 => ?_
        · rw [h13]
          conv => whnf
          exact ⟨rfl, rfl⟩
        · rw [h13]
          conv => whnf
          refine ALoop.run 7 ?_
          conv => whnf
          refine ALoop.run 7 ?_
          conv => whnf
          refine ACalls.useE (pot_see _ _ _ _ _ _ _ _ _ _ _) [2] rfl (by (conv => whnf); try rfl) (by (conv => whnf); try rfl) ?_
          conv => whnf
          refine ALoop.run 7 ?_
          conv => whnf
          exact ⟨rfl, rfl⟩
      · rw [h12]
        conv => whnf
        refine ALoop.run 7 ?_
        conv => whnf
        refine ALoop.run 7 ?_
        conv => whnf
        refine ACalls.useE (pot_see _ _ _ _ _ _ _ _ _ _ _) [2] rfl (by (conv => whnf); try rfl) (by (conv => whnf); try rfl) ?_
        conv => whnf
        refine ALoop.run 7 ?_
        conv => whnf
        exact ⟨rfl, rfl⟩
    · clear h'
      refine ACalls.code tabOk h19 Try.func19 Try.call19 ok19 ?_
      conv => whnf
      refine ACalls.code tabOk h27 Try.func27 Try.call27 ok27 ?_
      conv => whnf
      refine ALoop.run 7 ?_
      conv => whnf
      refine Bif.knF ?_ fun h0 => ?_
      · (simp; omega)
      rw [h0]
      conv => whnf
      refine Bif.knF ?_ fun h1 => ?_
      · (simp; omega)
      rw [h1]
      conv => whnf
      refine Bif.knF ?_ fun h2 => ?_
      · (simp; omega)
      rw [h2]
      conv => whnf
      refine Bif.knF ?_ fun h3 => ?_
      · (simp; omega)
      rw [h3]
      conv => whnf
      refine Bif.knF ?_ fun h4 => ?_
      · (simp; omega)
      rw [h4]
      conv => whnf
      refine Bif.knF ?_ fun h5 => ?_
      · (simp; omega)
      rw [h5]
      conv => whnf
      refine Bif.knF ?_ fun h6 => ?_
      · (simp; omega)
      rw [h6]
      conv => whnf
      refine Bif.knF ?_ fun h7 => ?_
      · (simp; omega)
      rw [h7]
      conv => whnf
      refine ACalls.code tabOk h27 Try.func27 Try.call27 ok27 ?_
      conv => whnf
      refine ALoop.run 7 ?_
      conv => whnf
      refine Bif.knF ?_ fun h8 => ?_
      · (simp; omega)
      rw [h8]
      conv => whnf
      refine Bif.knF ?_ fun h9 => ?_
      · (simp; omega)
      rw [h9]
      conv => whnf
      refine ACalls.code tabOk h27 Try.func27 Try.call27 ok27 ?_
      conv => whnf
      refine ALoop.run 7 ?_
      conv => whnf
      refine Bif.knF ?_ fun h10 => ?_
      · (simp; omega)
      rw [h10]
      conv => whnf
      refine Bif.knF ?_ fun h11 => ?_
      · (simp; omega)
      rw [h11]
      conv => whnf
      refine Bif.of (fun h12 => ?_) fun h12 => ?_
      · rw [h12]
        conv => whnf
        refine Bif.of (fun h13 => ?_) fun h13 => ?_
        · rw [h13]
          conv => whnf
          exact ⟨rfl, rfl⟩
        · rw [h13]
          conv => whnf
          refine ALoop.run 7 ?_
          conv => whnf
          refine ALoop.run 7 ?_
          conv => whnf
          refine ACalls.useE (pot_see _ _ _ _ _ _ _ _ _ _ _) [2] rfl (by (conv => whnf); try rfl) (by (conv => whnf); try rfl) ?_
          conv => whnf
          refine ALoop.run 7 ?_
          conv => whnf
          exact ⟨rfl, rfl⟩
      · rw [h12]
        conv => whnf
        refine ALoop.run 7 ?_
        conv => whnf
        refine ALoop.run 7 ?_
        conv => whnf
        refine ACalls.useE (pot_see _ _ _ _ _ _ _ _ _ _ _) [2] rfl (by (conv => whnf); try rfl) (by (conv => whnf); try rfl) ?_
        conv => whnf
        refine ALoop.run 7 ?_
        conv => whnf
        exact ⟨rfl, rfl⟩
    · clear h'
      refine ACalls.code tabOk h19 Try.func19 Try.call19 ok19 ?_
      conv => whnf
      refine ACalls.code tabOk h27 Try.func27 Try.call27 ok27 ?_
      conv => whnf
      refine ALoop.run 7 ?_
      conv => whnf
      refine Bif.knF ?_ fun h0 => ?_
      · (simp; omega)
      rw [h0]
      conv => whnf
      refine Bif.knF ?_ fun h1 => ?_
      · (simp; omega)
      rw [h1]
      conv => whnf
      refine Bif.knF ?_ fun h2 => ?_
      · (simp; omega)
      rw [h2]
      conv => whnf
      refine Bif.knF ?_ fun h3 => ?_
      · (simp; omega)
      rw [h3]
      conv => whnf
      refine Bif.knF ?_ fun h4 => ?_
      · (simp; omega)
      rw [h4]
      conv => whnf
      refine Bif.knF ?_ fun h5 => ?_
      · (simp; omega)
      rw [h5]
      conv => whnf
      refine Bif.knF ?_ fun h6 => ?_
      · (simp; omega)
      rw [h6]
      conv => whnf
      refine Bif.knF ?_ fun h7 => ?_
      · (simp; omega)
      rw [h7]
      conv => whnf
      refine ACalls.code tabOk h27 Try.func27 Try.call27 ok27 ?_
      conv => whnf
      refine ALoop.run 7 ?_
      conv => whnf
      refine Bif.knF ?_ fun h8 => ?_
      · (simp; omega)
      rw [h8]
      conv => whnf
      refine Bif.knF ?_ fun h9 => ?_
      · (simp; omega)
      rw [h9]
      conv => whnf
      refine ACalls.code tabOk h27 Try.func27 Try.call27 ok27 ?_
      conv => whnf
      refine ALoop.run 7 ?_
      conv => whnf
      refine Bif.knF ?_ fun h10 => ?_
      · (simp; omega)
      rw [h10]
      conv => whnf
      refine Bif.knF ?_ fun h11 => ?_
      · (simp; omega)
      rw [h11]
      conv => whnf
      refine Bif.of (fun h12 => ?_) fun h12 => ?_
      · rw [h12]
        conv => whnf
        refine Bif.of (fun h13 => ?_) fun h13 => ?_
        · rw [h13]
          conv => whnf
          exact ⟨rfl, rfl⟩
        · rw [h13]
          conv => whnf
          refine ALoop.run 7 ?_
          conv => whnf
          refine ALoop.run 7 ?_
          conv => whnf
          refine ACalls.useE (pot_see _ _ _ _ _ _ _ _ _ _ _) [2] rfl (by (conv => whnf); try rfl) (by (conv => whnf); try rfl) ?_
          conv => whnf
          refine ALoop.run 7 ?_
          conv => whnf
          exact ⟨rfl, rfl⟩
      · rw [h12]
        conv => whnf
        refine ALoop.run 7 ?_
        conv => whnf
        refine ALoop.run 7 ?_
        conv => whnf
        refine ACalls.useE (pot_see _ _ _ _ _ _ _ _ _ _ _) [2] rfl (by (conv => whnf); try rfl) (by (conv => whnf); try rfl) ?_
        conv => whnf
        refine ALoop.run 7 ?_
        conv => whnf
        exact ⟨rfl, rfl⟩
    · clear h'
      refine ACalls.code tabOk h19 Try.func19 Try.call19 ok19 ?_
      conv => whnf
      refine ACalls.code tabOk h27 Try.func27 Try.call27 ok27 ?_
      conv => whnf
      refine ALoop.run 7 ?_
      conv => whnf
      refine Bif.knF ?_ fun h0 => ?_
      · (simp; omega)
      rw [h0]
      conv => whnf
      refine Bif.knF ?_ fun h1 => ?_
      · (simp; omega)
      rw [h1]
      conv => whnf
      refine Bif.knF ?_ fun h2 => ?_
      · (simp; omega)
      rw [h2]
      conv => whnf
      refine Bif.knF ?_ fun h3 => ?_
      · (simp; omega)
      rw [h3]
      conv => whnf
      refine Bif.knF ?_ fun h4 => ?_
      · (simp; omega)
      rw [h4]
      conv => whnf
      refine Bif.knF ?_ fun h5 => ?_
      · (simp; omega)
      rw [h5]
      conv => whnf
      refine Bif.knF ?_ fun h6 => ?_
      · (simp; omega)
      rw [h6]
      conv => whnf
      refine Bif.knF ?_ fun h7 => ?_
      · (simp; omega)
      rw [h7]
      conv => whnf
      refine ACalls.code tabOk h27 Try.func27 Try.call27 ok27 ?_
      conv => whnf
      refine ALoop.run 7 ?_
      conv => whnf
      refine Bif.knF ?_ fun h8 => ?_
      · (simp; omega)
      rw [h8]
      conv => whnf
      refine Bif.knF ?_ fun h9 => ?_
      · (simp; omega)
      rw [h9]
      conv => whnf
      refine ACalls.code tabOk h27 Try.func27 Try.call27 ok27 ?_
      conv => whnf
      refine ALoop.run 7 ?_
      conv => whnf
      refine Bif.knF ?_ fun h10 => ?_
      · (simp; omega)
      rw [h10]
      conv => whnf
      refine Bif.knF ?_ fun h11 => ?_
      · (simp; omega)
      rw [h11]
      conv => whnf
      refine Bif.of (fun h12 => ?_) fun h12 => ?_
      · rw [h12]
        conv => whnf
        refine Bif.of (fun h13 => ?_) fun h13 => ?_
        · rw [h13]
          conv => whnf
          exact ⟨rfl, rfl⟩
        · rw [h13]
          conv => whnf
          refine ALoop.run 7 ?_
          conv => whnf
          refine ALoop.run 7 ?_
          conv => whnf
          refine ACalls.useE (pot_see _ _ _ _ _ _ _ _ _ _ _) [2] rfl (by (conv => whnf); try rfl) (by (conv => whnf); try rfl) ?_
          conv => whnf
          refine ALoop.run 7 ?_
          conv => whnf
          exact ⟨rfl, rfl⟩
      · rw [h12]
        conv => whnf
        refine ALoop.run 7 ?_
        conv => whnf
        refine ALoop.run 7 ?_
        conv => whnf
        refine ACalls.useE (pot_see _ _ _ _ _ _ _ _ _ _ _) [2] rfl (by (conv => whnf); try rfl) (by (conv => whnf); try rfl) ?_
        conv => whnf
        refine ALoop.run 7 ?_
        conv => whnf
        exact ⟨rfl, rfl⟩
    · exfalso; omega
    · exfalso; omega
    · clear h'
      refine ACalls.code tabOk h19 Try.func19 Try.call19 ok19 ?_
      conv => whnf
      refine ACalls.code tabOk h27 Try.func27 Try.call27 ok27 ?_
      conv => whnf
      refine ALoop.run 7 ?_
      conv => whnf
      refine Bif.knF ?_ fun h0 => ?_
      · (simp; omega)
      rw [h0]
      conv => whnf
      refine Bif.knF ?_ fun h1 => ?_
      · (simp; omega)
      rw [h1]
      conv => whnf
      refine Bif.knF ?_ fun h2 => ?_
      · (simp; omega)
      rw [h2]
      conv => whnf
      refine Bif.knF ?_ fun h3 => ?_
      · (simp; omega)
      rw [h3]
      conv => whnf
      refine Bif.knF ?_ fun h4 => ?_
      · (simp; omega)
      rw [h4]
      conv => whnf
      refine Bif.knF ?_ fun h5 => ?_
      · (simp; omega)
      rw [h5]
      conv => whnf
      refine Bif.knF ?_ fun h6 => ?_
      · (simp; omega)
      rw [h6]
      conv => whnf
      refine Bif.knF ?_ fun h7 => ?_
      · (simp; omega)
      rw [h7]
      conv => whnf
      refine ACalls.code tabOk h27 Try.func27 Try.call27 ok27 ?_
      conv => whnf
      refine ALoop.run 7 ?_
      conv => whnf
      refine Bif.knF ?_ fun h8 => ?_
      · (simp; omega)
      rw [h8]
      conv => whnf
      refine Bif.knF ?_ fun h9 => ?_
      · (simp; omega)
      rw [h9]
      conv => whnf
      refine ACalls.code tabOk h27 Try.func27 Try.call27 ok27 ?_
      conv => whnf
      refine ALoop.run 7 ?_
      conv => whnf
      refine Bif.knF ?_ fun h10 => ?_
      · (simp; omega)
      rw [h10]
      conv => whnf
      refine Bif.knF ?_ fun h11 => ?_
      · (simp; omega)
      rw [h11]
      conv => whnf
      refine Bif.of (fun h12 => ?_) fun h12 => ?_
      · rw [h12]
        conv => whnf
        refine Bif.of (fun h13 => ?_) fun h13 => ?_
        · rw [h13]
          conv => whnf
          exact ⟨rfl, rfl⟩
        · rw [h13]
          conv => whnf
          refine ALoop.run 7 ?_
          conv => whnf
          refine ALoop.run 7 ?_
          conv => whnf
          refine ACalls.useE (pot_see _ _ _ _ _ _ _ _ _ _ _) [2] rfl (by (conv => whnf); try rfl) (by (conv => whnf); try rfl) ?_
          conv => whnf
          refine ALoop.run 7 ?_
          conv => whnf
          exact ⟨rfl, rfl⟩
      · rw [h12]
        conv => whnf
        refine ALoop.run 7 ?_
        conv => whnf
        refine ALoop.run 7 ?_
        conv => whnf
        refine ACalls.useE (pot_see _ _ _ _ _ _ _ _ _ _ _) [2] rfl (by (conv => whnf); try rfl) (by (conv => whnf); try rfl) ?_
        conv => whnf
        refine ALoop.run 7 ?_
        conv => whnf
        exact ⟨rfl, rfl⟩
    · exfalso; omega
    · clear h'
      refine ACalls.code tabOk h19 Try.func19 Try.call19 ok19 ?_
      conv => whnf
      refine ACalls.code tabOk h27 Try.func27 Try.call27 ok27 ?_
      conv => whnf
      refine ALoop.run 7 ?_
      conv => whnf
      refine Bif.knF ?_ fun h0 => ?_
      · (simp; omega)
      rw [h0]
      conv => whnf
      refine Bif.knF ?_ fun h1 => ?_
      · (simp; omega)
      rw [h1]
      conv => whnf
      refine Bif.knF ?_ fun h2 => ?_
      · (simp; omega)
      rw [h2]
      conv => whnf
      refine Bif.knF ?_ fun h3 => ?_
      · (simp; omega)
      rw [h3]
      conv => whnf
      refine Bif.knF ?_ fun h4 => ?_
      · (simp; omega)
      rw [h4]
      conv => whnf
      refine Bif.knF ?_ fun h5 => ?_
      · (simp; omega)
      rw [h5]
      conv => whnf
      refine Bif.knF ?_ fun h6 => ?_
      · (simp; omega)
      rw [h6]
      conv => whnf
      refine Bif.knF ?_ fun h7 => ?_
      · (simp; omega)
      rw [h7]
      conv => whnf
      refine ACalls.code tabOk h27 Try.func27 Try.call27 ok27 ?_
      conv => whnf
      refine ALoop.run 7 ?_
      conv => whnf
      refine Bif.knF ?_ fun h8 => ?_
      · (simp; omega)
      rw [h8]
      conv => whnf
      refine Bif.knF ?_ fun h9 => ?_
      · (simp; omega)
      rw [h9]
      conv => whnf
      refine ACalls.code tabOk h27 Try.func27 Try.call27 ok27 ?_
      conv => whnf
      refine ALoop.run 7 ?_
      conv => whnf
      refine Bif.knF ?_ fun h10 => ?_
      · (simp; omega)
      rw [h10]
      conv => whnf
      refine Bif.knF ?_ fun h11 => ?_
      · (simp; omega)
      rw [h11]
      conv => whnf
      refine Bif.of (fun h12 => ?_) fun h12 => ?_
      · rw [h12]
        conv => whnf
        refine Bif.of (fun h13 => ?_) fun h13 => ?_
        · rw [h13]
          conv => whnf
          exact ⟨rfl, rfl⟩
        · rw [h13]
          conv => whnf
          refine ALoop.run 7 ?_
          conv => whnf
          refine ALoop.run 7 ?_
          conv => whnf
          refine ACalls.useE (pot_see _ _ _ _ _ _ _ _ _ _ _) [2] rfl (by (conv => whnf); try rfl) (by (conv => whnf); try rfl) ?_
          conv => whnf
          refine ALoop.run 7 ?_
          conv => whnf
          exact ⟨rfl, rfl⟩
      · rw [h12]
        conv => whnf
        refine ALoop.run 7 ?_
        conv => whnf
        refine ALoop.run 7 ?_
        conv => whnf
        refine ACalls.useE (pot_see _ _ _ _ _ _ _ _ _ _ _) [2] rfl (by (conv => whnf); try rfl) (by (conv => whnf); try rfl) ?_
        conv => whnf
        refine ALoop.run 7 ?_
        conv => whnf
        exact ⟨rfl, rfl⟩
    · clear h'
      refine ACalls.code tabOk h19 Try.func19 Try.call19 ok19 ?_
      conv => whnf
      refine ACalls.code tabOk h27 Try.func27 Try.call27 ok27 ?_
      conv => whnf
      refine ALoop.run 7 ?_
      conv => whnf
      refine Bif.knF ?_ fun h0 => ?_
      · (simp; omega)
      rw [h0]
      conv => whnf
      refine Bif.knF ?_ fun h1 => ?_
      · (simp; omega)
      rw [h1]
      conv => whnf
      refine Bif.knF ?_ fun h2 => ?_
      · (simp; omega)
      rw [h2]
      conv => whnf
      refine Bif.knF ?_ fun h3 => ?_
      · (simp; omega)
      rw [h3]
      conv => whnf
      refine Bif.knF ?_ fun h4 => ?_
      · (simp; omega)
      rw [h4]
      conv => whnf
      refine Bif.knF ?_ fun h5 => ?_
      · (simp; omega)
      rw [h5]
      conv => whnf
      refine Bif.knF ?_ fun h6 => ?_
      · (simp; omega)
      rw [h6]
      conv => whnf
      refine Bif.knF ?_ fun h7 => ?_
      · (simp; omega)
      rw [h7]
      conv => whnf
      refine ACalls.code tabOk h27 Try.func27 Try.call27 ok27 ?_
      conv => whnf
      refine ALoop.run 7 ?_
      conv => whnf
      refine Bif.knF ?_ fun h8 => ?_
      · (simp; omega)
      rw [h8]
      conv => whnf
      refine Bif.knF ?_ fun h9 => ?_
      · (simp; omega)
      rw [h9]
      conv => whnf
      refine ACalls.code tabOk h27 Try.func27 Try.call27 ok27 ?_
      conv => whnf
      refine ALoop.run 7 ?_
      conv => whnf
      refine Bif.knF ?_ fun h10 => ?_
      · (simp; omega)
      rw [h10]
      conv => whnf
      refine Bif.knF ?_ fun h11 => ?_
      · (simp; omega)
      rw [h11]
      conv => whnf
      refine Bif.of (fun h12 => ?_) fun h12 => ?_
      · rw [h12]
        conv => whnf
        refine Bif.of (fun h13 => ?_) fun h13 => ?_
        · rw [h13]
          conv => whnf
          exact ⟨rfl, rfl⟩
        · rw [h13]
          conv => whnf
          refine ALoop.run 7 ?_
          conv => whnf
          refine ALoop.run 7 ?_
          conv => whnf
          refine ACalls.useE (pot_see _ _ _ _ _ _ _ _ _ _ _) [2] rfl (by (conv => whnf); try rfl) (by (conv => whnf); try rfl) ?_
          conv => whnf
          refine ALoop.run 7 ?_
          conv => whnf
          exact ⟨rfl, rfl⟩
      · rw [h12]
        conv => whnf
        refine ALoop.run 7 ?_
        conv => whnf
        refine ALoop.run 7 ?_
        conv => whnf
        refine ACalls.useE (pot_see _ _ _ _ _ _ _ _ _ _ _) [2] rfl (by (conv => whnf); try rfl) (by (conv => whnf); try rfl) ?_
        conv => whnf
        refine ALoop.run 7 ?_
        conv => whnf
        exact ⟨rfl, rfl⟩
    · clear h'
      refine ACalls.code tabOk h19 Try.func19 Try.call19 ok19 ?_
      conv => whnf
      refine ACalls.code tabOk h27 Try.func27 Try.call27 ok27 ?_
      conv => whnf
      refine ALoop.run 7 ?_
      conv => whnf
      refine Bif.knF ?_ fun h0 => ?_
      · (simp; omega)
      rw [h0]
      conv => whnf
      refine Bif.knF ?_ fun h1 => ?_
      · (simp; omega)
      rw [h1]
      conv => whnf
      refine Bif.knF ?_ fun h2 => ?_
      · (simp; omega)
      rw [h2]
      conv => whnf
      refine Bif.knF ?_ fun h3 => ?_
      · (simp; omega)
      rw [h3]
      conv => whnf
      refine Bif.knF ?_ fun h4 => ?_
      · (simp; omega)
      rw [h4]
      conv => whnf
      refine Bif.knF ?_ fun h5 => ?_
      · (simp; omega)
      rw [h5]
      conv => whnf
      refine Bif.knF ?_ fun h6 => ?_
      · (simp; omega)
      rw [h6]
      conv => whnf
      refine Bif.knF ?_ fun h7 => ?_
      · (simp; omega)
      rw [h7]
      conv => whnf
      refine ACalls.code tabOk h27 Try.func27 Try.call27 ok27 ?_
      conv => whnf
      refine ALoop.run 7 ?_
      conv => whnf
      refine Bif.knF ?_ fun h8 => ?_
      · (simp; omega)
      rw [h8]
      conv => whnf
      refine Bif.knF ?_ fun h9 => ?_
      · (simp; omega)
      rw [h9]
      conv => whnf
      refine ACalls.code tabOk h27 Try.func27 Try.call27 ok27 ?_
      conv => whnf
      refine ALoop.run 7 ?_
      conv => whnf
      refine Bif.knF ?_ fun h10 => ?_
      · (simp; omega)
      rw [h10]
      conv => whnf
      refine Bif.knF ?_ fun h11 => ?_
      · (simp; omega)
      rw [h11]
      conv => whnf
      refine Bif.of (fun h12 => ?_) fun h12 => ?_
      · rw [h12]
        conv => whnf
        refine Bif.of (fun h13 => ?_) fun h13 => ?_
        · rw [h13]
          conv => whnf
          exact ⟨rfl, rfl⟩
        · rw [h13]
          conv => whnf
          refine ALoop.run 7 ?_
          conv => whnf
          refine ALoop.run 7 ?_
          conv => whnf
          refine ACalls.useE (pot_see _ _ _ _ _ _ _ _ _ _ _) [2] rfl (by (conv => whnf); try rfl) (by (conv => whnf); try rfl) ?_
          conv => whnf
          refine ALoop.run 7 ?_
          conv => whnf
          exact ⟨rfl, rfl⟩
      · rw [h12]
        conv => whnf
        refine ALoop.run 7 ?_
        conv => whnf
        refine ALoop.run 7 ?_
        conv => whnf
        refine ACalls.useE (pot_see _ _ _ _ _ _ _ _ _ _ _) [2] rfl (by (conv => whnf); try rfl) (by (conv => whnf); try rfl) ?_
        conv => whnf
        refine ALoop.run 7 ?_
        conv => whnf
        exact ⟨rfl, rfl⟩
    · clear h'
      refine ACalls.code tabOk h19 Try.func19 Try.call19 ok19 ?_
      conv => whnf
      refine ACalls.code tabOk h27 Try.func27 Try.call27 ok27 ?_
      conv => whnf
      refine ALoop.run 7 ?_
      conv => whnf
      refine Bif.knF ?_ fun h0 => ?_
      · (simp; omega)
      rw [h0]
      conv => whnf
      refine Bif.knF ?_ fun h1 => ?_
      · (simp; omega)
      rw [h1]
      conv => whnf
      refine Bif.knF ?_ fun h2 => ?_
      · (simp; omega)
      rw [h2]
      conv => whnf
      refine Bif.knF ?_ fun h3 => ?_
      · (simp; omega)
      rw [h3]
      conv => whnf
      refine Bif.knF ?_ fun h4 => ?_
      · (simp; omega)
      rw [h4]
      conv => whnf
      refine Bif.knF ?_ fun h5 => ?_
      · (simp; omega)
      rw [h5]
      conv => whnf
      refine Bif.knF ?_ fun h6 => ?_
      · (simp; omega)
      rw [h6]
      conv => whnf
      refine Bif.knF ?_ fun h7 => ?_
      · (simp; omega)
      rw [h7]
      conv => whnf
      refine ACalls.code tabOk h27 Try.func27 Try.call27 ok27 ?_
      conv => whnf
      refine ALoop.run 7 ?_
      conv => whnf
      refine Bif.knF ?_ fun h8 => ?_
      · (simp; omega)
      rw [h8]
      conv => whnf
      refine Bif.knF ?_ fun h9 => ?_
      · (simp; omega)
      rw [h9]
      conv => whnf
      refine ACalls.code tabOk h27 Try.func27 Try.call27 ok27 ?_
      conv => whnf
      refine ALoop.run 7 ?_
      conv => whnf
      refine Bif.knF ?_ fun h10 => ?_
      · (simp; omega)
      rw [h10]
      conv => whnf
      refine Bif.knF ?_ fun h11 => ?_
      · (simp; omega)
      rw [h11]
      conv => whnf
      refine Bif.of (fun h12 => ?_) fun h12 => ?_
      · rw [h12]
        conv => whnf
        refine Bif.of (fun h13 => ?_) fun h13 => ?_
        · rw [h13]
          conv => whnf
          exact ⟨rfl, rfl⟩
        · rw [h13]
          conv => whnf
          refine ALoop.run 7 ?_
          conv => whnf
          refine ALoop.run 7 ?_
          conv => whnf
          refine ACalls.useE (pot_see _ _ _ _ _ _ _ _ _ _ _) [2] rfl (by (conv => whnf); try rfl) (by (conv => whnf); try rfl) ?_
          conv => whnf
          refine ALoop.run 7 ?_
          conv => whnf
          exact ⟨rfl, rfl⟩
      · rw [h12]
        conv => whnf
        refine ALoop.run 7 ?_
        conv => whnf
        refine ALoop.run 7 ?_
        conv => whnf
        refine ACalls.useE (pot_see _ _ _ _ _ _ _ _ _ _ _) [2] rfl (by (conv => whnf); try rfl) (by (conv => whnf); try rfl) ?_
        conv => whnf
        refine ALoop.run 7 ?_
        conv => whnf
        exact ⟨rfl, rfl⟩
    · exfalso; omega
    · exfalso; omega
    · exfalso; omega
    · exfalso; omega
    · exfalso; omega
  · clear h h'
    refine ACalls.code tabOk h19 Try.func19 Try.call19 ok19 ?_
    conv => whnf
    refine ACalls.code tabOk h27 Try.func27 Try.call27 ok27 ?_
    conv => whnf
    refine ALoop.run 7 ?_
    conv => whnf
    refine Bif.of (fun h0 => ?_) fun h0 => ?_
    · rw [h0]
      conv => whnf
      exact ⟨rfl, rfl⟩
    · rw [h0]
      conv => whnf
      refine Bif.of (fun h1 => ?_) fun h1 => ?_
      · rw [h1]
        conv => whnf
        exact ⟨rfl, rfl⟩
      · rw [h1]
        conv => whnf
        refine Bif.of (fun h2 => ?_) fun h2 => ?_
        · rw [h2]
          conv => whnf
          exact ⟨rfl, rfl⟩
        · rw [h2]
          conv => whnf
          refine Bif.of (fun h3 => ?_) fun h3 => ?_
          · rw [h3]
            conv => whnf
            exact ⟨rfl, rfl⟩
          · rw [h3]
            conv => whnf
            refine Bif.of (fun h4 => ?_) fun h4 => ?_
            · rw [h4]
              conv => whnf
              exact ⟨rfl, rfl⟩
            · rw [h4]
              conv => whnf
              refine Bif.of (fun h5 => ?_) fun h5 => ?_
              · rw [h5]
                conv => whnf
                exact ⟨rfl, rfl⟩
              · rw [h5]
                conv => whnf
                refine Bif.of (fun h6 => ?_) fun h6 => ?_
                · rw [h6]
                  conv => whnf
                  exact ⟨rfl, rfl⟩
                · rw [h6]
                  conv => whnf
                  refine Bif.of (fun h7 => ?_) fun h7 => ?_
                  · rw [h7]
                    conv => whnf
                    exact ⟨rfl, rfl⟩
                  · rw [h7]
                    conv => whnf
                    refine ACalls.code tabOk h27 Try.func27 Try.call27 ok27 ?_
                    conv => whnf
                    refine ALoop.run 7 ?_
                    conv => whnf
                    refine Bif.of (fun h8 => ?_) fun h8 => ?_
                    · rw [h8]
                      conv => whnf
                      exact ⟨rfl, rfl⟩
                    · rw [h8]
                      conv => whnf
                      refine Bif.of (fun h9 => ?_) fun h9 => ?_
                      · rw [h9]
                        conv => whnf
                        exact ⟨rfl, rfl⟩
                      · rw [h9]
                        conv => whnf
                        refine ACalls.code tabOk h27 Try.func27 Try.call27 ok27 ?_
                        conv => whnf
                        refine ALoop.run 7 ?_
                        conv => whnf
                        refine Bif.of (fun h10 => ?_) fun h10 => ?_
                        · rw [h10]
                          conv => whnf
                          exact ⟨rfl, rfl⟩
                        · rw [h10]
                          conv => whnf
                          refine Bif.of (fun h11 => ?_) fun h11 => ?_
                          · rw [h11]
                            conv => whnf
                            exact ⟨rfl, rfl⟩
                          · rw [h11]
                            conv => whnf
                            refine Bif.of (fun h12 => ?_) fun h12 => ?_
                            · rw [h12]
                              conv => whnf
                              exact ⟨rfl, rfl⟩
                            · rw [h12]
                              conv => whnf
                              refine Bif.of (fun h13 => ?_) fun h13 => ?_
                              · rw [h13]
                                conv => whnf
                                exact ⟨rfl, rfl⟩
                              · rw [h13]
                                conv => whnf
                                refine Bif.of (fun h14 => ?_) fun h14 => ?_
                                · rw [h14]
                                  conv => whnf
                                  exact ⟨rfl, rfl⟩
                                · rw [h14]
                                  conv => whnf
                                  refine Bif.of (fun h15 => ?_) fun h15 => ?_
                                  · rw [h15]
                                    conv => whnf
                                    exact ⟨rfl, rfl⟩
                                  · rw [h15]
                                    conv => whnf
                                    refine Bif.of (fun h16 => ?_) fun h16 => ?_
                                    · rw [h16]
                                      conv => whnf
                                      exact ⟨rfl, rfl⟩
                                    · rw [h16]
                                      conv => whnf
                                      refine Bif.of (fun h17 => ?_) fun h17 => ?_
                                      · rw [h17]
                                        conv => whnf
                                        exact ⟨rfl, rfl⟩
                                      · rw [h17]
                                        conv => whnf
                                        refine Bif.of (fun h18 => ?_) fun h18 => ?_
                                        · rw [h18]
                                          conv => whnf
                                          exact ⟨rfl, rfl⟩
                                        · rw [h18]
                                          conv => whnf
                                          refine Bif.of (fun h19 => ?_) fun h19 => ?_
                                          · rw [h19]
                                            conv => whnf
                                            exact ⟨rfl, rfl⟩
                                          · rw [h19]
                                            conv => whnf
                                            refine Bif.of (fun h20 => ?_) fun h20 => ?_
                                            · rw [h20]
                                              conv => whnf
                                              exact ⟨rfl, rfl⟩
                                            · rw [h20]
                                              conv => whnf
                                              refine Bif.of (fun h21 => ?_) fun h21 => ?_
                                              · rw [h21]
                                                conv => whnf
                                                exact ⟨rfl, rfl⟩
                                              · rw [h21]
                                                conv => whnf
                                                refine Bif.of (fun h22 => ?_) fun h22 => ?_
                                                · rw [h22]
                                                  conv => whnf
                                                  refine Bif.of (fun h23 => ?_) fun h23 => ?_
                                                  · rw [h23]
                                                    conv => whnf
                                                    exact ⟨rfl, rfl⟩
                                                  · rw [h23]
                                                    conv => whnf
                                                    refine ALoop.run 7 ?_
                                                    conv => whnf
                                                    refine ALoop.run 7 ?_
                                                    conv => whnf
                                                    refine ACalls.useE (pot_see _ _ _ _ _ _ _ _ _ _ _) [2] rfl (by (conv => whnf); try rfl) (by (conv => whnf); try rfl) ?_
                                                    conv => whnf
                                                    refine ALoop.run 7 ?_
                                                    conv => whnf
                                                    refine Bif.knT ?_ fun h24 => ?_
                                                    · (exfalso; simp only [beq_iff_eq, beq_eq_false_iff_ne, bne_iff_ne, bne_eq_false_iff_eq, ne_eq, decide_eq_true_eq, decide_eq_false_iff_not] at *; omega)
                                                    rw [h24]
                                                    conv => whnf
                                                    exact ⟨rfl, rfl⟩
                                                · rw [h22]
                                                  conv => whnf
                                                  refine ALoop.run 7 ?_
                                                  conv => whnf
                                                  refine ALoop.run 7 ?_
                                                  conv => whnf
                                                  refine ACalls.useE (pot_see _ _ _ _ _ _ _ _ _ _ _) [2] rfl (by (conv => whnf); try rfl) (by (conv => whnf); try rfl) ?_
                                                  conv => whnf
                                                  refine ALoop.run 7 ?_
                                                  conv => whnf
                                                  refine Bif.knT ?_ fun h25 => ?_
                                                  · (exfalso; simp only [beq_iff_eq, beq_eq_false_iff_ne, bne_iff_ne, bne_eq_false_iff_eq, ne_eq, decide_eq_true_eq, decide_eq_false_iff_not] at *; omega)
                                                  rw [h25]
                                                  conv => whnf
                                                  exact ⟨rfl, rfl⟩
end Go.Proofs
