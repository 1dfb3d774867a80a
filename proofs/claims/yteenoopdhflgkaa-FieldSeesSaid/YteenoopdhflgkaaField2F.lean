/-
  Walks through the functions of the program, by contract.
-/
import Derived.Test.YteenoopdhflgkaaFieldrF
set_option linter.all false
set_option linter.unusedVariables false
set_option linter.unusedSimpArgs false
set_option linter.unnecessarySimpa false
namespace Go.Proofs
open Go.Aw
set_option maxRecDepth 100000
set_option maxHeartbeats 4000000

theorem ref_lit_out (p0 p1 p2 c x : Int) (hx : x < 0 ∨ 160 ≤ x) : ACalls Try.prog 11 [.agg #[.int .u8 p0, .int .u8 p1, .int .u8 p2], .int .i64 c, .int .i64 x] [] fun r H => r = .bool (litI p0 p1 p2 c x) ∧ H = [] := by
  have e : litI p0 p1 p2 c x = false := by unfold litI; rw [if_pos hx]
  rw [e]
  rcases hx with hx | hx
  · refine ACalls.code tabOk h11 Try.func11 Try.call11 ok11 ?_
    conv => whnf
    refine Bif.knT ?_ fun h0 => ?_
    · (simp_all; done)
    rw [h0]
    conv => whnf
    exact ⟨rfl, rfl⟩
  · refine ACalls.code tabOk h11 Try.func11 Try.call11 ok11 ?_
    conv => whnf
    refine Bif.knF ?_ fun h0 => ?_
    · (simp_all; omega)
    rw [h0]
    conv => whnf
    refine Bif.knT ?_ fun h1 => ?_
    · (simp_all; omega)
    rw [h1]
    conv => whnf
    exact ⟨rfl, rfl⟩

theorem ref_lit_0 (p0 p1 p2 c x : Int) (h0 : 0 ≤ p0 ∧ p0 ≤ 255) (h1 : 0 ≤ p1 ∧ p1 ≤ 255) (h2 : 0 ≤ p2 ∧ p2 ≤ 255) (hc : 0 ≤ c ∧ c ≤ 255) (hx : 0 ≤ x ∧ x < 160) (h : x < 80) : ACalls Try.prog 11 [.agg #[.int .u8 p0, .int .u8 p1, .int .u8 p2], .int .i64 c, .int .i64 x] [] fun r H => r = .bool (litI p0 p1 p2 c x) ∧ H = [] := by
  have e : litI p0 p1 p2 c x = bitN (rowI p0 p1 p2) (litN c x) := by unfold litI; rw [if_neg (by omega)]
  have hb := bits_agree h0 h1 h2 (litN c x) (by unfold litN; (repeat split) <;> omega)
  have ed : IntKind.i64.wrap (x.tdiv 4) = x / 4 := by rw [Int.tdiv_eq_ediv_of_nonneg hx.1, wrap64 (by omega) (by omega)]
  have en : IntKind.i64.wrap (x / 4 - 20) = x / 4 - 20 := wrap64 (by omega) (by omega)
  have em : IntKind.i64.wrap (19 - (x / 4 - 20)) = 19 - (x / 4 - 20) := wrap64 (by omega) (by omega)
  have ec : c.tmod 2 = c % 2 := Int.tmod_eq_emod_of_nonneg hc.1
  have hn : ((litN c x : Nat) : Int) = if x < 80 then x / 4 else if c % 2 = 1 then 19 - (x / 4 - 20) else x / 4 - 20 := by unfold litN; (repeat split) <;> omega
  rw [e, ← hb, hn]
  refine ACalls.code tabOk h11 Try.func11 Try.call11 ok11 ?_
  conv => whnf
  refine Bif.knF ?_ fun h0 => ?_
  · (simp; omega)
  rw [h0]
  conv => whnf
  refine Bif.knF ?_ fun h1 => ?_
  · (simp; omega)
  rw [h1]
  conv => whnf
  rw [ed]
  conv => whnf
  refine Bif.knF ?_ fun h2 => ?_
  · (simp; omega)
  rw [h2]
  conv => whnf
  refine ACalls.useE (ref_bit _ _ _ _ ?_ ?_ ?_ ?_) [] rfl (by (conv => whnf); try rfl) (by (conv => whnf); try rfl) ?_
  · omega
  · omega
  · omega
  · omega
  conv => whnf
  (rw [if_pos (by omega)]; exact ⟨rfl, rfl⟩)
theorem ref_lit_1 (p0 p1 p2 c x : Int) (h0 : 0 ≤ p0 ∧ p0 ≤ 255) (h1 : 0 ≤ p1 ∧ p1 ≤ 255) (h2 : 0 ≤ p2 ∧ p2 ≤ 255) (hc : 0 ≤ c ∧ c ≤ 255) (hx : 0 ≤ x ∧ x < 160) (h : 80 ≤ x ∧ c % 2 = 1) : ACalls Try.prog 11 [.agg #[.int .u8 p0, .int .u8 p1, .int .u8 p2], .int .i64 c, .int .i64 x] [] fun r H => r = .bool (litI p0 p1 p2 c x) ∧ H = [] := by
  have e : litI p0 p1 p2 c x = bitN (rowI p0 p1 p2) (litN c x) := by unfold litI; rw [if_neg (by omega)]
  have hb := bits_agree h0 h1 h2 (litN c x) (by unfold litN; (repeat split) <;> omega)
  have ed : IntKind.i64.wrap (x.tdiv 4) = x / 4 := by rw [Int.tdiv_eq_ediv_of_nonneg hx.1, wrap64 (by omega) (by omega)]
  have en : IntKind.i64.wrap (x / 4 - 20) = x / 4 - 20 := wrap64 (by omega) (by omega)
  have em : IntKind.i64.wrap (19 - (x / 4 - 20)) = 19 - (x / 4 - 20) := wrap64 (by omega) (by omega)
  have ec : c.tmod 2 = c % 2 := Int.tmod_eq_emod_of_nonneg hc.1
  have hn : ((litN c x : Nat) : Int) = if x < 80 then x / 4 else if c % 2 = 1 then 19 - (x / 4 - 20) else x / 4 - 20 := by unfold litN; (repeat split) <;> omega
  rw [e, ← hb, hn]
  refine ACalls.code tabOk h11 Try.func11 Try.call11 ok11 ?_
  conv => whnf
  refine Bif.knF ?_ fun h0 => ?_
  · (simp; omega)
  rw [h0]
  conv => whnf
  refine Bif.knF ?_ fun h1 => ?_
  · (simp; omega)
  rw [h1]
  conv => whnf
  rw [ed]
  conv => whnf
  refine Bif.knT ?_ fun h2 => ?_
  · (simp; omega)
  rw [h2]
  conv => whnf
  rw [en]
  conv => whnf
  rw [ec]
  conv => whnf
  refine Bif.knT ?_ fun h3 => ?_
  · (simp; omega)
  rw [h3]
  conv => whnf
  refine ACalls.useE (ref_bit _ _ _ _ ?_ ?_ ?_ ?_) [] rfl (by (conv => whnf); try rfl) (by (conv => whnf); try rfl) ?_
  · omega
  · omega
  · omega
  · omega
  conv => whnf
  rw [em]
  conv => whnf
  (first | rw [if_pos (by omega)] | (rw [if_neg (by omega)]; first | rw [if_pos (by omega)] | rw [if_neg (by omega)]); exact ⟨rfl, rfl⟩)
theorem ref_lit_2 (p0 p1 p2 c x : Int) (h0 : 0 ≤ p0 ∧ p0 ≤ 255) (h1 : 0 ≤ p1 ∧ p1 ≤ 255) (h2 : 0 ≤ p2 ∧ p2 ≤ 255) (hc : 0 ≤ c ∧ c ≤ 255) (hx : 0 ≤ x ∧ x < 160) (h : 80 ≤ x ∧ c % 2 = 0) : ACalls Try.prog 11 [.agg #[.int .u8 p0, .int .u8 p1, .int .u8 p2], .int .i64 c, .int .i64 x] [] fun r H => r = .bool (litI p0 p1 p2 c x) ∧ H = [] := by
  have e : litI p0 p1 p2 c x = bitN (rowI p0 p1 p2) (litN c x) := by unfold litI; rw [if_neg (by omega)]
  have hb := bits_agree h0 h1 h2 (litN c x) (by unfold litN; (repeat split) <;> omega)
  have ed : IntKind.i64.wrap (x.tdiv 4) = x / 4 := by rw [Int.tdiv_eq_ediv_of_nonneg hx.1, wrap64 (by omega) (by omega)]
  have en : IntKind.i64.wrap (x / 4 - 20) = x / 4 - 20 := wrap64 (by omega) (by omega)
  have em : IntKind.i64.wrap (19 - (x / 4 - 20)) = 19 - (x / 4 - 20) := wrap64 (by omega) (by omega)
  have ec : c.tmod 2 = c % 2 := Int.tmod_eq_emod_of_nonneg hc.1
  have hn : ((litN c x : Nat) : Int) = if x < 80 then x / 4 else if c % 2 = 1 then 19 - (x / 4 - 20) else x / 4 - 20 := by unfold litN; (repeat split) <;> omega
  rw [e, ← hb, hn]
  refine ACalls.code tabOk h11 Try.func11 Try.call11 ok11 ?_
  conv => whnf
  refine Bif.knF ?_ fun h0 => ?_
  · (simp; omega)
  rw [h0]
  conv => whnf
  refine Bif.knF ?_ fun h1 => ?_
  · (simp; omega)
  rw [h1]
  conv => whnf
  rw [ed]
  conv => whnf
  refine Bif.knT ?_ fun h2 => ?_
  · (simp; omega)
  rw [h2]
  conv => whnf
  rw [en]
  conv => whnf
  rw [ec]
  conv => whnf
  refine Bif.knF ?_ fun h3 => ?_
  · (simp; omega)
  rw [h3]
  conv => whnf
  refine ACalls.useE (ref_bit _ _ _ _ ?_ ?_ ?_ ?_) [] rfl (by (conv => whnf); try rfl) (by (conv => whnf); try rfl) ?_
  · omega
  · omega
  · omega
  · omega
  conv => whnf
  (first | rw [if_pos (by omega)] | (rw [if_neg (by omega)]; first | rw [if_pos (by omega)] | rw [if_neg (by omega)]); exact ⟨rfl, rfl⟩)
theorem ref_lit (p0 p1 p2 c x : Int) (h0 : 0 ≤ p0 ∧ p0 ≤ 255) (h1 : 0 ≤ p1 ∧ p1 ≤ 255) (h2 : 0 ≤ p2 ∧ p2 ≤ 255) (hc : 0 ≤ c ∧ c ≤ 255) : ACalls Try.prog 11 [.agg #[.int .u8 p0, .int .u8 p1, .int .u8 p2], .int .i64 c, .int .i64 x] [] fun r H => r = .bool (litI p0 p1 p2 c x) ∧ H = [] := by
  by_cases hx : x < 0 ∨ 160 ≤ x
  · exact ref_lit_out p0 p1 p2 c x hx
  · by_cases h : x < 80
    · exact ref_lit_0 p0 p1 p2 c x h0 h1 h2 hc (by omega) h
    · by_cases hcc : c % 2 = 1
      · exact ref_lit_1 p0 p1 p2 c x h0 h1 h2 hc (by omega) (by omega)
      · exact ref_lit_2 p0 p1 p2 c x h0 h1 h2 hc (by omega) (by omega)

/-! What is seen -/
def seenB (d0 d1 d2 d3 d4 d5 a s xl : Bool) : Int :=
  if a && (d4 || d5) then 2 else if d0 || d2 then 0 else if d1 || d3 then 1 else if d4 then 2 else if d5 then (if s && !a then (if xl then 0 else 1) else 2) else 3
def fA (c : Int) : Bool := decide (c / 4 % 2 = 1)
def fS (c : Int) : Bool := decide (c / 2 % 2 = 1)
theorem and4_8 : ∀ c : Nat, c < 256 → (bits .and .u8 (c : Int) 4 != 0) = fA c := by decide +kernel
theorem and6_8 : ∀ c : Nat, c < 256 → (bits .and .u8 (c : Int) 6 == 2) = (fS c && !fA c) := by decide +kernel
theorem field_seen (d0 d1 d2 d3 d4 d5 : Bool) (c x : Int) (hc : 0 ≤ c ∧ c ≤ 255) : ACalls Try.prog 16 [.agg #[.bool d0, .bool d1, .bool d2, .bool d3, .bool d4, .bool d5], .int .u8 c, .int .i64 x] [] fun r H => r = .int .i64 (seenB d0 d1 d2 d3 d4 d5 (fA c) (fS c) (decide (x < 80))) ∧ H = [] := by
  obtain ⟨j, rfl⟩ : ∃ j : Nat, c = j := ⟨c.toNat, by omega⟩
  have ea := and4_8 j (by omega)
  have es := and6_8 j (by omega)
  refine ACalls.code tabOk h16 Try.func16 Try.call16 ok16 ?_
  conv => whnf
  generalize fA (j : Int) = A at *
  generalize fS (j : Int) = S at *
  generalize hX : decide (x < 80) = X
  rw [ea]
  conv => whnf
  refine Bif.of (fun h0 => ?_) fun h0 => ?_
  · rw [h0]
    conv => whnf
    refine ACalls.code tabOk h27 Try.func27 Try.call27 ok27 ?_
    conv => whnf
    refine Bif.of (fun h1 => ?_) fun h1 => ?_
    · rw [h1]
      conv => whnf
      exact ⟨rfl, rfl⟩
    · rw [h1]
      conv => whnf
      refine Bif.of (fun h2 => ?_) fun h2 => ?_
      · rw [h2]
        conv => whnf
        exact ⟨rfl, rfl⟩
      · rw [h2]
        conv => whnf
        refine ACalls.code tabOk h27 Try.func27 Try.call27 ok27 ?_
        conv => whnf
        refine Bif.of (fun h3 => ?_) fun h3 => ?_
        · rw [h3]
          conv => whnf
          exact ⟨rfl, rfl⟩
        · rw [h3]
          conv => whnf
          refine Bif.of (fun h4 => ?_) fun h4 => ?_
          · rw [h4]
            conv => whnf
            exact ⟨rfl, rfl⟩
          · rw [h4]
            conv => whnf
            refine ACalls.code tabOk h27 Try.func27 Try.call27 ok27 ?_
            conv => whnf
            refine Bif.of (fun h5 => ?_) fun h5 => ?_
            · rw [h5]
              conv => whnf
              exact ⟨rfl, rfl⟩
            · rw [h5]
              conv => whnf
              refine Bif.of (fun h6 => ?_) fun h6 => ?_
              · rw [h6]
                conv => whnf
                exact ⟨rfl, rfl⟩
              · rw [h6]
                conv => whnf
                refine ACalls.code tabOk h27 Try.func27 Try.call27 ok27 ?_
                conv => whnf
                exact ⟨rfl, rfl⟩
  · rw [h0]
    conv => whnf
    refine ACalls.code tabOk h27 Try.func27 Try.call27 ok27 ?_
    conv => whnf
    refine Bif.of (fun h7 => ?_) fun h7 => ?_
    · rw [h7]
      conv => whnf
      exact ⟨rfl, rfl⟩
    · rw [h7]
      conv => whnf
      refine Bif.of (fun h8 => ?_) fun h8 => ?_
      · rw [h8]
        conv => whnf
        exact ⟨rfl, rfl⟩
      · rw [h8]
        conv => whnf
        refine ACalls.code tabOk h27 Try.func27 Try.call27 ok27 ?_
        conv => whnf
        refine Bif.of (fun h9 => ?_) fun h9 => ?_
        · rw [h9]
          conv => whnf
          exact ⟨rfl, rfl⟩
        · rw [h9]
          conv => whnf
          refine Bif.of (fun h10 => ?_) fun h10 => ?_
          · rw [h10]
            conv => whnf
            exact ⟨rfl, rfl⟩
          · rw [h10]
            conv => whnf
            refine ACalls.code tabOk h27 Try.func27 Try.call27 ok27 ?_
            conv => whnf
            refine Bif.of (fun h11 => ?_) fun h11 => ?_
            · rw [h11]
              conv => whnf
              refine ACalls.code tabOk h28 Try.func28 Try.call28 ok28 ?_
              conv => whnf
              rw [es]
              conv => whnf
              refine Bif.of (fun h12 => ?_) fun h12 => ?_
              · rw [h12]
                conv => whnf
                exact ⟨rfl, rfl⟩
              · rw [h12]
                conv => whnf
                exact ⟨rfl, rfl⟩
            · rw [h11]
              conv => whnf
              refine Bif.of (fun h13 => ?_) fun h13 => ?_
              · rw [h13]
                conv => whnf
                refine ACalls.code tabOk h28 Try.func28 Try.call28 ok28 ?_
                conv => whnf
                rw [es]
                conv => whnf
                refine Bif.of (fun h14 => ?_) fun h14 => ?_
                · rw [h14]
                  conv => whnf
                  rw [hX]
                  conv => whnf
                  refine Bif.of (fun h15 => ?_) fun h15 => ?_
                  · rw [h15]
                    conv => whnf
                    (refine ⟨?_, rfl⟩; simp_all [seenB]; done)
                  · rw [h15]
                    conv => whnf
                    (refine ⟨?_, rfl⟩; simp_all [seenB]; done)
                · rw [h14]
                  conv => whnf
                  (refine ⟨?_, rfl⟩; simp_all [seenB]; done)
              · rw [h13]
                conv => whnf
                exact ⟨rfl, rfl⟩
theorem ref_seen (d0 d1 d2 d3 d4 d5 : Bool) (c x : Int) (hc : 0 ≤ c ∧ c ≤ 255) : ACalls Try.prog 17 [.agg #[.bool d0, .bool d1, .bool d2, .bool d3, .bool d4, .bool d5], .int .i64 c, .int .i64 x] [] fun r H => r = .int .i64 (seenB d0 d1 d2 d3 d4 d5 (fA c) (fS c) (decide (x < 80))) ∧ H = [] := by
  have ea : decide (c / 4 % 2 = 1) = fA c := rfl
  have es : decide (c / 2 % 2 = 1) = fS c := rfl
  have hc2 : 0 ≤ c ∧ c ≤ 9223372036854775807 := by omega
  refine ACalls.code tabOk h17 Try.func17 Try.call17 ok17 ?_
  conv => whnf
  generalize hX : decide (x < 80) = X
  generalize fA c = A at *
  generalize fS c = S at *
  refine ACalls.useE (ref_has _ _ ?_ ?_) [] rfl (by (conv => whnf); try rfl) (by (conv => whnf); try rfl) ?_
  · omega
  · decide
  conv => whnf
  rw [ea]
  conv => whnf
  refine Bif.of (fun h0 => ?_) fun h0 => ?_
  · rw [h0]
    conv => whnf
    refine Bif.of (fun h1 => ?_) fun h1 => ?_
    · rw [h1]
      conv => whnf
      exact ⟨rfl, rfl⟩
    · rw [h1]
      conv => whnf
      refine Bif.of (fun h2 => ?_) fun h2 => ?_
      · rw [h2]
        conv => whnf
        exact ⟨rfl, rfl⟩
      · rw [h2]
        conv => whnf
        refine Bif.of (fun h3 => ?_) fun h3 => ?_
        · rw [h3]
          conv => whnf
          exact ⟨rfl, rfl⟩
        · rw [h3]
          conv => whnf
          refine Bif.of (fun h4 => ?_) fun h4 => ?_
          · rw [h4]
            conv => whnf
            exact ⟨rfl, rfl⟩
          · rw [h4]
            conv => whnf
            refine Bif.of (fun h5 => ?_) fun h5 => ?_
            · rw [h5]
              conv => whnf
              exact ⟨rfl, rfl⟩
            · rw [h5]
              conv => whnf
              refine Bif.of (fun h6 => ?_) fun h6 => ?_
              · rw [h6]
                conv => whnf
                exact ⟨rfl, rfl⟩
              · rw [h6]
                conv => whnf
                exact ⟨rfl, rfl⟩
  · rw [h0]
    conv => whnf
    refine Bif.of (fun h7 => ?_) fun h7 => ?_
    · rw [h7]
      conv => whnf
      exact ⟨rfl, rfl⟩
    · rw [h7]
      conv => whnf
      refine Bif.of (fun h8 => ?_) fun h8 => ?_
      · rw [h8]
        conv => whnf
        exact ⟨rfl, rfl⟩
      · rw [h8]
        conv => whnf
        refine Bif.of (fun h9 => ?_) fun h9 => ?_
        · rw [h9]
          conv => whnf
          exact ⟨rfl, rfl⟩
        · rw [h9]
          conv => whnf
          refine Bif.of (fun h10 => ?_) fun h10 => ?_
          · rw [h10]
            conv => whnf
            exact ⟨rfl, rfl⟩
          · rw [h10]
            conv => whnf
            refine Bif.of (fun h11 => ?_) fun h11 => ?_
            · rw [h11]
              conv => whnf
              exact ⟨rfl, rfl⟩
            · rw [h11]
              conv => whnf
              refine Bif.of (fun h12 => ?_) fun h12 => ?_
              · rw [h12]
                conv => whnf
                refine ACalls.useE (ref_has _ _ ?_ ?_) [] rfl (by (conv => whnf); try rfl) (by (conv => whnf); try rfl) ?_
                · omega
                · decide
                conv => whnf
                rw [es]
                conv => whnf
                refine Bif.of (fun h13 => ?_) fun h13 => ?_
                · rw [h13]
                  conv => whnf
                  rw [hX]
                  conv => whnf
                  refine Bif.of (fun h14 => ?_) fun h14 => ?_
                  · rw [h14]
                    conv => whnf
                    exact ⟨rfl, rfl⟩
                  · rw [h14]
                    conv => whnf
                    exact ⟨rfl, rfl⟩
                · rw [h13]
                  conv => whnf
                  exact ⟨rfl, rfl⟩
              · rw [h12]
                conv => whnf
                exact ⟨rfl, rfl⟩

/-! What meets -/
def prD (d0 d1 d2 d3 d4 d5 : Bool) : Nat → Bool
  | 0 => d2 && d1 | 1 => d2 && d0 | 2 => d3 && d0 | 3 => d3 && d1 | 4 => d0 && d5 | 5 => d0 && d4 | 6 => d1 && d5 | 7 => d1 && d4 | 8 => d2 && d5 | 9 => d2 && d4 | 10 => d3 && d5 | 11 => d3 && d4 | 12 => d4 && d5 | 13 => d0 && d1 | 14 => d2 && d3
  | _ => false
def meetN (d0 d1 d2 d3 d4 d5 : Bool) : Nat → Int
  | 0 => 0
  | n + 1 => meetN d0 d1 d2 d3 d4 d5 n + (if prD d0 d1 d2 d3 d4 d5 n then 2 ^ n else 0)
theorem meetN_bd (d0 d1 d2 d3 d4 d5 : Bool) (n : Nat) : 0 ≤ meetN d0 d1 d2 d3 d4 d5 n ∧ meetN d0 d1 d2 d3 d4 d5 n < 2 ^ n := by
  induction n with
  | zero => exact ⟨Int.le_refl _, show (0 : Int) < 1 by decide⟩
  | succ n ih =>
    have hp : (0 : Int) < 2 ^ n := Int.pow_pos (by decide)
    have e : (2 : Int) ^ (n + 1) = 2 ^ n * 2 := Int.pow_succ 2 n
    unfold meetN
    split <;> omega
theorem field_meet (d0 d1 d2 d3 d4 d5 : Bool) : ACalls Try.prog 13 [.agg #[.bool d0, .bool d1, .bool d2, .bool d3, .bool d4, .bool d5]] [] fun r H => r = .int .u16 (meetN d0 d1 d2 d3 d4 d5 15) ∧ H = [] := by
  refine ACalls.code tabOk h13 Try.func13 Try.call13 ok13 ?_
  conv => whnf
  refine ACalls.code tabOk h23 Try.func23 Try.call23 ok23 ?_
  conv => whnf
  refine ALoop.fd (σ := Nat × Int) (fun q => [.chan none, .pointer (some ⟨0, 0, none⟩), .int .u16 0, .int .u16 q.2, .chan none, .chan none, .agg #[.int .i64 2, .int .i64 1, .int .i64 2, .int .i64 0, .int .i64 3, .int .i64 0, .int .i64 3, .int .i64 1, .int .i64 0, .int .i64 5, .int .i64 0, .int .i64 4, .int .i64 1, .int .i64 5, .int .i64 1, .int .i64 4, .int .i64 2, .int .i64 5, .int .i64 2, .int .i64 4, .int .i64 3, .int .i64 5, .int .i64 3, .int .i64 4, .int .i64 4, .int .i64 5, .int .i64 0, .int .i64 1, .int .i64 2, .int .i64 3], .int .i64 q.1, .chan none, .chan none, .chan none, .chan none, .chan none, .chan none, .chan none, .chan none, .chan none, .chan none, .chan none, .chan none, .chan none, .chan none, .chan none, .chan none, .chan none, .chan none, .chan none]) (fun _ => [.cells [.bool d0, .bool d1, .bool d2, .bool d3, .bool d4, .bool d5] 27]) (fun q => q.1 ≤ 15 ∧ q.2 = meetN d0 d1 d2 d3 d4 d5 q.1) (fun q => 15 - q.1) (0, 0) [] rfl rfl ⟨Nat.zero_le _, rfl⟩ (fun _ => ⟨rfl, rfl, rfl, rfl⟩) ?_
  rintro ⟨n, o⟩ ⟨hn, ho⟩ R hR
  dsimp only at hn ho
  have hb := meetN_bd d0 d1 d2 d3 d4 d5 n
  have hn' : n = 0 ∨ n = 1 ∨ n = 2 ∨ n = 3 ∨ n = 4 ∨ n = 5 ∨ n = 6 ∨ n = 7 ∨ n = 8 ∨ n = 9 ∨ n = 10 ∨ n = 11 ∨ n = 12 ∨ n = 13 ∨ n = 14 ∨ n = 15 := by omega
  rcases hn' with rfl | rfl | rfl | rfl | rfl | rfl | rfl | rfl | rfl | rfl | rfl | rfl | rfl | rfl | rfl | rfl

  · have eo := or_add .u16 rfl 0 o 1 (by rw [ho]; exact hb) (by decide) (by decide) (by decide)
    have ew : IntKind.u16.wrap (1 * 2 ^ min ((0 : Nat) : Int).toNat IntKind.u16.bits) = 1 * 2 ^ 0 := by decide
    rw [← ew] at eo
    conv => whnf
    refine Bif.of (fun h0 => ?_) fun h0 => ?_
    · conv => whnf
      refine Bif.knT ?_ fun h1 => ?_
      · with_reducible assumption
      conv => whnf
      refine Bif.knT ?_ fun h2 => ?_
      · with_reducible assumption
      conv => whnf
      refine Bif.knT ?_ fun h3 => ?_
      · with_reducible assumption
      conv => whnf
      refine Bif.knT ?_ fun h4 => ?_
      · with_reducible assumption
      conv => whnf
      refine Bif.of (fun h5 => ?_) fun h5 => ?_
      · conv => whnf
        (exact hR (1, bits .or .u16 o (IntKind.u16.wrap (1 * 2 ^ min ((0 : Nat) : Int).toNat IntKind.u16.bits))) _ _ _ rfl rfl ⟨(by show 1 ≤ 15; decide), (by show bits .or .u16 o _ = meetN d0 d1 d2 d3 d4 d5 (0 + 1); rw [eo, ew, ho, Int.one_mul]; conv => (rhs; unfold meetN); rw [if_pos (by simp [prD, h0, h5])])⟩ (by show 15 - 1 < 15 - 0; decide))
      · conv => whnf
        (exact hR (1, o) _ _ _ rfl rfl ⟨(by show 1 ≤ 15; decide), (by show o = meetN d0 d1 d2 d3 d4 d5 (0 + 1); rw [ho]; conv => (rhs; unfold meetN); rw [if_neg (by simp [prD, h5]), Int.add_zero])⟩ (by show 15 - 1 < 15 - 0; decide))
    · conv => whnf
      refine Bif.knF ?_ fun h6 => ?_
      · with_reducible assumption
      conv => whnf
      refine Bif.knF ?_ fun h7 => ?_
      · with_reducible assumption
      conv => whnf
      refine Bif.knF ?_ fun h8 => ?_
      · with_reducible assumption
      conv => whnf
      refine Bif.knF ?_ fun h9 => ?_
      · with_reducible assumption
      conv => whnf
      (exact hR (1, o) _ _ _ rfl rfl ⟨(by show 1 ≤ 15; decide), (by show o = meetN d0 d1 d2 d3 d4 d5 (0 + 1); rw [ho]; conv => (rhs; unfold meetN); rw [if_neg (by simp [prD, h0]), Int.add_zero])⟩ (by show 15 - 1 < 15 - 0; decide))
  · have eo := or_add .u16 rfl 1 o 1 (by rw [ho]; exact hb) (by decide) (by decide) (by decide)
    have ew : IntKind.u16.wrap (1 * 2 ^ min ((1 : Nat) : Int).toNat IntKind.u16.bits) = 1 * 2 ^ 1 := by decide
    rw [← ew] at eo
    conv => whnf
    refine Bif.of (fun h0 => ?_) fun h0 => ?_
    · conv => whnf
      refine Bif.knT ?_ fun h1 => ?_
      · with_reducible assumption
      conv => whnf
      refine Bif.knT ?_ fun h2 => ?_
      · with_reducible assumption
      conv => whnf
      refine Bif.knT ?_ fun h3 => ?_
      · with_reducible assumption
      conv => whnf
      refine Bif.knT ?_ fun h4 => ?_
      · with_reducible assumption
      conv => whnf
      refine Bif.of (fun h5 => ?_) fun h5 => ?_
      · conv => whnf
        (exact hR (2, bits .or .u16 o (IntKind.u16.wrap (1 * 2 ^ min ((1 : Nat) : Int).toNat IntKind.u16.bits))) _ _ _ rfl rfl ⟨(by show 2 ≤ 15; decide), (by show bits .or .u16 o _ = meetN d0 d1 d2 d3 d4 d5 (1 + 1); rw [eo, ew, ho, Int.one_mul]; conv => (rhs; unfold meetN); rw [if_pos (by simp [prD, h0, h5])])⟩ (by show 15 - 2 < 15 - 1; decide))
      · conv => whnf
        (exact hR (2, o) _ _ _ rfl rfl ⟨(by show 2 ≤ 15; decide), (by show o = meetN d0 d1 d2 d3 d4 d5 (1 + 1); rw [ho]; conv => (rhs; unfold meetN); rw [if_neg (by simp [prD, h5]), Int.add_zero])⟩ (by show 15 - 2 < 15 - 1; decide))
    · conv => whnf
      refine Bif.knF ?_ fun h6 => ?_
      · with_reducible assumption
      conv => whnf
      refine Bif.knF ?_ fun h7 => ?_
      · with_reducible assumption
      conv => whnf
      refine Bif.knF ?_ fun h8 => ?_
      · with_reducible assumption
      conv => whnf
      refine Bif.knF ?_ fun h9 => ?_
      · with_reducible assumption
      conv => whnf
      (exact hR (2, o) _ _ _ rfl rfl ⟨(by show 2 ≤ 15; decide), (by show o = meetN d0 d1 d2 d3 d4 d5 (1 + 1); rw [ho]; conv => (rhs; unfold meetN); rw [if_neg (by simp [prD, h0]), Int.add_zero])⟩ (by show 15 - 2 < 15 - 1; decide))
  · have eo := or_add .u16 rfl 2 o 1 (by rw [ho]; exact hb) (by decide) (by decide) (by decide)
    have ew : IntKind.u16.wrap (1 * 2 ^ min ((2 : Nat) : Int).toNat IntKind.u16.bits) = 1 * 2 ^ 2 := by decide
    rw [← ew] at eo
    conv => whnf
    refine Bif.of (fun h0 => ?_) fun h0 => ?_
    · conv => whnf
      refine Bif.knT ?_ fun h1 => ?_
      · with_reducible assumption
      conv => whnf
      refine Bif.knT ?_ fun h2 => ?_
      · with_reducible assumption
      conv => whnf
      refine Bif.knT ?_ fun h3 => ?_
      · with_reducible assumption
      conv => whnf
      refine Bif.knT ?_ fun h4 => ?_
      · with_reducible assumption
      conv => whnf
      refine Bif.of (fun h5 => ?_) fun h5 => ?_
      · conv => whnf
        (exact hR (3, bits .or .u16 o (IntKind.u16.wrap (1 * 2 ^ min ((2 : Nat) : Int).toNat IntKind.u16.bits))) _ _ _ rfl rfl ⟨(by show 3 ≤ 15; decide), (by show bits .or .u16 o _ = meetN d0 d1 d2 d3 d4 d5 (2 + 1); rw [eo, ew, ho, Int.one_mul]; conv => (rhs; unfold meetN); rw [if_pos (by simp [prD, h0, h5])])⟩ (by show 15 - 3 < 15 - 2; decide))
      · conv => whnf
        (exact hR (3, o) _ _ _ rfl rfl ⟨(by show 3 ≤ 15; decide), (by show o = meetN d0 d1 d2 d3 d4 d5 (2 + 1); rw [ho]; conv => (rhs; unfold meetN); rw [if_neg (by simp [prD, h5]), Int.add_zero])⟩ (by show 15 - 3 < 15 - 2; decide))
    · conv => whnf
      refine Bif.knF ?_ fun h6 => ?_
      · with_reducible assumption
      conv => whnf
      refine Bif.knF ?_ fun h7 => ?_
      · with_reducible assumption
      conv => whnf
      refine Bif.knF ?_ fun h8 => ?_
      · with_reducible assumption
      conv => whnf
      refine Bif.knF ?_ fun h9 => ?_
      · with_reducible assumption
      conv => whnf
      (exact hR (3, o) _ _ _ rfl rfl ⟨(by show 3 ≤ 15; decide), (by show o = meetN d0 d1 d2 d3 d4 d5 (2 + 1); rw [ho]; conv => (rhs; unfold meetN); rw [if_neg (by simp [prD, h0]), Int.add_zero])⟩ (by show 15 - 3 < 15 - 2; decide))
  · have eo := or_add .u16 rfl 3 o 1 (by rw [ho]; exact hb) (by decide) (by decide) (by decide)
    have ew : IntKind.u16.wrap (1 * 2 ^ min ((3 : Nat) : Int).toNat IntKind.u16.bits) = 1 * 2 ^ 3 := by decide
    rw [← ew] at eo
    conv => whnf
    refine Bif.of (fun h0 => ?_) fun h0 => ?_
    · conv => whnf
      refine Bif.knT ?_ fun h1 => ?_
      · with_reducible assumption
      conv => whnf
      refine Bif.knT ?_ fun h2 => ?_
      · with_reducible assumption
      conv => whnf
      refine Bif.knT ?_ fun h3 => ?_
      · with_reducible assumption
      conv => whnf
      refine Bif.knT ?_ fun h4 => ?_
      · with_reducible assumption
      conv => whnf
      refine Bif.of (fun h5 => ?_) fun h5 => ?_
      · conv => whnf
        (exact hR (4, bits .or .u16 o (IntKind.u16.wrap (1 * 2 ^ min ((3 : Nat) : Int).toNat IntKind.u16.bits))) _ _ _ rfl rfl ⟨(by show 4 ≤ 15; decide), (by show bits .or .u16 o _ = meetN d0 d1 d2 d3 d4 d5 (3 + 1); rw [eo, ew, ho, Int.one_mul]; conv => (rhs; unfold meetN); rw [if_pos (by simp [prD, h0, h5])])⟩ (by show 15 - 4 < 15 - 3; decide))
      · conv => whnf
        (exact hR (4, o) _ _ _ rfl rfl ⟨(by show 4 ≤ 15; decide), (by show o = meetN d0 d1 d2 d3 d4 d5 (3 + 1); rw [ho]; conv => (rhs; unfold meetN); rw [if_neg (by simp [prD, h5]), Int.add_zero])⟩ (by show 15 - 4 < 15 - 3; decide))
    · conv => whnf
      refine Bif.knF ?_ fun h6 => ?_
      · with_reducible assumption
      conv => whnf
      refine Bif.knF ?_ fun h7 => ?_
      · with_reducible assumption
      conv => whnf
      refine Bif.knF ?_ fun h8 => ?_
      · with_reducible assumption
      conv => whnf
      refine Bif.knF ?_ fun h9 => ?_
      · with_reducible assumption
      conv => whnf
      (exact hR (4, o) _ _ _ rfl rfl ⟨(by show 4 ≤ 15; decide), (by show o = meetN d0 d1 d2 d3 d4 d5 (3 + 1); rw [ho]; conv => (rhs; unfold meetN); rw [if_neg (by simp [prD, h0]), Int.add_zero])⟩ (by show 15 - 4 < 15 - 3; decide))
  · have eo := or_add .u16 rfl 4 o 1 (by rw [ho]; exact hb) (by decide) (by decide) (by decide)
    have ew : IntKind.u16.wrap (1 * 2 ^ min ((4 : Nat) : Int).toNat IntKind.u16.bits) = 1 * 2 ^ 4 := by decide
    rw [← ew] at eo
    conv => whnf
    refine Bif.of (fun h0 => ?_) fun h0 => ?_
    · conv => whnf
      refine Bif.knT ?_ fun h1 => ?_
      · with_reducible assumption
      conv => whnf
      refine Bif.knT ?_ fun h2 => ?_
      · with_reducible assumption
      conv => whnf
      refine Bif.knT ?_ fun h3 => ?_
      · with_reducible assumption
      conv => whnf
      refine Bif.knT ?_ fun h4 => ?_
      · with_reducible assumption
      conv => whnf
      refine Bif.of (fun h5 => ?_) fun h5 => ?_
      · conv => whnf
        (exact hR (5, bits .or .u16 o (IntKind.u16.wrap (1 * 2 ^ min ((4 : Nat) : Int).toNat IntKind.u16.bits))) _ _ _ rfl rfl ⟨(by show 5 ≤ 15; decide), (by show bits .or .u16 o _ = meetN d0 d1 d2 d3 d4 d5 (4 + 1); rw [eo, ew, ho, Int.one_mul]; conv => (rhs; unfold meetN); rw [if_pos (by simp [prD, h0, h5])])⟩ (by show 15 - 5 < 15 - 4; decide))
      · conv => whnf
        (exact hR (5, o) _ _ _ rfl rfl ⟨(by show 5 ≤ 15; decide), (by show o = meetN d0 d1 d2 d3 d4 d5 (4 + 1); rw [ho]; conv => (rhs; unfold meetN); rw [if_neg (by simp [prD, h5]), Int.add_zero])⟩ (by show 15 - 5 < 15 - 4; decide))
    · conv => whnf
      refine Bif.knF ?_ fun h6 => ?_
      · with_reducible assumption
      conv => whnf
      refine Bif.knF ?_ fun h7 => ?_
      · with_reducible assumption
      conv => whnf
      refine Bif.knF ?_ fun h8 => ?_
      · with_reducible assumption
      conv => whnf
      refine Bif.knF ?_ fun h9 => ?_
      · with_reducible assumption
      conv => whnf
      (exact hR (5, o) _ _ _ rfl rfl ⟨(by show 5 ≤ 15; decide), (by show o = meetN d0 d1 d2 d3 d4 d5 (4 + 1); rw [ho]; conv => (rhs; unfold meetN); rw [if_neg (by simp [prD, h0]), Int.add_zero])⟩ (by show 15 - 5 < 15 - 4; decide))
  · have eo := or_add .u16 rfl 5 o 1 (by rw [ho]; exact hb) (by decide) (by decide) (by decide)
    have ew : IntKind.u16.wrap (1 * 2 ^ min ((5 : Nat) : Int).toNat IntKind.u16.bits) = 1 * 2 ^ 5 := by decide
    rw [← ew] at eo
    conv => whnf
    refine Bif.of (fun h0 => ?_) fun h0 => ?_
    · conv => whnf
      refine Bif.knT ?_ fun h1 => ?_
      · with_reducible assumption
      conv => whnf
      refine Bif.knT ?_ fun h2 => ?_
      · with_reducible assumption
      conv => whnf
      refine Bif.knT ?_ fun h3 => ?_
      · with_reducible assumption
      conv => whnf
      refine Bif.knT ?_ fun h4 => ?_
      · with_reducible assumption
      conv => whnf
      refine Bif.of (fun h5 => ?_) fun h5 => ?_
      · conv => whnf
        (exact hR (6, bits .or .u16 o (IntKind.u16.wrap (1 * 2 ^ min ((5 : Nat) : Int).toNat IntKind.u16.bits))) _ _ _ rfl rfl ⟨(by show 6 ≤ 15; decide), (by show bits .or .u16 o _ = meetN d0 d1 d2 d3 d4 d5 (5 + 1); rw [eo, ew, ho, Int.one_mul]; conv => (rhs; unfold meetN); rw [if_pos (by simp [prD, h0, h5])])⟩ (by show 15 - 6 < 15 - 5; decide))
      · conv => whnf
        (exact hR (6, o) _ _ _ rfl rfl ⟨(by show 6 ≤ 15; decide), (by show o = meetN d0 d1 d2 d3 d4 d5 (5 + 1); rw [ho]; conv => (rhs; unfold meetN); rw [if_neg (by simp [prD, h5]), Int.add_zero])⟩ (by show 15 - 6 < 15 - 5; decide))
    · conv => whnf
      refine Bif.knF ?_ fun h6 => ?_
      · with_reducible assumption
      conv => whnf
      refine Bif.knF ?_ fun h7 => ?_
      · with_reducible assumption
      conv => whnf
      refine Bif.knF ?_ fun h8 => ?_
      · with_reducible assumption
      conv => whnf
      refine Bif.knF ?_ fun h9 => ?_
      · with_reducible assumption
      conv => whnf
      (exact hR (6, o) _ _ _ rfl rfl ⟨(by show 6 ≤ 15; decide), (by show o = meetN d0 d1 d2 d3 d4 d5 (5 + 1); rw [ho]; conv => (rhs; unfold meetN); rw [if_neg (by simp [prD, h0]), Int.add_zero])⟩ (by show 15 - 6 < 15 - 5; decide))
  · have eo := or_add .u16 rfl 6 o 1 (by rw [ho]; exact hb) (by decide) (by decide) (by decide)
    have ew : IntKind.u16.wrap (1 * 2 ^ min ((6 : Nat) : Int).toNat IntKind.u16.bits) = 1 * 2 ^ 6 := by decide
    rw [← ew] at eo
    conv => whnf
    refine Bif.of (fun h0 => ?_) fun h0 => ?_
    · conv => whnf
      refine Bif.knT ?_ fun h1 => ?_
      · with_reducible assumption
      conv => whnf
      refine Bif.knT ?_ fun h2 => ?_
      · with_reducible assumption
      conv => whnf
      refine Bif.knT ?_ fun h3 => ?_
      · with_reducible assumption
      conv => whnf
      refine Bif.knT ?_ fun h4 => ?_
      · with_reducible assumption
      conv => whnf
      refine Bif.of (fun h5 => ?_) fun h5 => ?_
      · conv => whnf
        (exact hR (7, bits .or .u16 o (IntKind.u16.wrap (1 * 2 ^ min ((6 : Nat) : Int).toNat IntKind.u16.bits))) _ _ _ rfl rfl ⟨(by show 7 ≤ 15; decide), (by show bits .or .u16 o _ = meetN d0 d1 d2 d3 d4 d5 (6 + 1); rw [eo, ew, ho, Int.one_mul]; conv => (rhs; unfold meetN); rw [if_pos (by simp [prD, h0, h5])])⟩ (by show 15 - 7 < 15 - 6; decide))
      · conv => whnf
        (exact hR (7, o) _ _ _ rfl rfl ⟨(by show 7 ≤ 15; decide), (by show o = meetN d0 d1 d2 d3 d4 d5 (6 + 1); rw [ho]; conv => (rhs; unfold meetN); rw [if_neg (by simp [prD, h5]), Int.add_zero])⟩ (by show 15 - 7 < 15 - 6; decide))
    · conv => whnf
      refine Bif.knF ?_ fun h6 => ?_
      · with_reducible assumption
      conv => whnf
      refine Bif.knF ?_ fun h7 => ?_
      · with_reducible assumption
      conv => whnf
      refine Bif.knF ?_ fun h8 => ?_
      · with_reducible assumption
      conv => whnf
      refine Bif.knF ?_ fun h9 => ?_
      · with_reducible assumption
      conv => whnf
      (exact hR (7, o) _ _ _ rfl rfl ⟨(by show 7 ≤ 15; decide), (by show o = meetN d0 d1 d2 d3 d4 d5 (6 + 1); rw [ho]; conv => (rhs; unfold meetN); rw [if_neg (by simp [prD, h0]), Int.add_zero])⟩ (by show 15 - 7 < 15 - 6; decide))
  · have eo := or_add .u16 rfl 7 o 1 (by rw [ho]; exact hb) (by decide) (by decide) (by decide)
    have ew : IntKind.u16.wrap (1 * 2 ^ min ((7 : Nat) : Int).toNat IntKind.u16.bits) = 1 * 2 ^ 7 := by decide
    rw [← ew] at eo
    conv => whnf
    refine Bif.of (fun h0 => ?_) fun h0 => ?_
    · conv => whnf
      refine Bif.knT ?_ fun h1 => ?_
      · with_reducible assumption
      conv => whnf
      refine Bif.knT ?_ fun h2 => ?_
      · with_reducible assumption
      conv => whnf
      refine Bif.knT ?_ fun h3 => ?_
      · with_reducible assumption
      conv => whnf
      refine Bif.knT ?_ fun h4 => ?_
      · with_reducible assumption
      conv => whnf
      refine Bif.of (fun h5 => ?_) fun h5 => ?_
      · conv => whnf
        (exact hR (8, bits .or .u16 o (IntKind.u16.wrap (1 * 2 ^ min ((7 : Nat) : Int).toNat IntKind.u16.bits))) _ _ _ rfl rfl ⟨(by show 8 ≤ 15; decide), (by show bits .or .u16 o _ = meetN d0 d1 d2 d3 d4 d5 (7 + 1); rw [eo, ew, ho, Int.one_mul]; conv => (rhs; unfold meetN); rw [if_pos (by simp [prD, h0, h5])])⟩ (by show 15 - 8 < 15 - 7; decide))
      · conv => whnf
        (exact hR (8, o) _ _ _ rfl rfl ⟨(by show 8 ≤ 15; decide), (by show o = meetN d0 d1 d2 d3 d4 d5 (7 + 1); rw [ho]; conv => (rhs; unfold meetN); rw [if_neg (by simp [prD, h5]), Int.add_zero])⟩ (by show 15 - 8 < 15 - 7; decide))
    · conv => whnf
      refine Bif.knF ?_ fun h6 => ?_
      · with_reducible assumption
      conv => whnf
      refine Bif.knF ?_ fun h7 => ?_
      · with_reducible assumption
      conv => whnf
      refine Bif.knF ?_ fun h8 => ?_
      · with_reducible assumption
      conv => whnf
      refine Bif.knF ?_ fun h9 => ?_
      · with_reducible assumption
      conv => whnf
      (exact hR (8, o) _ _ _ rfl rfl ⟨(by show 8 ≤ 15; decide), (by show o = meetN d0 d1 d2 d3 d4 d5 (7 + 1); rw [ho]; conv => (rhs; unfold meetN); rw [if_neg (by simp [prD, h0]), Int.add_zero])⟩ (by show 15 - 8 < 15 - 7; decide))
  · have eo := or_add .u16 rfl 8 o 1 (by rw [ho]; exact hb) (by decide) (by decide) (by decide)
    have ew : IntKind.u16.wrap (1 * 2 ^ min ((8 : Nat) : Int).toNat IntKind.u16.bits) = 1 * 2 ^ 8 := by decide
    rw [← ew] at eo
    conv => whnf
    refine Bif.of (fun h0 => ?_) fun h0 => ?_
    · conv => whnf
      refine Bif.knT ?_ fun h1 => ?_
      · with_reducible assumption
      conv => whnf
      refine Bif.knT ?_ fun h2 => ?_
      · with_reducible assumption
      conv => whnf
      refine Bif.knT ?_ fun h3 => ?_
      · with_reducible assumption
      conv => whnf
      refine Bif.knT ?_ fun h4 => ?_
      · with_reducible assumption
      conv => whnf
      refine Bif.of (fun h5 => ?_) fun h5 => ?_
      · conv => whnf
        (exact hR (9, bits .or .u16 o (IntKind.u16.wrap (1 * 2 ^ min ((8 : Nat) : Int).toNat IntKind.u16.bits))) _ _ _ rfl rfl ⟨(by show 9 ≤ 15; decide), (by show bits .or .u16 o _ = meetN d0 d1 d2 d3 d4 d5 (8 + 1); rw [eo, ew, ho, Int.one_mul]; conv => (rhs; unfold meetN); rw [if_pos (by simp [prD, h0, h5])])⟩ (by show 15 - 9 < 15 - 8; decide))
      · conv => whnf
        (exact hR (9, o) _ _ _ rfl rfl ⟨(by show 9 ≤ 15; decide), (by show o = meetN d0 d1 d2 d3 d4 d5 (8 + 1); rw [ho]; conv => (rhs; unfold meetN); rw [if_neg (by simp [prD, h5]), Int.add_zero])⟩ (by show 15 - 9 < 15 - 8; decide))
    · conv => whnf
      refine Bif.knF ?_ fun h6 => ?_
      · with_reducible assumption
      conv => whnf
      refine Bif.knF ?_ fun h7 => ?_
      · with_reducible assumption
      conv => whnf
      refine Bif.knF ?_ fun h8 => ?_
      · with_reducible assumption
      conv => whnf
      refine Bif.knF ?_ fun h9 => ?_
      · with_reducible assumption
      conv => whnf
      (exact hR (9, o) _ _ _ rfl rfl ⟨(by show 9 ≤ 15; decide), (by show o = meetN d0 d1 d2 d3 d4 d5 (8 + 1); rw [ho]; conv => (rhs; unfold meetN); rw [if_neg (by simp [prD, h0]), Int.add_zero])⟩ (by show 15 - 9 < 15 - 8; decide))
  · have eo := or_add .u16 rfl 9 o 1 (by rw [ho]; exact hb) (by decide) (by decide) (by decide)
    have ew : IntKind.u16.wrap (1 * 2 ^ min ((9 : Nat) : Int).toNat IntKind.u16.bits) = 1 * 2 ^ 9 := by decide
    rw [← ew] at eo
    conv => whnf
    refine Bif.of (fun h0 => ?_) fun h0 => ?_
    · conv => whnf
      refine Bif.knT ?_ fun h1 => ?_
      · with_reducible assumption
      conv => whnf
      refine Bif.knT ?_ fun h2 => ?_
      · with_reducible assumption
      conv => whnf
      refine Bif.knT ?_ fun h3 => ?_
      · with_reducible assumption
      conv => whnf
      refine Bif.knT ?_ fun h4 => ?_
      · with_reducible assumption
      conv => whnf
      refine Bif.of (fun h5 => ?_) fun h5 => ?_
      · conv => whnf
        (exact hR (10, bits .or .u16 o (IntKind.u16.wrap (1 * 2 ^ min ((9 : Nat) : Int).toNat IntKind.u16.bits))) _ _ _ rfl rfl ⟨(by show 10 ≤ 15; decide), (by show bits .or .u16 o _ = meetN d0 d1 d2 d3 d4 d5 (9 + 1); rw [eo, ew, ho, Int.one_mul]; conv => (rhs; unfold meetN); rw [if_pos (by simp [prD, h0, h5])])⟩ (by show 15 - 10 < 15 - 9; decide))
      · conv => whnf
        (exact hR (10, o) _ _ _ rfl rfl ⟨(by show 10 ≤ 15; decide), (by show o = meetN d0 d1 d2 d3 d4 d5 (9 + 1); rw [ho]; conv => (rhs; unfold meetN); rw [if_neg (by simp [prD, h5]), Int.add_zero])⟩ (by show 15 - 10 < 15 - 9; decide))
    · conv => whnf
      refine Bif.knF ?_ fun h6 => ?_
      · with_reducible assumption
      conv => whnf
      refine Bif.knF ?_ fun h7 => ?_
      · with_reducible assumption
      conv => whnf
      refine Bif.knF ?_ fun h8 => ?_
      · with_reducible assumption
      conv => whnf
      refine Bif.knF ?_ fun h9 => ?_
      · with_reducible assumption
      conv => whnf
      (exact hR (10, o) _ _ _ rfl rfl ⟨(by show 10 ≤ 15; decide), (by show o = meetN d0 d1 d2 d3 d4 d5 (9 + 1); rw [ho]; conv => (rhs; unfold meetN); rw [if_neg (by simp [prD, h0]), Int.add_zero])⟩ (by show 15 - 10 < 15 - 9; decide))
  · have eo := or_add .u16 rfl 10 o 1 (by rw [ho]; exact hb) (by decide) (by decide) (by decide)
    have ew : IntKind.u16.wrap (1 * 2 ^ min ((10 : Nat) : Int).toNat IntKind.u16.bits) = 1 * 2 ^ 10 := by decide
    rw [← ew] at eo
    conv => whnf
    refine Bif.of (fun h0 => ?_) fun h0 => ?_
    · conv => whnf
      refine Bif.knT ?_ fun h1 => ?_
      · with_reducible assumption
      conv => whnf
      refine Bif.knT ?_ fun h2 => ?_
      · with_reducible assumption
      conv => whnf
      refine Bif.knT ?_ fun h3 => ?_
      · with_reducible assumption
      conv => whnf
      refine Bif.knT ?_ fun h4 => ?_
      · with_reducible assumption
      conv => whnf
      refine Bif.of (fun h5 => ?_) fun h5 => ?_
      · conv => whnf
        (exact hR (11, bits .or .u16 o (IntKind.u16.wrap (1 * 2 ^ min ((10 : Nat) : Int).toNat IntKind.u16.bits))) _ _ _ rfl rfl ⟨(by show 11 ≤ 15; decide), (by show bits .or .u16 o _ = meetN d0 d1 d2 d3 d4 d5 (10 + 1); rw [eo, ew, ho, Int.one_mul]; conv => (rhs; unfold meetN); rw [if_pos (by simp [prD, h0, h5])])⟩ (by show 15 - 11 < 15 - 10; decide))
      · conv => whnf
        (exact hR (11, o) _ _ _ rfl rfl ⟨(by show 11 ≤ 15; decide), (by show o = meetN d0 d1 d2 d3 d4 d5 (10 + 1); rw [ho]; conv => (rhs; unfold meetN); rw [if_neg (by simp [prD, h5]), Int.add_zero])⟩ (by show 15 - 11 < 15 - 10; decide))
    · conv => whnf
      refine Bif.knF ?_ fun h6 => ?_
      · with_reducible assumption
      conv => whnf
      refine Bif.knF ?_ fun h7 => ?_
      · with_reducible assumption
      conv => whnf
      refine Bif.knF ?_ fun h8 => ?_
      · with_reducible assumption
      conv => whnf
      refine Bif.knF ?_ fun h9 => ?_
      · with_reducible assumption
      conv => whnf
      (exact hR (11, o) _ _ _ rfl rfl ⟨(by show 11 ≤ 15; decide), (by show o = meetN d0 d1 d2 d3 d4 d5 (10 + 1); rw [ho]; conv => (rhs; unfold meetN); rw [if_neg (by simp [prD, h0]), Int.add_zero])⟩ (by show 15 - 11 < 15 - 10; decide))
  · have eo := or_add .u16 rfl 11 o 1 (by rw [ho]; exact hb) (by decide) (by decide) (by decide)
    have ew : IntKind.u16.wrap (1 * 2 ^ min ((11 : Nat) : Int).toNat IntKind.u16.bits) = 1 * 2 ^ 11 := by decide
    rw [← ew] at eo
    conv => whnf
    refine Bif.of (fun h0 => ?_) fun h0 => ?_
    · conv => whnf
      refine Bif.knT ?_ fun h1 => ?_
      · with_reducible assumption
      conv => whnf
      refine Bif.knT ?_ fun h2 => ?_
      · with_reducible assumption
      conv => whnf
      refine Bif.knT ?_ fun h3 => ?_
      · with_reducible assumption
      conv => whnf
      refine Bif.knT ?_ fun h4 => ?_
      · with_reducible assumption
      conv => whnf
      refine Bif.of (fun h5 => ?_) fun h5 => ?_
      · conv => whnf
        (exact hR (12, bits .or .u16 o (IntKind.u16.wrap (1 * 2 ^ min ((11 : Nat) : Int).toNat IntKind.u16.bits))) _ _ _ rfl rfl ⟨(by show 12 ≤ 15; decide), (by show bits .or .u16 o _ = meetN d0 d1 d2 d3 d4 d5 (11 + 1); rw [eo, ew, ho, Int.one_mul]; conv => (rhs; unfold meetN); rw [if_pos (by simp [prD, h0, h5])])⟩ (by show 15 - 12 < 15 - 11; decide))
      · conv => whnf
        (exact hR (12, o) _ _ _ rfl rfl ⟨(by show 12 ≤ 15; decide), (by show o = meetN d0 d1 d2 d3 d4 d5 (11 + 1); rw [ho]; conv => (rhs; unfold meetN); rw [if_neg (by simp [prD, h5]), Int.add_zero])⟩ (by show 15 - 12 < 15 - 11; decide))
    · conv => whnf
      refine Bif.knF ?_ fun h6 => ?_
      · with_reducible assumption
      conv => whnf
      refine Bif.knF ?_ fun h7 => ?_
      · with_reducible assumption
      conv => whnf
      refine Bif.knF ?_ fun h8 => ?_
      · with_reducible assumption
      conv => whnf
      refine Bif.knF ?_ fun h9 => ?_
      · with_reducible assumption
      conv => whnf
      (exact hR (12, o) _ _ _ rfl rfl ⟨(by show 12 ≤ 15; decide), (by show o = meetN d0 d1 d2 d3 d4 d5 (11 + 1); rw [ho]; conv => (rhs; unfold meetN); rw [if_neg (by simp [prD, h0]), Int.add_zero])⟩ (by show 15 - 12 < 15 - 11; decide))
  · have eo := or_add .u16 rfl 12 o 1 (by rw [ho]; exact hb) (by decide) (by decide) (by decide)
    have ew : IntKind.u16.wrap (1 * 2 ^ min ((12 : Nat) : Int).toNat IntKind.u16.bits) = 1 * 2 ^ 12 := by decide
    rw [← ew] at eo
    conv => whnf
    refine Bif.of (fun h0 => ?_) fun h0 => ?_
    · conv => whnf
      refine Bif.knT ?_ fun h1 => ?_
      · with_reducible assumption
      conv => whnf
      refine Bif.knT ?_ fun h2 => ?_
      · with_reducible assumption
      conv => whnf
      refine Bif.knT ?_ fun h3 => ?_
      · with_reducible assumption
      conv => whnf
      refine Bif.knT ?_ fun h4 => ?_
      · with_reducible assumption
      conv => whnf
      refine Bif.of (fun h5 => ?_) fun h5 => ?_
      · conv => whnf
        (exact hR (13, bits .or .u16 o (IntKind.u16.wrap (1 * 2 ^ min ((12 : Nat) : Int).toNat IntKind.u16.bits))) _ _ _ rfl rfl ⟨(by show 13 ≤ 15; decide), (by show bits .or .u16 o _ = meetN d0 d1 d2 d3 d4 d5 (12 + 1); rw [eo, ew, ho, Int.one_mul]; conv => (rhs; unfold meetN); rw [if_pos (by simp [prD, h0, h5])])⟩ (by show 15 - 13 < 15 - 12; decide))
      · conv => whnf
        (exact hR (13, o) _ _ _ rfl rfl ⟨(by show 13 ≤ 15; decide), (by show o = meetN d0 d1 d2 d3 d4 d5 (12 + 1); rw [ho]; conv => (rhs; unfold meetN); rw [if_neg (by simp [prD, h5]), Int.add_zero])⟩ (by show 15 - 13 < 15 - 12; decide))
    · conv => whnf
      refine Bif.knF ?_ fun h6 => ?_
      · with_reducible assumption
      conv => whnf
      refine Bif.knF ?_ fun h7 => ?_
      · with_reducible assumption
      conv => whnf
      refine Bif.knF ?_ fun h8 => ?_
      · with_reducible assumption
      conv => whnf
      refine Bif.knF ?_ fun h9 => ?_
      · with_reducible assumption
      conv => whnf
      (exact hR (13, o) _ _ _ rfl rfl ⟨(by show 13 ≤ 15; decide), (by show o = meetN d0 d1 d2 d3 d4 d5 (12 + 1); rw [ho]; conv => (rhs; unfold meetN); rw [if_neg (by simp [prD, h0]), Int.add_zero])⟩ (by show 15 - 13 < 15 - 12; decide))
  · have eo := or_add .u16 rfl 13 o 1 (by rw [ho]; exact hb) (by decide) (by decide) (by decide)
    have ew : IntKind.u16.wrap (1 * 2 ^ min ((13 : Nat) : Int).toNat IntKind.u16.bits) = 1 * 2 ^ 13 := by decide
    rw [← ew] at eo
    conv => whnf
    refine Bif.of (fun h0 => ?_) fun h0 => ?_
    · conv => whnf
      refine Bif.knT ?_ fun h1 => ?_
      · with_reducible assumption
      conv => whnf
      refine Bif.knT ?_ fun h2 => ?_
      · with_reducible assumption
      conv => whnf
      refine Bif.knT ?_ fun h3 => ?_
      · with_reducible assumption
      conv => whnf
      refine Bif.knT ?_ fun h4 => ?_
      · with_reducible assumption
      conv => whnf
      refine Bif.of (fun h5 => ?_) fun h5 => ?_
      · conv => whnf
        (exact hR (14, bits .or .u16 o (IntKind.u16.wrap (1 * 2 ^ min ((13 : Nat) : Int).toNat IntKind.u16.bits))) _ _ _ rfl rfl ⟨(by show 14 ≤ 15; decide), (by show bits .or .u16 o _ = meetN d0 d1 d2 d3 d4 d5 (13 + 1); rw [eo, ew, ho, Int.one_mul]; conv => (rhs; unfold meetN); rw [if_pos (by simp [prD, h0, h5])])⟩ (by show 15 - 14 < 15 - 13; decide))
      · conv => whnf
        (exact hR (14, o) _ _ _ rfl rfl ⟨(by show 14 ≤ 15; decide), (by show o = meetN d0 d1 d2 d3 d4 d5 (13 + 1); rw [ho]; conv => (rhs; unfold meetN); rw [if_neg (by simp [prD, h5]), Int.add_zero])⟩ (by show 15 - 14 < 15 - 13; decide))
    · conv => whnf
      refine Bif.knF ?_ fun h6 => ?_
      · with_reducible assumption
      conv => whnf
      refine Bif.knF ?_ fun h7 => ?_
      · with_reducible assumption
      conv => whnf
      refine Bif.knF ?_ fun h8 => ?_
      · with_reducible assumption
      conv => whnf
      refine Bif.knF ?_ fun h9 => ?_
      · with_reducible assumption
      conv => whnf
      (exact hR (14, o) _ _ _ rfl rfl ⟨(by show 14 ≤ 15; decide), (by show o = meetN d0 d1 d2 d3 d4 d5 (13 + 1); rw [ho]; conv => (rhs; unfold meetN); rw [if_neg (by simp [prD, h0]), Int.add_zero])⟩ (by show 15 - 14 < 15 - 13; decide))
  · have eo := or_add .u16 rfl 14 o 1 (by rw [ho]; exact hb) (by decide) (by decide) (by decide)
    have ew : IntKind.u16.wrap (1 * 2 ^ min ((14 : Nat) : Int).toNat IntKind.u16.bits) = 1 * 2 ^ 14 := by decide
    rw [← ew] at eo
    conv => whnf
    refine Bif.of (fun h0 => ?_) fun h0 => ?_
    · conv => whnf
      refine Bif.knT ?_ fun h1 => ?_
      · with_reducible assumption
      conv => whnf
      refine Bif.knT ?_ fun h2 => ?_
      · with_reducible assumption
      conv => whnf
      refine Bif.knT ?_ fun h3 => ?_
      · with_reducible assumption
      conv => whnf
      refine Bif.knT ?_ fun h4 => ?_
      · with_reducible assumption
      conv => whnf
      refine Bif.of (fun h5 => ?_) fun h5 => ?_
      · conv => whnf
        (exact hR (15, bits .or .u16 o (IntKind.u16.wrap (1 * 2 ^ min ((14 : Nat) : Int).toNat IntKind.u16.bits))) _ _ _ rfl rfl ⟨(by show 15 ≤ 15; decide), (by show bits .or .u16 o _ = meetN d0 d1 d2 d3 d4 d5 (14 + 1); rw [eo, ew, ho, Int.one_mul]; conv => (rhs; unfold meetN); rw [if_pos (by simp [prD, h0, h5])])⟩ (by show 15 - 15 < 15 - 14; decide))
      · conv => whnf
        (exact hR (15, o) _ _ _ rfl rfl ⟨(by show 15 ≤ 15; decide), (by show o = meetN d0 d1 d2 d3 d4 d5 (14 + 1); rw [ho]; conv => (rhs; unfold meetN); rw [if_neg (by simp [prD, h5]), Int.add_zero])⟩ (by show 15 - 15 < 15 - 14; decide))
    · conv => whnf
      refine Bif.knF ?_ fun h6 => ?_
      · with_reducible assumption
      conv => whnf
      refine Bif.knF ?_ fun h7 => ?_
      · with_reducible assumption
      conv => whnf
      refine Bif.knF ?_ fun h8 => ?_
      · with_reducible assumption
      conv => whnf
      refine Bif.knF ?_ fun h9 => ?_
      · with_reducible assumption
      conv => whnf
      (exact hR (15, o) _ _ _ rfl rfl ⟨(by show 15 ≤ 15; decide), (by show o = meetN d0 d1 d2 d3 d4 d5 (14 + 1); rw [ho]; conv => (rhs; unfold meetN); rw [if_neg (by simp [prD, h0]), Int.add_zero])⟩ (by show 15 - 15 < 15 - 14; decide))
  · conv => whnf
    clear hR
    (rw [← ho]; exact ⟨rfl, rfl⟩)
theorem ref_meet (d0 d1 d2 d3 d4 d5 : Bool) : ACalls Try.prog 18 [.agg #[.bool d0, .bool d1, .bool d2, .bool d3, .bool d4, .bool d5]] [] fun r H => r = .int .i64 (meetN d0 d1 d2 d3 d4 d5 15) ∧ H = [] := by
  refine ACalls.code tabOk h18 Try.func18 Try.call18 ok18 ?_
  conv => whnf

  refine ALoop.fd (σ := Nat × Int) (fun q => [.chan none, .pointer (some ⟨0, 0, none⟩), .int .i64 0, .int .i64 q.2, .int .i64 q.1, .chan none, .chan none, .chan none, .chan none, .chan none, .chan none, .chan none, .chan none, .chan none, .chan none, .chan none, .chan none, .chan none, .chan none, .chan none, .chan none, .chan none, .chan none, .chan none, .chan none, .chan none, .chan none, .chan none, .chan none]) (fun _ => [.cells [.bool d0, .bool d1, .bool d2, .bool d3, .bool d4, .bool d5] 27]) (fun q => q.1 ≤ 15 ∧ q.2 = meetN d0 d1 d2 d3 d4 d5 q.1) (fun q => 15 - q.1) (0, 0) [] rfl rfl ⟨Nat.zero_le _, rfl⟩ (fun _ => ⟨rfl, rfl, rfl, rfl⟩) ?_
  rintro ⟨n, o⟩ ⟨hn, ho⟩ R hR
  dsimp only at hn ho
  have hb := meetN_bd d0 d1 d2 d3 d4 d5 n
  have hn' : n = 0 ∨ n = 1 ∨ n = 2 ∨ n = 3 ∨ n = 4 ∨ n = 5 ∨ n = 6 ∨ n = 7 ∨ n = 8 ∨ n = 9 ∨ n = 10 ∨ n = 11 ∨ n = 12 ∨ n = 13 ∨ n = 14 ∨ n = 15 := by omega
  rcases hn' with rfl | rfl | rfl | rfl | rfl | rfl | rfl | rfl | rfl | rfl | rfl | rfl | rfl | rfl | rfl | rfl

  · have ew : IntKind.i64.wrap (o + 2 ^ ((0 : Nat) : Int).toNat) = o + 2 ^ 0 := by
      rw [show ((0 : Nat) : Int).toNat = 0 from rfl]
      simp only [Int.reducePow] at hb ⊢
      rw [wrap64 (by omega) (by omega)]
    conv => whnf
    refine ACalls.code tabOk h29 Try.func29 Try.call29 ok29 ?_
    conv => whnf
    refine Bif.of (fun h0 => ?_) fun h0 => ?_
    · conv => whnf
      refine Bif.knT ?_ fun h1 => ?_
      · with_reducible assumption
      conv => whnf
      refine Bif.knT ?_ fun h2 => ?_
      · with_reducible assumption
      conv => whnf
      refine Bif.knT ?_ fun h3 => ?_
      · with_reducible assumption
      conv => whnf
      refine Bif.of (fun h4 => ?_) fun h4 => ?_
      · conv => whnf
        refine ACalls.useE (ref_pow _ ?_) [] rfl (by (conv => whnf); try rfl) (by (conv => whnf); try rfl) ?_
        · omega
        conv => whnf
        (exact hR (1, IntKind.i64.wrap (o + 2 ^ ((0 : Nat) : Int).toNat)) _ _ _ rfl rfl ⟨(by show 1 ≤ 15; decide), (by show IntKind.i64.wrap _ = meetN d0 d1 d2 d3 d4 d5 (0 + 1); rw [ew, ho]; conv => (rhs; unfold meetN); rw [if_pos (by simp [prD, h0, h4])]; rfl)⟩ (by show 15 - 1 < 15 - 0; decide))
      · conv => whnf
        (exact hR (1, o) _ _ _ rfl rfl ⟨(by show 1 ≤ 15; decide), (by show o = meetN d0 d1 d2 d3 d4 d5 (0 + 1); rw [ho]; conv => (rhs; unfold meetN); rw [if_neg (by simp [prD, h4]), Int.add_zero])⟩ (by show 15 - 1 < 15 - 0; decide))
    · conv => whnf
      refine Bif.knF ?_ fun h5 => ?_
      · with_reducible assumption
      conv => whnf
      refine Bif.knF ?_ fun h6 => ?_
      · with_reducible assumption
      conv => whnf
      refine Bif.knF ?_ fun h7 => ?_
      · with_reducible assumption
      conv => whnf
      (exact hR (1, o) _ _ _ rfl rfl ⟨(by show 1 ≤ 15; decide), (by show o = meetN d0 d1 d2 d3 d4 d5 (0 + 1); rw [ho]; conv => (rhs; unfold meetN); rw [if_neg (by simp [prD, h0]), Int.add_zero])⟩ (by show 15 - 1 < 15 - 0; decide))
  · have ew : IntKind.i64.wrap (o + 2 ^ ((1 : Nat) : Int).toNat) = o + 2 ^ 1 := by
      rw [show ((1 : Nat) : Int).toNat = 1 from rfl]
      simp only [Int.reducePow] at hb ⊢
      rw [wrap64 (by omega) (by omega)]
    conv => whnf
    refine ACalls.code tabOk h29 Try.func29 Try.call29 ok29 ?_
    conv => whnf
    refine Bif.of (fun h0 => ?_) fun h0 => ?_
    · conv => whnf
      refine Bif.knT ?_ fun h1 => ?_
      · with_reducible assumption
      conv => whnf
      refine Bif.knT ?_ fun h2 => ?_
      · with_reducible assumption
      conv => whnf
      refine Bif.knT ?_ fun h3 => ?_
      · with_reducible assumption
      conv => whnf
      refine Bif.of (fun h4 => ?_) fun h4 => ?_
      · conv => whnf
        refine ACalls.useE (ref_pow _ ?_) [] rfl (by (conv => whnf); try rfl) (by (conv => whnf); try rfl) ?_
        · omega
        conv => whnf
        (exact hR (2, IntKind.i64.wrap (o + 2 ^ ((1 : Nat) : Int).toNat)) _ _ _ rfl rfl ⟨(by show 2 ≤ 15; decide), (by show IntKind.i64.wrap _ = meetN d0 d1 d2 d3 d4 d5 (1 + 1); rw [ew, ho]; conv => (rhs; unfold meetN); rw [if_pos (by simp [prD, h0, h4])]; rfl)⟩ (by show 15 - 2 < 15 - 1; decide))
      · conv => whnf
        (exact hR (2, o) _ _ _ rfl rfl ⟨(by show 2 ≤ 15; decide), (by show o = meetN d0 d1 d2 d3 d4 d5 (1 + 1); rw [ho]; conv => (rhs; unfold meetN); rw [if_neg (by simp [prD, h4]), Int.add_zero])⟩ (by show 15 - 2 < 15 - 1; decide))
    · conv => whnf
      refine Bif.knF ?_ fun h5 => ?_
      · with_reducible assumption
      conv => whnf
      refine Bif.knF ?_ fun h6 => ?_
      · with_reducible assumption
      conv => whnf
      refine Bif.knF ?_ fun h7 => ?_
      · with_reducible assumption
      conv => whnf
      (exact hR (2, o) _ _ _ rfl rfl ⟨(by show 2 ≤ 15; decide), (by show o = meetN d0 d1 d2 d3 d4 d5 (1 + 1); rw [ho]; conv => (rhs; unfold meetN); rw [if_neg (by simp [prD, h0]), Int.add_zero])⟩ (by show 15 - 2 < 15 - 1; decide))
  · have ew : IntKind.i64.wrap (o + 2 ^ ((2 : Nat) : Int).toNat) = o + 2 ^ 2 := by
      rw [show ((2 : Nat) : Int).toNat = 2 from rfl]
      simp only [Int.reducePow] at hb ⊢
      rw [wrap64 (by omega) (by omega)]
    conv => whnf
    refine ACalls.code tabOk h29 Try.func29 Try.call29 ok29 ?_
    conv => whnf
    refine Bif.of (fun h0 => ?_) fun h0 => ?_
    · conv => whnf
      refine Bif.knT ?_ fun h1 => ?_
      · with_reducible assumption
      conv => whnf
      refine Bif.knT ?_ fun h2 => ?_
      · with_reducible assumption
      conv => whnf
      refine Bif.knT ?_ fun h3 => ?_
      · with_reducible assumption
      conv => whnf
      refine Bif.of (fun h4 => ?_) fun h4 => ?_
      · conv => whnf
        refine ACalls.useE (ref_pow _ ?_) [] rfl (by (conv => whnf); try rfl) (by (conv => whnf); try rfl) ?_
        · omega
        conv => whnf
        (exact hR (3, IntKind.i64.wrap (o + 2 ^ ((2 : Nat) : Int).toNat)) _ _ _ rfl rfl ⟨(by show 3 ≤ 15; decide), (by show IntKind.i64.wrap _ = meetN d0 d1 d2 d3 d4 d5 (2 + 1); rw [ew, ho]; conv => (rhs; unfold meetN); rw [if_pos (by simp [prD, h0, h4])]; rfl)⟩ (by show 15 - 3 < 15 - 2; decide))
      · conv => whnf
        (exact hR (3, o) _ _ _ rfl rfl ⟨(by show 3 ≤ 15; decide), (by show o = meetN d0 d1 d2 d3 d4 d5 (2 + 1); rw [ho]; conv => (rhs; unfold meetN); rw [if_neg (by simp [prD, h4]), Int.add_zero])⟩ (by show 15 - 3 < 15 - 2; decide))
    · conv => whnf
      refine Bif.knF ?_ fun h5 => ?_
      · with_reducible assumption
      conv => whnf
      refine Bif.knF ?_ fun h6 => ?_
      · with_reducible assumption
      conv => whnf
      refine Bif.knF ?_ fun h7 => ?_
      · with_reducible assumption
      conv => whnf
      (exact hR (3, o) _ _ _ rfl rfl ⟨(by show 3 ≤ 15; decide), (by show o = meetN d0 d1 d2 d3 d4 d5 (2 + 1); rw [ho]; conv => (rhs; unfold meetN); rw [if_neg (by simp [prD, h0]), Int.add_zero])⟩ (by show 15 - 3 < 15 - 2; decide))
  · have ew : IntKind.i64.wrap (o + 2 ^ ((3 : Nat) : Int).toNat) = o + 2 ^ 3 := by
      rw [show ((3 : Nat) : Int).toNat = 3 from rfl]
      simp only [Int.reducePow] at hb ⊢
      rw [wrap64 (by omega) (by omega)]
    conv => whnf
    refine ACalls.code tabOk h29 Try.func29 Try.call29 ok29 ?_
    conv => whnf
    refine Bif.of (fun h0 => ?_) fun h0 => ?_
    · conv => whnf
      refine Bif.knT ?_ fun h1 => ?_
      · with_reducible assumption
      conv => whnf
      refine Bif.knT ?_ fun h2 => ?_
      · with_reducible assumption
      conv => whnf
      refine Bif.knT ?_ fun h3 => ?_
      · with_reducible assumption
      conv => whnf
      refine Bif.of (fun h4 => ?_) fun h4 => ?_
      · conv => whnf
        refine ACalls.useE (ref_pow _ ?_) [] rfl (by (conv => whnf); try rfl) (by (conv => whnf); try rfl) ?_
        · omega
        conv => whnf
        (exact hR (4, IntKind.i64.wrap (o + 2 ^ ((3 : Nat) : Int).toNat)) _ _ _ rfl rfl ⟨(by show 4 ≤ 15; decide), (by show IntKind.i64.wrap _ = meetN d0 d1 d2 d3 d4 d5 (3 + 1); rw [ew, ho]; conv => (rhs; unfold meetN); rw [if_pos (by simp [prD, h0, h4])]; rfl)⟩ (by show 15 - 4 < 15 - 3; decide))
      · conv => whnf
        (exact hR (4, o) _ _ _ rfl rfl ⟨(by show 4 ≤ 15; decide), (by show o = meetN d0 d1 d2 d3 d4 d5 (3 + 1); rw [ho]; conv => (rhs; unfold meetN); rw [if_neg (by simp [prD, h4]), Int.add_zero])⟩ (by show 15 - 4 < 15 - 3; decide))
    · conv => whnf
      refine Bif.knF ?_ fun h5 => ?_
      · with_reducible assumption
      conv => whnf
      refine Bif.knF ?_ fun h6 => ?_
      · with_reducible assumption
      conv => whnf
      refine Bif.knF ?_ fun h7 => ?_
      · with_reducible assumption
      conv => whnf
      (exact hR (4, o) _ _ _ rfl rfl ⟨(by show 4 ≤ 15; decide), (by show o = meetN d0 d1 d2 d3 d4 d5 (3 + 1); rw [ho]; conv => (rhs; unfold meetN); rw [if_neg (by simp [prD, h0]), Int.add_zero])⟩ (by show 15 - 4 < 15 - 3; decide))
  · have ew : IntKind.i64.wrap (o + 2 ^ ((4 : Nat) : Int).toNat) = o + 2 ^ 4 := by
      rw [show ((4 : Nat) : Int).toNat = 4 from rfl]
      simp only [Int.reducePow] at hb ⊢
      rw [wrap64 (by omega) (by omega)]
    conv => whnf
    refine ACalls.code tabOk h29 Try.func29 Try.call29 ok29 ?_
    conv => whnf
    refine Bif.of (fun h0 => ?_) fun h0 => ?_
    · conv => whnf
      refine Bif.knT ?_ fun h1 => ?_
      · with_reducible assumption
      conv => whnf
      refine Bif.knT ?_ fun h2 => ?_
      · with_reducible assumption
      conv => whnf
      refine Bif.knT ?_ fun h3 => ?_
      · with_reducible assumption
      conv => whnf
      refine Bif.of (fun h4 => ?_) fun h4 => ?_
      · conv => whnf
        refine ACalls.useE (ref_pow _ ?_) [] rfl (by (conv => whnf); try rfl) (by (conv => whnf); try rfl) ?_
        · omega
        conv => whnf
        (exact hR (5, IntKind.i64.wrap (o + 2 ^ ((4 : Nat) : Int).toNat)) _ _ _ rfl rfl ⟨(by show 5 ≤ 15; decide), (by show IntKind.i64.wrap _ = meetN d0 d1 d2 d3 d4 d5 (4 + 1); rw [ew, ho]; conv => (rhs; unfold meetN); rw [if_pos (by simp [prD, h0, h4])]; rfl)⟩ (by show 15 - 5 < 15 - 4; decide))
      · conv => whnf
        (exact hR (5, o) _ _ _ rfl rfl ⟨(by show 5 ≤ 15; decide), (by show o = meetN d0 d1 d2 d3 d4 d5 (4 + 1); rw [ho]; conv => (rhs; unfold meetN); rw [if_neg (by simp [prD, h4]), Int.add_zero])⟩ (by show 15 - 5 < 15 - 4; decide))
    · conv => whnf
      refine Bif.knF ?_ fun h5 => ?_
      · with_reducible assumption
      conv => whnf
      refine Bif.knF ?_ fun h6 => ?_
      · with_reducible assumption
      conv => whnf
      refine Bif.knF ?_ fun h7 => ?_
      · with_reducible assumption
      conv => whnf
      (exact hR (5, o) _ _ _ rfl rfl ⟨(by show 5 ≤ 15; decide), (by show o = meetN d0 d1 d2 d3 d4 d5 (4 + 1); rw [ho]; conv => (rhs; unfold meetN); rw [if_neg (by simp [prD, h0]), Int.add_zero])⟩ (by show 15 - 5 < 15 - 4; decide))
  · have ew : IntKind.i64.wrap (o + 2 ^ ((5 : Nat) : Int).toNat) = o + 2 ^ 5 := by
      rw [show ((5 : Nat) : Int).toNat = 5 from rfl]
      simp only [Int.reducePow] at hb ⊢
      rw [wrap64 (by omega) (by omega)]
    conv => whnf
    refine ACalls.code tabOk h29 Try.func29 Try.call29 ok29 ?_
    conv => whnf
    refine Bif.of (fun h0 => ?_) fun h0 => ?_
    · conv => whnf
      refine Bif.knT ?_ fun h1 => ?_
      · with_reducible assumption
      conv => whnf
      refine Bif.knT ?_ fun h2 => ?_
      · with_reducible assumption
      conv => whnf
      refine Bif.knT ?_ fun h3 => ?_
      · with_reducible assumption
      conv => whnf
      refine Bif.of (fun h4 => ?_) fun h4 => ?_
      · conv => whnf
        refine ACalls.useE (ref_pow _ ?_) [] rfl (by (conv => whnf); try rfl) (by (conv => whnf); try rfl) ?_
        · omega
        conv => whnf
        (exact hR (6, IntKind.i64.wrap (o + 2 ^ ((5 : Nat) : Int).toNat)) _ _ _ rfl rfl ⟨(by show 6 ≤ 15; decide), (by show IntKind.i64.wrap _ = meetN d0 d1 d2 d3 d4 d5 (5 + 1); rw [ew, ho]; conv => (rhs; unfold meetN); rw [if_pos (by simp [prD, h0, h4])]; rfl)⟩ (by show 15 - 6 < 15 - 5; decide))
      · conv => whnf
        (exact hR (6, o) _ _ _ rfl rfl ⟨(by show 6 ≤ 15; decide), (by show o = meetN d0 d1 d2 d3 d4 d5 (5 + 1); rw [ho]; conv => (rhs; unfold meetN); rw [if_neg (by simp [prD, h4]), Int.add_zero])⟩ (by show 15 - 6 < 15 - 5; decide))
    · conv => whnf
      refine Bif.knF ?_ fun h5 => ?_
      · with_reducible assumption
      conv => whnf
      refine Bif.knF ?_ fun h6 => ?_
      · with_reducible assumption
      conv => whnf
      refine Bif.knF ?_ fun h7 => ?_
      · with_reducible assumption
      conv => whnf
      (exact hR (6, o) _ _ _ rfl rfl ⟨(by show 6 ≤ 15; decide), (by show o = meetN d0 d1 d2 d3 d4 d5 (5 + 1); rw [ho]; conv => (rhs; unfold meetN); rw [if_neg (by simp [prD, h0]), Int.add_zero])⟩ (by show 15 - 6 < 15 - 5; decide))
  · have ew : IntKind.i64.wrap (o + 2 ^ ((6 : Nat) : Int).toNat) = o + 2 ^ 6 := by
      rw [show ((6 : Nat) : Int).toNat = 6 from rfl]
      simp only [Int.reducePow] at hb ⊢
      rw [wrap64 (by omega) (by omega)]
    conv => whnf
    refine ACalls.code tabOk h29 Try.func29 Try.call29 ok29 ?_
    conv => whnf
    refine Bif.of (fun h0 => ?_) fun h0 => ?_
    · conv => whnf
      refine Bif.knT ?_ fun h1 => ?_
      · with_reducible assumption
      conv => whnf
      refine Bif.knT ?_ fun h2 => ?_
      · with_reducible assumption
      conv => whnf
      refine Bif.knT ?_ fun h3 => ?_
      · with_reducible assumption
      conv => whnf
      refine Bif.of (fun h4 => ?_) fun h4 => ?_
      · conv => whnf
        refine ACalls.useE (ref_pow _ ?_) [] rfl (by (conv => whnf); try rfl) (by (conv => whnf); try rfl) ?_
        · omega
        conv => whnf
        (exact hR (7, IntKind.i64.wrap (o + 2 ^ ((6 : Nat) : Int).toNat)) _ _ _ rfl rfl ⟨(by show 7 ≤ 15; decide), (by show IntKind.i64.wrap _ = meetN d0 d1 d2 d3 d4 d5 (6 + 1); rw [ew, ho]; conv => (rhs; unfold meetN); rw [if_pos (by simp [prD, h0, h4])]; rfl)⟩ (by show 15 - 7 < 15 - 6; decide))
      · conv => whnf
        (exact hR (7, o) _ _ _ rfl rfl ⟨(by show 7 ≤ 15; decide), (by show o = meetN d0 d1 d2 d3 d4 d5 (6 + 1); rw [ho]; conv => (rhs; unfold meetN); rw [if_neg (by simp [prD, h4]), Int.add_zero])⟩ (by show 15 - 7 < 15 - 6; decide))
    · conv => whnf
      refine Bif.knF ?_ fun h5 => ?_
      · with_reducible assumption
      conv => whnf
      refine Bif.knF ?_ fun h6 => ?_
      · with_reducible assumption
      conv => whnf
      refine Bif.knF ?_ fun h7 => ?_
      · with_reducible assumption
      conv => whnf
      (exact hR (7, o) _ _ _ rfl rfl ⟨(by show 7 ≤ 15; decide), (by show o = meetN d0 d1 d2 d3 d4 d5 (6 + 1); rw [ho]; conv => (rhs; unfold meetN); rw [if_neg (by simp [prD, h0]), Int.add_zero])⟩ (by show 15 - 7 < 15 - 6; decide))
  · have ew : IntKind.i64.wrap (o + 2 ^ ((7 : Nat) : Int).toNat) = o + 2 ^ 7 := by
      rw [show ((7 : Nat) : Int).toNat = 7 from rfl]
      simp only [Int.reducePow] at hb ⊢
      rw [wrap64 (by omega) (by omega)]
    conv => whnf
    refine ACalls.code tabOk h29 Try.func29 Try.call29 ok29 ?_
    conv => whnf
    refine Bif.of (fun h0 => ?_) fun h0 => ?_
    · conv => whnf
      refine Bif.knT ?_ fun h1 => ?_
      · with_reducible assumption
      conv => whnf
      refine Bif.knT ?_ fun h2 => ?_
      · with_reducible assumption
      conv => whnf
      refine Bif.knT ?_ fun h3 => ?_
      · with_reducible assumption
      conv => whnf
      refine Bif.of (fun h4 => ?_) fun h4 => ?_
      · conv => whnf
        refine ACalls.useE (ref_pow _ ?_) [] rfl (by (conv => whnf); try rfl) (by (conv => whnf); try rfl) ?_
        · omega
        conv => whnf
        (exact hR (8, IntKind.i64.wrap (o + 2 ^ ((7 : Nat) : Int).toNat)) _ _ _ rfl rfl ⟨(by show 8 ≤ 15; decide), (by show IntKind.i64.wrap _ = meetN d0 d1 d2 d3 d4 d5 (7 + 1); rw [ew, ho]; conv => (rhs; unfold meetN); rw [if_pos (by simp [prD, h0, h4])]; rfl)⟩ (by show 15 - 8 < 15 - 7; decide))
      · conv => whnf
        (exact hR (8, o) _ _ _ rfl rfl ⟨(by show 8 ≤ 15; decide), (by show o = meetN d0 d1 d2 d3 d4 d5 (7 + 1); rw [ho]; conv => (rhs; unfold meetN); rw [if_neg (by simp [prD, h4]), Int.add_zero])⟩ (by show 15 - 8 < 15 - 7; decide))
    · conv => whnf
      refine Bif.knF ?_ fun h5 => ?_
      · with_reducible assumption
      conv => whnf
      refine Bif.knF ?_ fun h6 => ?_
      · with_reducible assumption
      conv => whnf
      refine Bif.knF ?_ fun h7 => ?_
      · with_reducible assumption
      conv => whnf
      (exact hR (8, o) _ _ _ rfl rfl ⟨(by show 8 ≤ 15; decide), (by show o = meetN d0 d1 d2 d3 d4 d5 (7 + 1); rw [ho]; conv => (rhs; unfold meetN); rw [if_neg (by simp [prD, h0]), Int.add_zero])⟩ (by show 15 - 8 < 15 - 7; decide))
  · have ew : IntKind.i64.wrap (o + 2 ^ ((8 : Nat) : Int).toNat) = o + 2 ^ 8 := by
      rw [show ((8 : Nat) : Int).toNat = 8 from rfl]
      simp only [Int.reducePow] at hb ⊢
      rw [wrap64 (by omega) (by omega)]
    conv => whnf
    refine ACalls.code tabOk h29 Try.func29 Try.call29 ok29 ?_
    conv => whnf
    refine Bif.of (fun h0 => ?_) fun h0 => ?_
    · conv => whnf
      refine Bif.knT ?_ fun h1 => ?_
      · with_reducible assumption
      conv => whnf
      refine Bif.knT ?_ fun h2 => ?_
      · with_reducible assumption
      conv => whnf
      refine Bif.knT ?_ fun h3 => ?_
      · with_reducible assumption
      conv => whnf
      refine Bif.of (fun h4 => ?_) fun h4 => ?_
      · conv => whnf
        refine ACalls.useE (ref_pow _ ?_) [] rfl (by (conv => whnf); try rfl) (by (conv => whnf); try rfl) ?_
        · omega
        conv => whnf
        (exact hR (9, IntKind.i64.wrap (o + 2 ^ ((8 : Nat) : Int).toNat)) _ _ _ rfl rfl ⟨(by show 9 ≤ 15; decide), (by show IntKind.i64.wrap _ = meetN d0 d1 d2 d3 d4 d5 (8 + 1); rw [ew, ho]; conv => (rhs; unfold meetN); rw [if_pos (by simp [prD, h0, h4])]; rfl)⟩ (by show 15 - 9 < 15 - 8; decide))
      · conv => whnf
        (exact hR (9, o) _ _ _ rfl rfl ⟨(by show 9 ≤ 15; decide), (by show o = meetN d0 d1 d2 d3 d4 d5 (8 + 1); rw [ho]; conv => (rhs; unfold meetN); rw [if_neg (by simp [prD, h4]), Int.add_zero])⟩ (by show 15 - 9 < 15 - 8; decide))
    · conv => whnf
      refine Bif.knF ?_ fun h5 => ?_
      · with_reducible assumption
      conv => whnf
      refine Bif.knF ?_ fun h6 => ?_
      · with_reducible assumption
      conv => whnf
      refine Bif.knF ?_ fun h7 => ?_
      · with_reducible assumption
      conv => whnf
      (exact hR (9, o) _ _ _ rfl rfl ⟨(by show 9 ≤ 15; decide), (by show o = meetN d0 d1 d2 d3 d4 d5 (8 + 1); rw [ho]; conv => (rhs; unfold meetN); rw [if_neg (by simp [prD, h0]), Int.add_zero])⟩ (by show 15 - 9 < 15 - 8; decide))
  · have ew : IntKind.i64.wrap (o + 2 ^ ((9 : Nat) : Int).toNat) = o + 2 ^ 9 := by
      rw [show ((9 : Nat) : Int).toNat = 9 from rfl]
      simp only [Int.reducePow] at hb ⊢
      rw [wrap64 (by omega) (by omega)]
    conv => whnf
    refine ACalls.code tabOk h29 Try.func29 Try.call29 ok29 ?_
    conv => whnf
    refine Bif.of (fun h0 => ?_) fun h0 => ?_
    · conv => whnf
      refine Bif.knT ?_ fun h1 => ?_
      · with_reducible assumption
      conv => whnf
      refine Bif.knT ?_ fun h2 => ?_
      · with_reducible assumption
      conv => whnf
      refine Bif.knT ?_ fun h3 => ?_
      · with_reducible assumption
      conv => whnf
      refine Bif.of (fun h4 => ?_) fun h4 => ?_
      · conv => whnf
        refine ACalls.useE (ref_pow _ ?_) [] rfl (by (conv => whnf); try rfl) (by (conv => whnf); try rfl) ?_
        · omega
        conv => whnf
        (exact hR (10, IntKind.i64.wrap (o + 2 ^ ((9 : Nat) : Int).toNat)) _ _ _ rfl rfl ⟨(by show 10 ≤ 15; decide), (by show IntKind.i64.wrap _ = meetN d0 d1 d2 d3 d4 d5 (9 + 1); rw [ew, ho]; conv => (rhs; unfold meetN); rw [if_pos (by simp [prD, h0, h4])]; rfl)⟩ (by show 15 - 10 < 15 - 9; decide))
      · conv => whnf
        (exact hR (10, o) _ _ _ rfl rfl ⟨(by show 10 ≤ 15; decide), (by show o = meetN d0 d1 d2 d3 d4 d5 (9 + 1); rw [ho]; conv => (rhs; unfold meetN); rw [if_neg (by simp [prD, h4]), Int.add_zero])⟩ (by show 15 - 10 < 15 - 9; decide))
    · conv => whnf
      refine Bif.knF ?_ fun h5 => ?_
      · with_reducible assumption
      conv => whnf
      refine Bif.knF ?_ fun h6 => ?_
      · with_reducible assumption
      conv => whnf
      refine Bif.knF ?_ fun h7 => ?_
      · with_reducible assumption
      conv => whnf
      (exact hR (10, o) _ _ _ rfl rfl ⟨(by show 10 ≤ 15; decide), (by show o = meetN d0 d1 d2 d3 d4 d5 (9 + 1); rw [ho]; conv => (rhs; unfold meetN); rw [if_neg (by simp [prD, h0]), Int.add_zero])⟩ (by show 15 - 10 < 15 - 9; decide))
  · have ew : IntKind.i64.wrap (o + 2 ^ ((10 : Nat) : Int).toNat) = o + 2 ^ 10 := by
      rw [show ((10 : Nat) : Int).toNat = 10 from rfl]
      simp only [Int.reducePow] at hb ⊢
      rw [wrap64 (by omega) (by omega)]
    conv => whnf
    refine ACalls.code tabOk h29 Try.func29 Try.call29 ok29 ?_
    conv => whnf
    refine Bif.of (fun h0 => ?_) fun h0 => ?_
    · conv => whnf
      refine Bif.knT ?_ fun h1 => ?_
      · with_reducible assumption
      conv => whnf
      refine Bif.knT ?_ fun h2 => ?_
      · with_reducible assumption
      conv => whnf
      refine Bif.knT ?_ fun h3 => ?_
      · with_reducible assumption
      conv => whnf
      refine Bif.of (fun h4 => ?_) fun h4 => ?_
      · conv => whnf
        refine ACalls.useE (ref_pow _ ?_) [] rfl (by (conv => whnf); try rfl) (by (conv => whnf); try rfl) ?_
        · omega
        conv => whnf
        (exact hR (11, IntKind.i64.wrap (o + 2 ^ ((10 : Nat) : Int).toNat)) _ _ _ rfl rfl ⟨(by show 11 ≤ 15; decide), (by show IntKind.i64.wrap _ = meetN d0 d1 d2 d3 d4 d5 (10 + 1); rw [ew, ho]; conv => (rhs; unfold meetN); rw [if_pos (by simp [prD, h0, h4])]; rfl)⟩ (by show 15 - 11 < 15 - 10; decide))
      · conv => whnf
        (exact hR (11, o) _ _ _ rfl rfl ⟨(by show 11 ≤ 15; decide), (by show o = meetN d0 d1 d2 d3 d4 d5 (10 + 1); rw [ho]; conv => (rhs; unfold meetN); rw [if_neg (by simp [prD, h4]), Int.add_zero])⟩ (by show 15 - 11 < 15 - 10; decide))
    · conv => whnf
      refine Bif.knF ?_ fun h5 => ?_
      · with_reducible assumption
      conv => whnf
      refine Bif.knF ?_ fun h6 => ?_
      · with_reducible assumption
      conv => whnf
      refine Bif.knF ?_ fun h7 => ?_
      · with_reducible assumption
      conv => whnf
      (exact hR (11, o) _ _ _ rfl rfl ⟨(by show 11 ≤ 15; decide), (by show o = meetN d0 d1 d2 d3 d4 d5 (10 + 1); rw [ho]; conv => (rhs; unfold meetN); rw [if_neg (by simp [prD, h0]), Int.add_zero])⟩ (by show 15 - 11 < 15 - 10; decide))
  · have ew : IntKind.i64.wrap (o + 2 ^ ((11 : Nat) : Int).toNat) = o + 2 ^ 11 := by
      rw [show ((11 : Nat) : Int).toNat = 11 from rfl]
      simp only [Int.reducePow] at hb ⊢
      rw [wrap64 (by omega) (by omega)]
    conv => whnf
    refine ACalls.code tabOk h29 Try.func29 Try.call29 ok29 ?_
    conv => whnf
    refine Bif.of (fun h0 => ?_) fun h0 => ?_
    · conv => whnf
      refine Bif.knT ?_ fun h1 => ?_
      · with_reducible assumption
      conv => whnf
      refine Bif.knT ?_ fun h2 => ?_
      · with_reducible assumption
      conv => whnf
      refine Bif.knT ?_ fun h3 => ?_
      · with_reducible assumption
      conv => whnf
      refine Bif.of (fun h4 => ?_) fun h4 => ?_
      · conv => whnf
        refine ACalls.useE (ref_pow _ ?_) [] rfl (by (conv => whnf); try rfl) (by (conv => whnf); try rfl) ?_
        · omega
        conv => whnf
        (exact hR (12, IntKind.i64.wrap (o + 2 ^ ((11 : Nat) : Int).toNat)) _ _ _ rfl rfl ⟨(by show 12 ≤ 15; decide), (by show IntKind.i64.wrap _ = meetN d0 d1 d2 d3 d4 d5 (11 + 1); rw [ew, ho]; conv => (rhs; unfold meetN); rw [if_pos (by simp [prD, h0, h4])]; rfl)⟩ (by show 15 - 12 < 15 - 11; decide))
      · conv => whnf
        (exact hR (12, o) _ _ _ rfl rfl ⟨(by show 12 ≤ 15; decide), (by show o = meetN d0 d1 d2 d3 d4 d5 (11 + 1); rw [ho]; conv => (rhs; unfold meetN); rw [if_neg (by simp [prD, h4]), Int.add_zero])⟩ (by show 15 - 12 < 15 - 11; decide))
    · conv => whnf
      refine Bif.knF ?_ fun h5 => ?_
      · with_reducible assumption
      conv => whnf
      refine Bif.knF ?_ fun h6 => ?_
      · with_reducible assumption
      conv => whnf
      refine Bif.knF ?_ fun h7 => ?_
      · with_reducible assumption
      conv => whnf
      (exact hR (12, o) _ _ _ rfl rfl ⟨(by show 12 ≤ 15; decide), (by show o = meetN d0 d1 d2 d3 d4 d5 (11 + 1); rw [ho]; conv => (rhs; unfold meetN); rw [if_neg (by simp [prD, h0]), Int.add_zero])⟩ (by show 15 - 12 < 15 - 11; decide))
  · have ew : IntKind.i64.wrap (o + 2 ^ ((12 : Nat) : Int).toNat) = o + 2 ^ 12 := by
      rw [show ((12 : Nat) : Int).toNat = 12 from rfl]
      simp only [Int.reducePow] at hb ⊢
      rw [wrap64 (by omega) (by omega)]
    conv => whnf
    refine ACalls.code tabOk h29 Try.func29 Try.call29 ok29 ?_
    conv => whnf
    refine Bif.of (fun h0 => ?_) fun h0 => ?_
    · conv => whnf
      refine Bif.knT ?_ fun h1 => ?_
      · with_reducible assumption
      conv => whnf
      refine Bif.knT ?_ fun h2 => ?_
      · with_reducible assumption
      conv => whnf
      refine Bif.knT ?_ fun h3 => ?_
      · with_reducible assumption
      conv => whnf
      refine Bif.of (fun h4 => ?_) fun h4 => ?_
      · conv => whnf
        refine ACalls.useE (ref_pow _ ?_) [] rfl (by (conv => whnf); try rfl) (by (conv => whnf); try rfl) ?_
        · omega
        conv => whnf
        (exact hR (13, IntKind.i64.wrap (o + 2 ^ ((12 : Nat) : Int).toNat)) _ _ _ rfl rfl ⟨(by show 13 ≤ 15; decide), (by show IntKind.i64.wrap _ = meetN d0 d1 d2 d3 d4 d5 (12 + 1); rw [ew, ho]; conv => (rhs; unfold meetN); rw [if_pos (by simp [prD, h0, h4])]; rfl)⟩ (by show 15 - 13 < 15 - 12; decide))
      · conv => whnf
        (exact hR (13, o) _ _ _ rfl rfl ⟨(by show 13 ≤ 15; decide), (by show o = meetN d0 d1 d2 d3 d4 d5 (12 + 1); rw [ho]; conv => (rhs; unfold meetN); rw [if_neg (by simp [prD, h4]), Int.add_zero])⟩ (by show 15 - 13 < 15 - 12; decide))
    · conv => whnf
      refine Bif.knF ?_ fun h5 => ?_
      · with_reducible assumption
      conv => whnf
      refine Bif.knF ?_ fun h6 => ?_
      · with_reducible assumption
      conv => whnf
      refine Bif.knF ?_ fun h7 => ?_
      · with_reducible assumption
      conv => whnf
      (exact hR (13, o) _ _ _ rfl rfl ⟨(by show 13 ≤ 15; decide), (by show o = meetN d0 d1 d2 d3 d4 d5 (12 + 1); rw [ho]; conv => (rhs; unfold meetN); rw [if_neg (by simp [prD, h0]), Int.add_zero])⟩ (by show 15 - 13 < 15 - 12; decide))
  · have ew : IntKind.i64.wrap (o + 2 ^ ((13 : Nat) : Int).toNat) = o + 2 ^ 13 := by
      rw [show ((13 : Nat) : Int).toNat = 13 from rfl]
      simp only [Int.reducePow] at hb ⊢
      rw [wrap64 (by omega) (by omega)]
    conv => whnf
    refine ACalls.code tabOk h29 Try.func29 Try.call29 ok29 ?_
    conv => whnf
    refine Bif.of (fun h0 => ?_) fun h0 => ?_
    · conv => whnf
      refine Bif.knT ?_ fun h1 => ?_
      · with_reducible assumption
      conv => whnf
      refine Bif.knT ?_ fun h2 => ?_
      · with_reducible assumption
      conv => whnf
      refine Bif.knT ?_ fun h3 => ?_
      · with_reducible assumption
      conv => whnf
      refine Bif.of (fun h4 => ?_) fun h4 => ?_
      · conv => whnf
        refine ACalls.useE (ref_pow _ ?_) [] rfl (by (conv => whnf); try rfl) (by (conv => whnf); try rfl) ?_
        · omega
        conv => whnf
        (exact hR (14, IntKind.i64.wrap (o + 2 ^ ((13 : Nat) : Int).toNat)) _ _ _ rfl rfl ⟨(by show 14 ≤ 15; decide), (by show IntKind.i64.wrap _ = meetN d0 d1 d2 d3 d4 d5 (13 + 1); rw [ew, ho]; conv => (rhs; unfold meetN); rw [if_pos (by simp [prD, h0, h4])]; rfl)⟩ (by show 15 - 14 < 15 - 13; decide))
      · conv => whnf
        (exact hR (14, o) _ _ _ rfl rfl ⟨(by show 14 ≤ 15; decide), (by show o = meetN d0 d1 d2 d3 d4 d5 (13 + 1); rw [ho]; conv => (rhs; unfold meetN); rw [if_neg (by simp [prD, h4]), Int.add_zero])⟩ (by show 15 - 14 < 15 - 13; decide))
    · conv => whnf
      refine Bif.knF ?_ fun h5 => ?_
      · with_reducible assumption
      conv => whnf
      refine Bif.knF ?_ fun h6 => ?_
      · with_reducible assumption
      conv => whnf
      refine Bif.knF ?_ fun h7 => ?_
      · with_reducible assumption
      conv => whnf
      (exact hR (14, o) _ _ _ rfl rfl ⟨(by show 14 ≤ 15; decide), (by show o = meetN d0 d1 d2 d3 d4 d5 (13 + 1); rw [ho]; conv => (rhs; unfold meetN); rw [if_neg (by simp [prD, h0]), Int.add_zero])⟩ (by show 15 - 14 < 15 - 13; decide))
  · have ew : IntKind.i64.wrap (o + 2 ^ ((14 : Nat) : Int).toNat) = o + 2 ^ 14 := by
      rw [show ((14 : Nat) : Int).toNat = 14 from rfl]
      simp only [Int.reducePow] at hb ⊢
      rw [wrap64 (by omega) (by omega)]
    conv => whnf
    refine ACalls.code tabOk h29 Try.func29 Try.call29 ok29 ?_
    conv => whnf
    refine Bif.of (fun h0 => ?_) fun h0 => ?_
    · conv => whnf
      refine Bif.knT ?_ fun h1 => ?_
      · with_reducible assumption
      conv => whnf
      refine Bif.knT ?_ fun h2 => ?_
      · with_reducible assumption
      conv => whnf
      refine Bif.knT ?_ fun h3 => ?_
      · with_reducible assumption
      conv => whnf
      refine Bif.of (fun h4 => ?_) fun h4 => ?_
      · conv => whnf
        refine ACalls.useE (ref_pow _ ?_) [] rfl (by (conv => whnf); try rfl) (by (conv => whnf); try rfl) ?_
        · omega
        conv => whnf
        (exact hR (15, IntKind.i64.wrap (o + 2 ^ ((14 : Nat) : Int).toNat)) _ _ _ rfl rfl ⟨(by show 15 ≤ 15; decide), (by show IntKind.i64.wrap _ = meetN d0 d1 d2 d3 d4 d5 (14 + 1); rw [ew, ho]; conv => (rhs; unfold meetN); rw [if_pos (by simp [prD, h0, h4])]; rfl)⟩ (by show 15 - 15 < 15 - 14; decide))
      · conv => whnf
        (exact hR (15, o) _ _ _ rfl rfl ⟨(by show 15 ≤ 15; decide), (by show o = meetN d0 d1 d2 d3 d4 d5 (14 + 1); rw [ho]; conv => (rhs; unfold meetN); rw [if_neg (by simp [prD, h4]), Int.add_zero])⟩ (by show 15 - 15 < 15 - 14; decide))
    · conv => whnf
      refine Bif.knF ?_ fun h5 => ?_
      · with_reducible assumption
      conv => whnf
      refine Bif.knF ?_ fun h6 => ?_
      · with_reducible assumption
      conv => whnf
      refine Bif.knF ?_ fun h7 => ?_
      · with_reducible assumption
      conv => whnf
      (exact hR (15, o) _ _ _ rfl rfl ⟨(by show 15 ≤ 15; decide), (by show o = meetN d0 d1 d2 d3 d4 d5 (14 + 1); rw [ho]; conv => (rhs; unfold meetN); rw [if_neg (by simp [prD, h0]), Int.add_zero])⟩ (by show 15 - 15 < 15 - 14; decide))
  · conv => whnf
    clear hR
    (rw [← ho]; exact ⟨rfl, rfl⟩)

theorem awake18 : ACalls Try.prog 12 [] [] fun v H => v = .bool true ∧ H = [] := by
  have r0 : revI 0 = 0 := by unfold revI; rfl
  have a1 : litI 16 0 0 0 3 = true := by unfold litI rowI; rw [r0]; decide
  have a2 : litI 16 0 0 0 4 = false := by unfold litI rowI; rw [r0]; decide
  have a3 : litI 16 0 0 0 80 = true := by unfold litI rowI; rw [r0]; decide
  have a4 : litI 16 0 0 1 80 = false := by unfold litI rowI; rw [r0]; decide
  have a5 : litI 16 0 0 1 159 = true := by unfold litI rowI; rw [r0]; decide
  refine ACalls.code tabOk h12 Try.func12 Try.call12 ok12 ?_
  conv => whnf
  refine ACalls.useE (field_lit _ _ _ _ _ ?_ ?_ ?_) [] rfl (by (conv => whnf); try rfl) (by (conv => whnf); try rfl) ?_
  · decide
  · decide
  · decide
  conv => whnf
  rw [a1]
  conv => whnf
  refine ACalls.useE (field_lit _ _ _ _ _ ?_ ?_ ?_) [] rfl (by (conv => whnf); try rfl) (by (conv => whnf); try rfl) ?_
  · decide
  · decide
  · decide
  conv => whnf
  rw [a2]
  conv => whnf
  refine ACalls.useE (field_lit _ _ _ _ _ ?_ ?_ ?_) [] rfl (by (conv => whnf); try rfl) (by (conv => whnf); try rfl) ?_
  · decide
  · decide
  · decide
  conv => whnf
  rw [a3]
  conv => whnf
  refine ACalls.useE (field_lit _ _ _ _ _ ?_ ?_ ?_) [] rfl (by (conv => whnf); try rfl) (by (conv => whnf); try rfl) ?_
  · decide
  · decide
  · decide
  conv => whnf
  rw [a4]
  conv => whnf
  refine ACalls.useE (field_lit _ _ _ _ _ ?_ ?_ ?_) [] rfl (by (conv => whnf); try rfl) (by (conv => whnf); try rfl) ?_
  · decide
  · decide
  · decide
  conv => whnf
  rw [a5]
  conv => whnf
  refine ACalls.useE (field_seen _ _ _ _ _ _ _ _ ?_) [] rfl (by (conv => whnf); try rfl) (by (conv => whnf); try rfl) ?_
  · decide
  conv => whnf
  refine ACalls.useE (field_seen _ _ _ _ _ _ _ _ ?_) [] rfl (by (conv => whnf); try rfl) (by (conv => whnf); try rfl) ?_
  · decide
  conv => whnf
  refine ACalls.useE (field_meet _ _ _ _ _ _) [] rfl (by (conv => whnf); try rfl) (by (conv => whnf); try rfl) ?_
  conv => whnf
  refine ACalls.useE (field_seen _ _ _ _ _ _ _ _ ?_) [] rfl (by (conv => whnf); try rfl) (by (conv => whnf); try rfl) ?_
  · decide
  conv => whnf
  exact ⟨rfl, rfl⟩
theorem walk_FieldLits (p0 p1 p2 c x : Int) (w0 : (Lit.int .u8 p0).wf = true) (w1 : (Lit.int .u8 p1).wf = true) (w2 : (Lit.int .u8 p2).wf = true) (wc : (Lit.int .u8 c).wf = true) (wx : (Lit.int .i64 x).wf = true) : ACalls Try.prog 3 [.agg #[.int .u8 p0, .int .u8 p1, .int .u8 p2], .int .u8 c, .int .i64 x] [] fun v _ => v = .bool true := by
  have h0 := wf_u8 w0
  have h1 := wf_u8 w1
  have h2 := wf_u8 w2
  have hc := wf_u8 wc
  have ec : IntKind.i64.wrap c = c := wrap64 (by omega) (by omega)
  refine ACalls.code tabOk h3 Try.func3 Try.call3 ok3 ?_
  conv => whnf
  refine ACalls.useE (field_lit _ _ _ _ _ ?_ ?_ ?_) [] rfl (by (conv => whnf); try rfl) (by (conv => whnf); try rfl) ?_
  · omega
  · omega
  · omega
  conv => whnf
  rw [ec]
  conv => whnf
  refine ⟨rfl, ?_⟩
  conv => whnf
  refine ACalls.useE (ref_lit _ _ _ _ _ ?_ ?_ ?_ ?_) [] rfl (by (conv => whnf); try rfl) (by (conv => whnf); try rfl) ?_
  · omega
  · omega
  · omega
  · omega
  conv => whnf
  refine Bif.knT ?_ fun h0 => ?_
  · exact beq_self_eq_true _
  rw [h0]
  conv => whnf
  refine ACalls.useE (awake18) [] rfl (by (conv => whnf); try rfl) (by (conv => whnf); try rfl) ?_
  conv => whnf
end Go.Proofs
