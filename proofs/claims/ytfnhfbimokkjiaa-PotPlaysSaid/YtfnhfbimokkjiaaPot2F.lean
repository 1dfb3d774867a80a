/-
  Walks through the functions of the program, by contract.
-/
import Derived.Test.YtfnhfbimokkjiaaPotF
import Derived.Test.YtfnhfbimokkjiaaPot1F
set_option linter.all false
set_option linter.unusedVariables false
set_option linter.unusedSimpArgs false
set_option linter.unnecessarySimpa false
namespace Go.Proofs
open Go.Aw
set_option maxRecDepth 100000
set_option maxHeartbeats 8000000

theorem pot_new : ACalls Try.prog 7 [] [] fun r H => r = .pointer (some ⟨0, 0, none⟩) ∧ H = [PS.blk ⟨0, 0, 0, 0, 0, false, true, true, true, true, false⟩] := by
  refine ACalls.codeN tabOk h7 Try.func7 Try.call7 ok7 [1] ?_
  conv => whnf
  exact ⟨rfl, rfl⟩
def one2 (b : Bool) : Int := if b then 1 else 0
def PS.ref (s : PS) : Value := .agg #[.int .i64 s.v0, .int .i64 s.v1, .int .i64 s.v2, .int .i64 s.v3, .int .i64 s.ch, .bool s.du, .bool s.h0, .bool s.h1, .bool s.la, .bool s.l0, .bool s.l1]
def PS.words (s : PS) : Value := .agg #[.int .i64 s.v0, .int .i64 s.v1, .int .i64 s.v2, .int .i64 s.v3, .int .i64 s.ch, .int .i64 (one2 s.du), .int .i64 (one2 s.h0), .int .i64 (one2 s.h1), .int .i64 (one2 s.la), .int .i64 (one2 s.l0), .int .i64 (one2 s.l1)]
def PS.of (w0 w1 w2 w3 w4 w5 w6 w7 w8 w9 w10 : Int) : PS := ⟨w0, w1, w2, w3, w4, w5 == 1, w6 == 1, w9 == 1, w7 == 1, w10 == 1, w8 == 1⟩
def okP (w0 w1 w2 w3 w4 w5 w6 w7 w8 w9 w10 : Int) : Bool := decide ((0 ≤ w0 ∧ w0 ≤ 255) ∧ (0 ≤ w1 ∧ w1 ≤ 255) ∧ (0 ≤ w2 ∧ w2 ≤ 255) ∧ (0 ≤ w3 ∧ w3 ≤ 255) ∧ (0 ≤ w4 ∧ w4 ≤ 511) ∧ (0 ≤ w5 ∧ w5 ≤ 1) ∧ (0 ≤ w6 ∧ w6 ≤ 1) ∧ (0 ≤ w7 ∧ w7 ≤ 1) ∧ (0 ≤ w8 ∧ w8 ≤ 1) ∧ (0 ≤ w9 ∧ w9 ≤ 1) ∧ (0 ≤ w10 ∧ w10 ≤ 1) ∧ (w5 = 0 ∨ w4 = 0) ∧ (w8 = 0 → w9 = 1 ∧ w10 = 1) ∧ (w8 = 1 → w6 = 0 → w9 = 0) ∧ (w8 = 1 → w7 = 0 → w10 = 0))
theorem okP_iff (w0 w1 w2 w3 w4 w5 w6 w7 w8 w9 w10 : Int) : okP w0 w1 w2 w3 w4 w5 w6 w7 w8 w9 w10 = true ↔ ((0 ≤ w0 ∧ w0 ≤ 255) ∧ (0 ≤ w1 ∧ w1 ≤ 255) ∧ (0 ≤ w2 ∧ w2 ≤ 255) ∧ (0 ≤ w3 ∧ w3 ≤ 255) ∧ (0 ≤ w4 ∧ w4 ≤ 511) ∧ (0 ≤ w5 ∧ w5 ≤ 1) ∧ (0 ≤ w6 ∧ w6 ≤ 1) ∧ (0 ≤ w7 ∧ w7 ≤ 1) ∧ (0 ≤ w8 ∧ w8 ≤ 1) ∧ (0 ≤ w9 ∧ w9 ≤ 1) ∧ (0 ≤ w10 ∧ w10 ≤ 1) ∧ (w5 = 0 ∨ w4 = 0) ∧ (w8 = 0 → w9 = 1 ∧ w10 = 1) ∧ (w8 = 1 → w6 = 0 → w9 = 0) ∧ (w8 = 1 → w7 = 0 → w10 = 0)) := decide_eq_true_iff
theorem okP_not {w0 w1 w2 w3 w4 w5 w6 w7 w8 w9 w10 : Int} (h : okP w0 w1 w2 w3 w4 w5 w6 w7 w8 w9 w10 = false) : ¬ ((0 ≤ w0 ∧ w0 ≤ 255) ∧ (0 ≤ w1 ∧ w1 ≤ 255) ∧ (0 ≤ w2 ∧ w2 ≤ 255) ∧ (0 ≤ w3 ∧ w3 ≤ 255) ∧ (0 ≤ w4 ∧ w4 ≤ 511) ∧ (0 ≤ w5 ∧ w5 ≤ 1) ∧ (0 ≤ w6 ∧ w6 ≤ 1) ∧ (0 ≤ w7 ∧ w7 ≤ 1) ∧ (0 ≤ w8 ∧ w8 ≤ 1) ∧ (0 ≤ w9 ∧ w9 ≤ 1) ∧ (0 ≤ w10 ∧ w10 ≤ 1) ∧ (w5 = 0 ∨ w4 = 0) ∧ (w8 = 0 → w9 = 1 ∧ w10 = 1) ∧ (w8 = 1 → w6 = 0 → w9 = 0) ∧ (w8 = 1 → w7 = 0 → w10 = 0)) := of_decide_eq_false h

theorem ref20_new : ACalls Try.prog 14 [] [] fun r H => r = PS.ref ⟨0, 0, 0, 0, 0, false, true, true, true, true, false⟩ ∧ H = [] := by
  refine ACalls.code tabOk h14 Try.func14 Try.call14 ok14 ?_
  conv => whnf
  exact ⟨rfl, rfl⟩
theorem ref20_line (v0 v1 v2 v3 ch : Int) (du h0 l0 h1 l1 la : Bool) (hc : 0 ≤ ch ∧ ch ≤ 511) : ACalls Try.prog 16 [.agg #[.int .i64 v0, .int .i64 v1, .int .i64 v2, .int .i64 v3, .int .i64 ch, .bool du, .bool h0, .bool h1, .bool la, .bool l0, .bool l1]] [] fun r H => r = (PS.line ⟨v0, v1, v2, v3, ch, du, h0, l0, h1, l1, la⟩).ref ∧ H = [] := by
  have ew : IntKind.i64.wrap (ch + 1) = ch + 1 := wrap64 (by omega) (by omega)
  cases du with
  | true =>
    refine ACalls.code tabOk h16 Try.func16 Try.call16 ok16 ?_
    conv => whnf
    exact ⟨rfl, rfl⟩
  | false =>
    by_cases h5 : ch < 511
    · have e : PS.line ⟨v0, v1, v2, v3, ch, false, h0, l0, h1, l1, la⟩ = ⟨v0, v1, v2, v3, ch + 1, false, h0, l0, h1, l1, la⟩ := by unfold PS.line; dsimp only; rw [if_neg (by decide), ew, if_neg (by omega)]
      rw [e]
      refine ACalls.code tabOk h16 Try.func16 Try.call16 ok16 ?_
      conv => whnf
      refine Bif.knT ?_ fun h0 => ?_
      · (simp; omega)
      rw [h0]
      conv => whnf
      (rw [ew]; exact ⟨rfl, rfl⟩)
    · have e : PS.line ⟨v0, v1, v2, v3, ch, false, h0, l0, h1, l1, la⟩ = ⟨v0, v1, v2, v3, ch, false, h0, l0, h1, l1, la⟩ := by unfold PS.line; dsimp only; rw [if_neg (by decide), ew, if_pos (by omega)]; simp; omega
      rw [e]
      refine ACalls.code tabOk h16 Try.func16 Try.call16 ok16 ?_
      conv => whnf
      refine Bif.knF ?_ fun h0 => ?_
      · (simp; omega)
      rw [h0]
      conv => whnf
      exact ⟨rfl, rfl⟩
theorem ref20_dump (v0 v1 v2 v3 ch : Int) (du h0 l0 h1 l1 la : Bool) (on : Bool) : ACalls Try.prog 17 [.agg #[.int .i64 v0, .int .i64 v1, .int .i64 v2, .int .i64 v3, .int .i64 ch, .bool du, .bool h0, .bool h1, .bool la, .bool l0, .bool l1], .bool on] [] fun r H => r = (PS.dump ⟨v0, v1, v2, v3, ch, du, h0, l0, h1, l1, la⟩ on).ref ∧ H = [] := by
  cases on with
  | true =>
    refine ACalls.code tabOk h17 Try.func17 Try.call17 ok17 ?_
    conv => whnf
    exact ⟨rfl, rfl⟩
  | false =>
    refine ACalls.code tabOk h17 Try.func17 Try.call17 ok17 ?_
    conv => whnf
    exact ⟨rfl, rfl⟩
theorem ref20_latch (v0 v1 v2 v3 ch : Int) (du h0 l0 h1 l1 la : Bool) (on : Bool) : ACalls Try.prog 18 [.agg #[.int .i64 v0, .int .i64 v1, .int .i64 v2, .int .i64 v3, .int .i64 ch, .bool du, .bool h0, .bool h1, .bool la, .bool l0, .bool l1], .bool on] [] fun r H => r = (PS.latch ⟨v0, v1, v2, v3, ch, du, h0, l0, h1, l1, la⟩ on).ref ∧ H = [] := by
  cases on with
  | true =>
    cases h0 <;> cases h1
    · refine ACalls.code tabOk h18 Try.func18 Try.call18 ok18 ?_
      conv => whnf
      refine ALoop.run 3 ?_
      conv => whnf
      (exact ⟨by simp [PS.latch, PS.see, PS.ref], rfl⟩)
    · refine ACalls.code tabOk h18 Try.func18 Try.call18 ok18 ?_
      conv => whnf
      refine ALoop.run 3 ?_
      conv => whnf
      (exact ⟨by simp [PS.latch, PS.see, PS.ref], rfl⟩)
    · refine ACalls.code tabOk h18 Try.func18 Try.call18 ok18 ?_
      conv => whnf
      refine ALoop.run 3 ?_
      conv => whnf
      (exact ⟨by simp [PS.latch, PS.see, PS.ref], rfl⟩)
    · refine ACalls.code tabOk h18 Try.func18 Try.call18 ok18 ?_
      conv => whnf
      refine ALoop.run 3 ?_
      conv => whnf
      (exact ⟨by simp [PS.latch, PS.see, PS.ref], rfl⟩)
  | false =>
    refine ACalls.code tabOk h18 Try.func18 Try.call18 ok18 ?_
    conv => whnf
    refine ALoop.run 3 ?_
    conv => whnf
    exact ⟨rfl, rfl⟩
theorem ref20_in (v0 v1 v2 v3 ch : Int) (du h0 l0 h1 l1 la : Bool) (n v : Int) (f0 : (!la || (l0 && h0)) = l0) (f1 : (!la || (l1 && h1)) = l1) (hv : 0 ≤ v ∧ v ≤ 255) : ACalls Try.prog 15 [.agg #[.int .i64 v0, .int .i64 v1, .int .i64 v2, .int .i64 v3, .int .i64 ch, .bool du, .bool h0, .bool h1, .bool la, .bool l0, .bool l1], .int .i64 n, .int .i64 v] [] fun r H => r = (PS.inp ⟨v0, v1, v2, v3, ch, du, h0, l0, h1, l1, la⟩ n v).ref ∧ H = [] := by
  have ht := top_eq v hv
  have hn : n < 0 ∨ n = 0 ∨ n = 1 ∨ n = 2 ∨ n = 3 ∨ n = 4 ∨ n = 5 ∨ 6 ≤ n := by omega
  rcases hn with hn | rfl | rfl | rfl | rfl | rfl | rfl | hn
  · have e : PS.inp ⟨v0, v1, v2, v3, ch, du, h0, l0, h1, l1, la⟩ n v = ⟨v0, v1, v2, v3, ch, du, h0, l0, h1, l1, la⟩ := by
      unfold PS.inp; rw [if_neg (by omega), if_neg (by omega), if_neg (by omega), if_neg (by omega), if_neg (by omega), if_neg (by omega)]
    rw [e]
    refine ACalls.code tabOk h15 Try.func15 Try.call15 ok15 ?_
    conv => whnf
    refine Bif.knF ?_ fun h0 => ?_
    · (simp; omega)
    rw [h0]
    conv => whnf
    refine Bif.knF ?_ fun h1 => ?_
    · (simp; omega)
    rw [h1]
    conv => whnf
    refine Bif.knF ?_ fun h2 => ?_
    · (simp; omega)
    rw [h2]
    conv => whnf
    exact ⟨rfl, rfl⟩
  · refine ACalls.code tabOk h15 Try.func15 Try.call15 ok15 ?_
    conv => whnf
    exact ⟨rfl, rfl⟩
  · refine ACalls.code tabOk h15 Try.func15 Try.call15 ok15 ?_
    conv => whnf
    exact ⟨rfl, rfl⟩
  · refine ACalls.code tabOk h15 Try.func15 Try.call15 ok15 ?_
    conv => whnf
    exact ⟨rfl, rfl⟩
  · refine ACalls.code tabOk h15 Try.func15 Try.call15 ok15 ?_
    conv => whnf
    exact ⟨rfl, rfl⟩
  · have hb : v < 128 ∨ 128 ≤ v := by omega
    rcases hb with hb | hb
    · have ht' : top v = false := by rw [ht]; simp; omega
      have hg : decide (v ≥ 128) = false := by simp; omega
      cases la with
      | true =>
        refine ACalls.code tabOk h15 Try.func15 Try.call15 ok15 ?_
        conv => whnf
        refine Bif.knT ?_ fun h0 => ?_
        · (simp; omega)
        rw [h0]
        conv => whnf
        (exact ⟨by simp at f0 f1; simp [PS.inp, PS.see, PS.ref, ht', hg]; try simp_all, rfl⟩)
      | false =>
        simp at f0 f1
        subst f0 f1
        refine ACalls.code tabOk h15 Try.func15 Try.call15 ok15 ?_
        conv => whnf
        (exact ⟨by simp [PS.inp, PS.see, PS.ref, ht', hg], rfl⟩)
    · have ht' : top v = true := by rw [ht]; simp; omega
      have hg : decide (v ≥ 128) = true := by simp; omega
      cases la with
      | true =>
        refine ACalls.code tabOk h15 Try.func15 Try.call15 ok15 ?_
        conv => whnf
        refine Bif.knF ?_ fun h0 => ?_
        · (simp; omega)
        rw [h0]
        conv => whnf
        (exact ⟨by simp at f0 f1; simp [PS.inp, PS.see, PS.ref, ht', hg]; try simp_all, rfl⟩)
      | false =>
        simp at f0 f1
        subst f0 f1
        refine ACalls.code tabOk h15 Try.func15 Try.call15 ok15 ?_
        conv => whnf
        (exact ⟨by simp [PS.inp, PS.see, PS.ref, ht', hg], rfl⟩)
  · have hb : v < 128 ∨ 128 ≤ v := by omega
    rcases hb with hb | hb
    · have ht' : top v = false := by rw [ht]; simp; omega
      have hg : decide (v ≥ 128) = false := by simp; omega
      cases la with
      | true =>
        refine ACalls.code tabOk h15 Try.func15 Try.call15 ok15 ?_
        conv => whnf
        refine Bif.knT ?_ fun h0 => ?_
        · (simp; omega)
        rw [h0]
        conv => whnf
        (exact ⟨by simp at f0 f1; simp [PS.inp, PS.see, PS.ref, ht', hg]; try simp_all, rfl⟩)
      | false =>
        simp at f0 f1
        subst f0 f1
        refine ACalls.code tabOk h15 Try.func15 Try.call15 ok15 ?_
        conv => whnf
        (exact ⟨by simp [PS.inp, PS.see, PS.ref, ht', hg], rfl⟩)
    · have ht' : top v = true := by rw [ht]; simp; omega
      have hg : decide (v ≥ 128) = true := by simp; omega
      cases la with
      | true =>
        refine ACalls.code tabOk h15 Try.func15 Try.call15 ok15 ?_
        conv => whnf
        refine Bif.knF ?_ fun h0 => ?_
        · (simp; omega)
        rw [h0]
        conv => whnf
        (exact ⟨by simp at f0 f1; simp [PS.inp, PS.see, PS.ref, ht', hg]; try simp_all, rfl⟩)
      | false =>
        simp at f0 f1
        subst f0 f1
        refine ACalls.code tabOk h15 Try.func15 Try.call15 ok15 ?_
        conv => whnf
        (exact ⟨by simp [PS.inp, PS.see, PS.ref, ht', hg], rfl⟩)
  · have e : PS.inp ⟨v0, v1, v2, v3, ch, du, h0, l0, h1, l1, la⟩ n v = ⟨v0, v1, v2, v3, ch, du, h0, l0, h1, l1, la⟩ := by
      unfold PS.inp; rw [if_neg (by omega), if_neg (by omega), if_neg (by omega), if_neg (by omega), if_neg (by omega), if_neg (by omega)]
    rw [e]
    refine ACalls.code tabOk h15 Try.func15 Try.call15 ok15 ?_
    conv => whnf
    refine Bif.knT ?_ fun h0 => ?_
    · (simp; omega)
    rw [h0]
    conv => whnf
    refine Bif.knF ?_ fun h1 => ?_
    · (simp; omega)
    rw [h1]
    conv => whnf
    refine Bif.knF ?_ fun h2 => ?_
    · (simp; omega)
    rw [h2]
    conv => whnf
    refine Bif.knF ?_ fun h3 => ?_
    · (simp; omega)
    rw [h3]
    conv => whnf
    exact ⟨rfl, rfl⟩
theorem ref20_high (v0 v1 v2 v3 ch : Int) (du h0 l0 h1 l1 la : Bool) (n : Int) (hv : (0 ≤ v0 ∧ v0 ≤ 255) ∧ (0 ≤ v1 ∧ v1 ≤ 255) ∧ (0 ≤ v2 ∧ v2 ≤ 255) ∧ (0 ≤ v3 ∧ v3 ≤ 255)) : ACalls Try.prog 22 [.agg #[.int .i64 v0, .int .i64 v1, .int .i64 v2, .int .i64 v3, .int .i64 ch, .bool du, .bool h0, .bool h1, .bool la, .bool l0, .bool l1], .int .i64 n] [] fun r H => r = .bool (PS.high ⟨v0, v1, v2, v3, ch, du, h0, l0, h1, l1, la⟩ n) ∧ H = [] := by
  have x0 : IntKind.i64.wrap v0 = v0 := wrap64 (by omega) (by omega)
  have x1 : IntKind.i64.wrap v1 = v1 := wrap64 (by omega) (by omega)
  have x2 : IntKind.i64.wrap v2 = v2 := wrap64 (by omega) (by omega)
  have x3 : IntKind.i64.wrap v3 = v3 := wrap64 (by omega) (by omega)
  have hn : n < 0 ∨ n = 0 ∨ n = 1 ∨ n = 2 ∨ n = 3 ∨ n = 4 ∨ n = 5 ∨ 6 ≤ n := by omega
  rcases hn with hn | rfl | rfl | rfl | rfl | rfl | rfl | hn
  · have e : PS.high ⟨v0, v1, v2, v3, ch, du, h0, l0, h1, l1, la⟩ n = false := by
      unfold PS.high; rw [if_neg (by omega), if_neg (by omega), if_neg (by omega), if_neg (by omega), if_neg (by omega), if_neg (by omega)]
    rw [e]
    refine ACalls.code tabOk h22 Try.func22 Try.call22 ok22 ?_
    conv => whnf
    refine Bif.knF ?_ fun h0 => ?_
    · (simp; omega)
    rw [h0]
    conv => whnf
    refine Bif.knF ?_ fun h1 => ?_
    · (simp; omega)
    rw [h1]
    conv => whnf
    refine Bif.knF ?_ fun h2 => ?_
    · (simp; omega)
    rw [h2]
    conv => whnf
    exact ⟨rfl, rfl⟩
  · cases du <;> refine ACalls.code tabOk h22 Try.func22 Try.call22 ok22 ?_ <;> (conv => whnf)
    · (exact ⟨by show Value.bool (decide (ch > v0)) = Value.bool (!false && decide (ch > IntKind.i64.wrap v0)); rw [x0]; rfl, rfl⟩)
    · exact ⟨rfl, rfl⟩
  · cases du <;> refine ACalls.code tabOk h22 Try.func22 Try.call22 ok22 ?_ <;> (conv => whnf)
    · (exact ⟨by show Value.bool (decide (ch > v1)) = Value.bool (!false && decide (ch > IntKind.i64.wrap v1)); rw [x1]; rfl, rfl⟩)
    · exact ⟨rfl, rfl⟩
  · cases du <;> refine ACalls.code tabOk h22 Try.func22 Try.call22 ok22 ?_ <;> (conv => whnf)
    · (exact ⟨by show Value.bool (decide (ch > v2)) = Value.bool (!false && decide (ch > IntKind.i64.wrap v2)); rw [x2]; rfl, rfl⟩)
    · exact ⟨rfl, rfl⟩
  · cases du <;> refine ACalls.code tabOk h22 Try.func22 Try.call22 ok22 ?_ <;> (conv => whnf)
    · (exact ⟨by show Value.bool (decide (ch > v3)) = Value.bool (!false && decide (ch > IntKind.i64.wrap v3)); rw [x3]; rfl, rfl⟩)
    · exact ⟨rfl, rfl⟩
  · cases la <;> refine ACalls.code tabOk h22 Try.func22 Try.call22 ok22 ?_ <;> (conv => whnf)
    · exact ⟨rfl, rfl⟩
    · exact ⟨rfl, rfl⟩
  · cases la <;> refine ACalls.code tabOk h22 Try.func22 Try.call22 ok22 ?_ <;> (conv => whnf)
    · exact ⟨rfl, rfl⟩
    · exact ⟨rfl, rfl⟩
  · have e : PS.high ⟨v0, v1, v2, v3, ch, du, h0, l0, h1, l1, la⟩ n = false := by
      unfold PS.high; rw [if_neg (by omega), if_neg (by omega), if_neg (by omega), if_neg (by omega), if_neg (by omega), if_neg (by omega)]
    rw [e]
    refine ACalls.code tabOk h22 Try.func22 Try.call22 ok22 ?_
    conv => whnf
    refine Bif.knT ?_ fun h0 => ?_
    · (simp; omega)
    rw [h0]
    conv => whnf
    refine Bif.knF ?_ fun h1 => ?_
    · (simp; omega)
    rw [h1]
    conv => whnf
    refine Bif.knF ?_ fun h2 => ?_
    · (simp; omega)
    rw [h2]
    conv => whnf
    refine Bif.knF ?_ fun h3 => ?_
    · (simp; omega)
    rw [h3]
    conv => whnf
    exact ⟨rfl, rfl⟩
end Go.Proofs
