/-
  Walks through the functions of the program, by contract.
-/
import Derived.Test.YtbngapokpmifnaaTimerbF
set_option linter.all false
set_option linter.unusedVariables false
set_option linter.unusedSimpArgs false
set_option linter.unnecessarySimpa false
set_option linter.all false
set_option linter.unusedVariables false
set_option linter.unusedSimpArgs false
set_option linter.unnecessarySimpa false
namespace Go.Proofs
open Go.Aw
set_option maxRecDepth 100000
set_option maxHeartbeats 4000000

def one01 (b : Bool) : Int := if b then 1 else 0
def TM.read (s : TM) : TM := if s.fa then ⟨s.v, s.iv, s.iv, false, false⟩ else ⟨s.v, s.iv, s.l, false, false⟩
def TM.words (s : TM) : Value := .agg #[.int .i64 s.v, .int .i64 s.iv, .int .i64 s.l, .int .i64 (one01 s.fa), .int .i64 (one01 s.fl)]
def TM.ok (s : TM) : Prop := (0 ≤ s.v ∧ s.v ≤ 255) ∧ (s.iv = 1 ∨ s.iv = 8 ∨ s.iv = 64 ∨ s.iv = 1024) ∧ (1 ≤ s.l ∧ s.l ≤ s.iv)
theorem u8_range (n : Int) : 0 ≤ IntKind.u8.wrap n ∧ IntKind.u8.wrap n ≤ 255 := by
  simp only [IntKind.wrap, IntKind.signed, IntKind.bits, Bool.false_and, Bool.false_eq_true, if_false]
  omega
theorem TM.tick_ok {s : TM} (h : s.ok) : s.tick.ok := by
  obtain ⟨h1, h2, h3⟩ := h
  have h4 : IntKind.i64.wrap (s.l - 1) = s.l - 1 := wrap64 (by omega) (by omega)
  unfold TM.tick
  rw [h4]
  split
  · exact ⟨u8_range _, h2, by dsimp only; omega⟩
  · split
    · exact ⟨h1, h2, by dsimp only; omega⟩
    · split
      · exact ⟨u8_range _, h2, by dsimp only; omega⟩
      · exact ⟨u8_range _, h2, by dsimp only; omega⟩
theorem TM.ticks_ok {s : TM} (h : s.ok) : ∀ n : Nat, (TM.ticks n s).ok
  | 0 => h
  | n + 1 => TM.tick_ok (TM.ticks_ok h n)
theorem TM.read_ok {s : TM} (h : s.ok) : s.read.ok := by
  obtain ⟨h1, h2, h3⟩ := h
  unfold TM.read
  split
  · exact ⟨h1, h2, by dsimp only; omega⟩
  · exact ⟨h1, h2, h3⟩
theorem TM.write_ok {v n : Int} (hv : 0 ≤ v ∧ v ≤ 255) : TM.ok ⟨v, ivl n, 1, false, false⟩ := by
  have h : ivl n = 1 ∨ ivl n = 8 ∨ ivl n = 64 ∨ ivl n = 1024 := by
    unfold ivl
    split
    · exact .inl rfl
    · split
      · exact .inr (.inl rfl)
      · split
        · exact .inr (.inr (.inl rfl))
        · exact .inr (.inr (.inr rfl))
  exact ⟨hv, h, by dsimp only; omega⟩
theorem TM.new_ok : TM.ok ⟨255, 1024, 1, false, false⟩ := ⟨by decide, by decide, by decide⟩

theorem timer_read (v iv l : Int) (fa fl : Bool) : ACalls Try.prog 43 [.pointer (some ⟨0, 0, none⟩)] [.cells [.int .u8 v, .int .i64 iv, .int .i64 l, .bool fa, .bool fl] 104] fun r H => r = .int .u8 v ∧ H = [(TM.read ⟨v, iv, l, fa, fl⟩).blk] := by
  cases fa with
  | true =>
    refine ACalls.code tabOk h43 Try.func43 Try.call43 ok43 ?_
    conv => whnf
    exact ⟨rfl, rfl⟩
  | false =>
    refine ACalls.code tabOk h43 Try.func43 Try.call43 ok43 ?_
    conv => whnf
    exact ⟨rfl, rfl⟩
theorem timer_words (v iv l : Int) (fa fl : Bool) (hv : 0 ≤ v ∧ v ≤ 255) : ACalls Try.prog 45 [.pointer (some ⟨0, 0, none⟩)] [.cells [.int .u8 v, .int .i64 iv, .int .i64 l, .bool fa, .bool fl] 104] fun r H => r = TM.words ⟨v, iv, l, fa, fl⟩ ∧ H = [TM.blk ⟨v, iv, l, fa, fl⟩] := by
  have ev : IntKind.i64.wrap v = v := wrap64 (by omega) (by omega)
  cases fa <;> cases fl

  · refine ACalls.code tabOk h45 Try.func45 Try.call45 ok45 ?_
    conv => whnf
    refine ACalls.code tabOk h69 Try.func69 Try.call69 ok69 ?_
    conv => whnf
    refine ⟨rfl, ?_⟩
    conv => whnf
    refine ⟨rfl, ?_⟩
    conv => whnf
    refine ⟨rfl, ?_⟩
    conv => whnf
    refine ⟨rfl, ?_⟩
    conv => whnf
    refine ACalls.code tabOk h69 Try.func69 Try.call69 ok69 ?_
    conv => whnf
    refine ⟨rfl, ?_⟩
    conv => whnf
    refine ⟨rfl, ?_⟩
    conv => whnf
    refine ⟨rfl, ?_⟩
    conv => whnf
    (rw [ev]; exact ⟨rfl, rfl⟩)
  · refine ACalls.code tabOk h45 Try.func45 Try.call45 ok45 ?_
    conv => whnf
    refine ACalls.code tabOk h69 Try.func69 Try.call69 ok69 ?_
    conv => whnf
    refine ⟨rfl, ?_⟩
    conv => whnf
    refine ⟨rfl, ?_⟩
    conv => whnf
    refine ⟨rfl, ?_⟩
    conv => whnf
    refine ⟨rfl, ?_⟩
    conv => whnf
    refine ACalls.code tabOk h69 Try.func69 Try.call69 ok69 ?_
    conv => whnf
    refine ⟨rfl, ?_⟩
    conv => whnf
    refine ⟨rfl, ?_⟩
    conv => whnf
    refine ⟨rfl, ?_⟩
    conv => whnf
    (rw [ev]; exact ⟨rfl, rfl⟩)
  · refine ACalls.code tabOk h45 Try.func45 Try.call45 ok45 ?_
    conv => whnf
    refine ACalls.code tabOk h69 Try.func69 Try.call69 ok69 ?_
    conv => whnf
    refine ⟨rfl, ?_⟩
    conv => whnf
    refine ⟨rfl, ?_⟩
    conv => whnf
    refine ⟨rfl, ?_⟩
    conv => whnf
    refine ⟨rfl, ?_⟩
    conv => whnf
    refine ACalls.code tabOk h69 Try.func69 Try.call69 ok69 ?_
    conv => whnf
    refine ⟨rfl, ?_⟩
    conv => whnf
    refine ⟨rfl, ?_⟩
    conv => whnf
    refine ⟨rfl, ?_⟩
    conv => whnf
    (rw [ev]; exact ⟨rfl, rfl⟩)
  · refine ACalls.code tabOk h45 Try.func45 Try.call45 ok45 ?_
    conv => whnf
    refine ACalls.code tabOk h69 Try.func69 Try.call69 ok69 ?_
    conv => whnf
    refine ⟨rfl, ?_⟩
    conv => whnf
    refine ⟨rfl, ?_⟩
    conv => whnf
    refine ⟨rfl, ?_⟩
    conv => whnf
    refine ⟨rfl, ?_⟩
    conv => whnf
    refine ACalls.code tabOk h69 Try.func69 Try.call69 ok69 ?_
    conv => whnf
    refine ⟨rfl, ?_⟩
    conv => whnf
    refine ⟨rfl, ?_⟩
    conv => whnf
    refine ⟨rfl, ?_⟩
    conv => whnf
    (rw [ev]; exact ⟨rfl, rfl⟩)
theorem timer_copy (v iv l : Int) (fa fl : Bool) : ACalls Try.prog 46 [.pointer (some ⟨0, 0, none⟩)] [.cells [.int .u8 v, .int .i64 iv, .int .i64 l, .bool fa, .bool fl] 104] fun r H => r = .pointer (some ⟨1, 0, none⟩) ∧ H = [TM.blk ⟨v, iv, l, fa, fl⟩, TM.blk ⟨v, iv, l, fa, fl⟩] := by
  refine ACalls.codeN tabOk h46 Try.func46 Try.call46 ok46 [0, 1] ?_
  conv => whnf
  exact ⟨rfl, rfl⟩

theorem timer_set_1_true_true (v0 iv0 l0 : Int) (fa0 fl0 : Bool) (v l : Int) (hv : 0 ≤ v ∧ v ≤ 255) (hl : 1 ≤ l ∧ l ≤ 1) : ACalls Try.prog 44 [.pointer (some ⟨0, 0, none⟩), TM.words ⟨v, 1, l, true, true⟩] [.cells [.int .u8 v0, .int .i64 iv0, .int .i64 l0, .bool fa0, .bool fl0] 104] fun r H => r = .int .i64 0 ∧ H = [TM.blk ⟨v, 1, l, true, true⟩] := by
  have ev : IntKind.u8.wrap v = v := wrap8 (by omega) (by omega)
  refine ACalls.code tabOk h44 Try.func44 Try.call44 ok44 ?_
  conv => whnf
  refine ACalls.code tabOk h68 Try.func68 Try.call68 ok68 ?_
  conv => whnf
  refine ALoop.run 5 ?_
  conv => whnf
  refine Bif.knF ?_ fun h0 => ?_
  · (simp; omega)
  rw [h0]
  conv => whnf
  refine Bif.knF ?_ fun h1 => ?_
  · (simp; omega)
  rw [h1]
  conv => whnf
  refine Bif.knF ?_ fun h2 => ?_
  · (simp; omega)
  rw [h2]
  conv => whnf
  refine Bif.knF ?_ fun h3 => ?_
  · (simp; omega)
  rw [h3]
  conv => whnf
  (rw [ev]; exact ⟨rfl, rfl⟩)

theorem timer_set_1_true_false (v0 iv0 l0 : Int) (fa0 fl0 : Bool) (v l : Int) (hv : 0 ≤ v ∧ v ≤ 255) (hl : 1 ≤ l ∧ l ≤ 1) : ACalls Try.prog 44 [.pointer (some ⟨0, 0, none⟩), TM.words ⟨v, 1, l, true, false⟩] [.cells [.int .u8 v0, .int .i64 iv0, .int .i64 l0, .bool fa0, .bool fl0] 104] fun r H => r = .int .i64 0 ∧ H = [TM.blk ⟨v, 1, l, true, false⟩] := by
  have ev : IntKind.u8.wrap v = v := wrap8 (by omega) (by omega)
  refine ACalls.code tabOk h44 Try.func44 Try.call44 ok44 ?_
  conv => whnf
  refine ACalls.code tabOk h68 Try.func68 Try.call68 ok68 ?_
  conv => whnf
  refine ALoop.run 5 ?_
  conv => whnf
  refine Bif.knF ?_ fun h0 => ?_
  · (simp; omega)
  rw [h0]
  conv => whnf
  refine Bif.knF ?_ fun h1 => ?_
  · (simp; omega)
  rw [h1]
  conv => whnf
  refine Bif.knF ?_ fun h2 => ?_
  · (simp; omega)
  rw [h2]
  conv => whnf
  refine Bif.knF ?_ fun h3 => ?_
  · (simp; omega)
  rw [h3]
  conv => whnf
  (rw [ev]; exact ⟨rfl, rfl⟩)

theorem timer_set_1_false_true (v0 iv0 l0 : Int) (fa0 fl0 : Bool) (v l : Int) (hv : 0 ≤ v ∧ v ≤ 255) (hl : 1 ≤ l ∧ l ≤ 1) : ACalls Try.prog 44 [.pointer (some ⟨0, 0, none⟩), TM.words ⟨v, 1, l, false, true⟩] [.cells [.int .u8 v0, .int .i64 iv0, .int .i64 l0, .bool fa0, .bool fl0] 104] fun r H => r = .int .i64 0 ∧ H = [TM.blk ⟨v, 1, l, false, true⟩] := by
  have ev : IntKind.u8.wrap v = v := wrap8 (by omega) (by omega)
  refine ACalls.code tabOk h44 Try.func44 Try.call44 ok44 ?_
  conv => whnf
  refine ACalls.code tabOk h68 Try.func68 Try.call68 ok68 ?_
  conv => whnf
  refine ALoop.run 5 ?_
  conv => whnf
  refine Bif.knF ?_ fun h0 => ?_
  · (simp; omega)
  rw [h0]
  conv => whnf
  refine Bif.knF ?_ fun h1 => ?_
  · (simp; omega)
  rw [h1]
  conv => whnf
  refine Bif.knF ?_ fun h2 => ?_
  · (simp; omega)
  rw [h2]
  conv => whnf
  refine Bif.knF ?_ fun h3 => ?_
  · (simp; omega)
  rw [h3]
  conv => whnf
  (rw [ev]; exact ⟨rfl, rfl⟩)

theorem timer_set_1_false_false (v0 iv0 l0 : Int) (fa0 fl0 : Bool) (v l : Int) (hv : 0 ≤ v ∧ v ≤ 255) (hl : 1 ≤ l ∧ l ≤ 1) : ACalls Try.prog 44 [.pointer (some ⟨0, 0, none⟩), TM.words ⟨v, 1, l, false, false⟩] [.cells [.int .u8 v0, .int .i64 iv0, .int .i64 l0, .bool fa0, .bool fl0] 104] fun r H => r = .int .i64 0 ∧ H = [TM.blk ⟨v, 1, l, false, false⟩] := by
  have ev : IntKind.u8.wrap v = v := wrap8 (by omega) (by omega)
  refine ACalls.code tabOk h44 Try.func44 Try.call44 ok44 ?_
  conv => whnf
  refine ACalls.code tabOk h68 Try.func68 Try.call68 ok68 ?_
  conv => whnf
  refine ALoop.run 5 ?_
  conv => whnf
  refine Bif.knF ?_ fun h0 => ?_
  · (simp; omega)
  rw [h0]
  conv => whnf
  refine Bif.knF ?_ fun h1 => ?_
  · (simp; omega)
  rw [h1]
  conv => whnf
  refine Bif.knF ?_ fun h2 => ?_
  · (simp; omega)
  rw [h2]
  conv => whnf
  refine Bif.knF ?_ fun h3 => ?_
  · (simp; omega)
  rw [h3]
  conv => whnf
  (rw [ev]; exact ⟨rfl, rfl⟩)

theorem timer_set_8_true_true (v0 iv0 l0 : Int) (fa0 fl0 : Bool) (v l : Int) (hv : 0 ≤ v ∧ v ≤ 255) (hl : 1 ≤ l ∧ l ≤ 8) : ACalls Try.prog 44 [.pointer (some ⟨0, 0, none⟩), TM.words ⟨v, 8, l, true, true⟩] [.cells [.int .u8 v0, .int .i64 iv0, .int .i64 l0, .bool fa0, .bool fl0] 104] fun r H => r = .int .i64 0 ∧ H = [TM.blk ⟨v, 8, l, true, true⟩] := by
  have ev : IntKind.u8.wrap v = v := wrap8 (by omega) (by omega)
  refine ACalls.code tabOk h44 Try.func44 Try.call44 ok44 ?_
  conv => whnf
  refine ACalls.code tabOk h68 Try.func68 Try.call68 ok68 ?_
  conv => whnf
  refine ALoop.run 5 ?_
  conv => whnf
  refine Bif.knF ?_ fun h0 => ?_
  · (simp; omega)
  rw [h0]
  conv => whnf
  refine Bif.knF ?_ fun h1 => ?_
  · (simp; omega)
  rw [h1]
  conv => whnf
  refine Bif.knF ?_ fun h2 => ?_
  · (simp; omega)
  rw [h2]
  conv => whnf
  refine Bif.knF ?_ fun h3 => ?_
  · (simp; omega)
  rw [h3]
  conv => whnf
  (rw [ev]; exact ⟨rfl, rfl⟩)

theorem timer_set_8_true_false (v0 iv0 l0 : Int) (fa0 fl0 : Bool) (v l : Int) (hv : 0 ≤ v ∧ v ≤ 255) (hl : 1 ≤ l ∧ l ≤ 8) : ACalls Try.prog 44 [.pointer (some ⟨0, 0, none⟩), TM.words ⟨v, 8, l, true, false⟩] [.cells [.int .u8 v0, .int .i64 iv0, .int .i64 l0, .bool fa0, .bool fl0] 104] fun r H => r = .int .i64 0 ∧ H = [TM.blk ⟨v, 8, l, true, false⟩] := by
  have ev : IntKind.u8.wrap v = v := wrap8 (by omega) (by omega)
  refine ACalls.code tabOk h44 Try.func44 Try.call44 ok44 ?_
  conv => whnf
  refine ACalls.code tabOk h68 Try.func68 Try.call68 ok68 ?_
  conv => whnf
  refine ALoop.run 5 ?_
  conv => whnf
  refine Bif.knF ?_ fun h0 => ?_
  · (simp; omega)
  rw [h0]
  conv => whnf
  refine Bif.knF ?_ fun h1 => ?_
  · (simp; omega)
  rw [h1]
  conv => whnf
  refine Bif.knF ?_ fun h2 => ?_
  · (simp; omega)
  rw [h2]
  conv => whnf
  refine Bif.knF ?_ fun h3 => ?_
  · (simp; omega)
  rw [h3]
  conv => whnf
  (rw [ev]; exact ⟨rfl, rfl⟩)

theorem timer_set_8_false_true (v0 iv0 l0 : Int) (fa0 fl0 : Bool) (v l : Int) (hv : 0 ≤ v ∧ v ≤ 255) (hl : 1 ≤ l ∧ l ≤ 8) : ACalls Try.prog 44 [.pointer (some ⟨0, 0, none⟩), TM.words ⟨v, 8, l, false, true⟩] [.cells [.int .u8 v0, .int .i64 iv0, .int .i64 l0, .bool fa0, .bool fl0] 104] fun r H => r = .int .i64 0 ∧ H = [TM.blk ⟨v, 8, l, false, true⟩] := by
  have ev : IntKind.u8.wrap v = v := wrap8 (by omega) (by omega)
  refine ACalls.code tabOk h44 Try.func44 Try.call44 ok44 ?_
  conv => whnf
  refine ACalls.code tabOk h68 Try.func68 Try.call68 ok68 ?_
  conv => whnf
  refine ALoop.run 5 ?_
  conv => whnf
  refine Bif.knF ?_ fun h0 => ?_
  · (simp; omega)
  rw [h0]
  conv => whnf
  refine Bif.knF ?_ fun h1 => ?_
  · (simp; omega)
  rw [h1]
  conv => whnf
  refine Bif.knF ?_ fun h2 => ?_
  · (simp; omega)
  rw [h2]
  conv => whnf
  refine Bif.knF ?_ fun h3 => ?_
  · (simp; omega)
  rw [h3]
  conv => whnf
  (rw [ev]; exact ⟨rfl, rfl⟩)

theorem timer_set_8_false_false (v0 iv0 l0 : Int) (fa0 fl0 : Bool) (v l : Int) (hv : 0 ≤ v ∧ v ≤ 255) (hl : 1 ≤ l ∧ l ≤ 8) : ACalls Try.prog 44 [.pointer (some ⟨0, 0, none⟩), TM.words ⟨v, 8, l, false, false⟩] [.cells [.int .u8 v0, .int .i64 iv0, .int .i64 l0, .bool fa0, .bool fl0] 104] fun r H => r = .int .i64 0 ∧ H = [TM.blk ⟨v, 8, l, false, false⟩] := by
  have ev : IntKind.u8.wrap v = v := wrap8 (by omega) (by omega)
  refine ACalls.code tabOk h44 Try.func44 Try.call44 ok44 ?_
  conv => whnf
  refine ACalls.code tabOk h68 Try.func68 Try.call68 ok68 ?_
  conv => whnf
  refine ALoop.run 5 ?_
  conv => whnf
  refine Bif.knF ?_ fun h0 => ?_
  · (simp; omega)
  rw [h0]
  conv => whnf
  refine Bif.knF ?_ fun h1 => ?_
  · (simp; omega)
  rw [h1]
  conv => whnf
  refine Bif.knF ?_ fun h2 => ?_
  · (simp; omega)
  rw [h2]
  conv => whnf
  refine Bif.knF ?_ fun h3 => ?_
  · (simp; omega)
  rw [h3]
  conv => whnf
  (rw [ev]; exact ⟨rfl, rfl⟩)

theorem timer_set_64_true_true (v0 iv0 l0 : Int) (fa0 fl0 : Bool) (v l : Int) (hv : 0 ≤ v ∧ v ≤ 255) (hl : 1 ≤ l ∧ l ≤ 64) : ACalls Try.prog 44 [.pointer (some ⟨0, 0, none⟩), TM.words ⟨v, 64, l, true, true⟩] [.cells [.int .u8 v0, .int .i64 iv0, .int .i64 l0, .bool fa0, .bool fl0] 104] fun r H => r = .int .i64 0 ∧ H = [TM.blk ⟨v, 64, l, true, true⟩] := by
  have ev : IntKind.u8.wrap v = v := wrap8 (by omega) (by omega)
  refine ACalls.code tabOk h44 Try.func44 Try.call44 ok44 ?_
  conv => whnf
  refine ACalls.code tabOk h68 Try.func68 Try.call68 ok68 ?_
  conv => whnf
  refine ALoop.run 5 ?_
  conv => whnf
  refine Bif.knF ?_ fun h0 => ?_
  · (simp; omega)
  rw [h0]
  conv => whnf
  refine Bif.knF ?_ fun h1 => ?_
  · (simp; omega)
  rw [h1]
  conv => whnf
  refine Bif.knF ?_ fun h2 => ?_
  · (simp; omega)
  rw [h2]
  conv => whnf
  refine Bif.knF ?_ fun h3 => ?_
  · (simp; omega)
  rw [h3]
  conv => whnf
  (rw [ev]; exact ⟨rfl, rfl⟩)

theorem timer_set_64_true_false (v0 iv0 l0 : Int) (fa0 fl0 : Bool) (v l : Int) (hv : 0 ≤ v ∧ v ≤ 255) (hl : 1 ≤ l ∧ l ≤ 64) : ACalls Try.prog 44 [.pointer (some ⟨0, 0, none⟩), TM.words ⟨v, 64, l, true, false⟩] [.cells [.int .u8 v0, .int .i64 iv0, .int .i64 l0, .bool fa0, .bool fl0] 104] fun r H => r = .int .i64 0 ∧ H = [TM.blk ⟨v, 64, l, true, false⟩] := by
  have ev : IntKind.u8.wrap v = v := wrap8 (by omega) (by omega)
  refine ACalls.code tabOk h44 Try.func44 Try.call44 ok44 ?_
  conv => whnf
  refine ACalls.code tabOk h68 Try.func68 Try.call68 ok68 ?_
  conv => whnf
  refine ALoop.run 5 ?_
  conv => whnf
  refine Bif.knF ?_ fun h0 => ?_
  · (simp; omega)
  rw [h0]
  conv => whnf
  refine Bif.knF ?_ fun h1 => ?_
  · (simp; omega)
  rw [h1]
  conv => whnf
  refine Bif.knF ?_ fun h2 => ?_
  · (simp; omega)
  rw [h2]
  conv => whnf
  refine Bif.knF ?_ fun h3 => ?_
  · (simp; omega)
  rw [h3]
  conv => whnf
  (rw [ev]; exact ⟨rfl, rfl⟩)

theorem timer_set_64_false_true (v0 iv0 l0 : Int) (fa0 fl0 : Bool) (v l : Int) (hv : 0 ≤ v ∧ v ≤ 255) (hl : 1 ≤ l ∧ l ≤ 64) : ACalls Try.prog 44 [.pointer (some ⟨0, 0, none⟩), TM.words ⟨v, 64, l, false, true⟩] [.cells [.int .u8 v0, .int .i64 iv0, .int .i64 l0, .bool fa0, .bool fl0] 104] fun r H => r = .int .i64 0 ∧ H = [TM.blk ⟨v, 64, l, false, true⟩] := by
  have ev : IntKind.u8.wrap v = v := wrap8 (by omega) (by omega)
  refine ACalls.code tabOk h44 Try.func44 Try.call44 ok44 ?_
  conv => whnf
  refine ACalls.code tabOk h68 Try.func68 Try.call68 ok68 ?_
  conv => whnf
  refine ALoop.run 5 ?_
  conv => whnf
  refine Bif.knF ?_ fun h0 => ?_
  · (simp; omega)
  rw [h0]
  conv => whnf
  refine Bif.knF ?_ fun h1 => ?_
  · (simp; omega)
  rw [h1]
  conv => whnf
  refine Bif.knF ?_ fun h2 => ?_
  · (simp; omega)
  rw [h2]
  conv => whnf
  refine Bif.knF ?_ fun h3 => ?_
  · (simp; omega)
  rw [h3]
  conv => whnf
  (rw [ev]; exact ⟨rfl, rfl⟩)

theorem timer_set_64_false_false (v0 iv0 l0 : Int) (fa0 fl0 : Bool) (v l : Int) (hv : 0 ≤ v ∧ v ≤ 255) (hl : 1 ≤ l ∧ l ≤ 64) : ACalls Try.prog 44 [.pointer (some ⟨0, 0, none⟩), TM.words ⟨v, 64, l, false, false⟩] [.cells [.int .u8 v0, .int .i64 iv0, .int .i64 l0, .bool fa0, .bool fl0] 104] fun r H => r = .int .i64 0 ∧ H = [TM.blk ⟨v, 64, l, false, false⟩] := by
  have ev : IntKind.u8.wrap v = v := wrap8 (by omega) (by omega)
  refine ACalls.code tabOk h44 Try.func44 Try.call44 ok44 ?_
  conv => whnf
  refine ACalls.code tabOk h68 Try.func68 Try.call68 ok68 ?_
  conv => whnf
  refine ALoop.run 5 ?_
  conv => whnf
  refine Bif.knF ?_ fun h0 => ?_
  · (simp; omega)
  rw [h0]
  conv => whnf
  refine Bif.knF ?_ fun h1 => ?_
  · (simp; omega)
  rw [h1]
  conv => whnf
  refine Bif.knF ?_ fun h2 => ?_
  · (simp; omega)
  rw [h2]
  conv => whnf
  refine Bif.knF ?_ fun h3 => ?_
  · (simp; omega)
  rw [h3]
  conv => whnf
  (rw [ev]; exact ⟨rfl, rfl⟩)

theorem timer_set_1024_true_true (v0 iv0 l0 : Int) (fa0 fl0 : Bool) (v l : Int) (hv : 0 ≤ v ∧ v ≤ 255) (hl : 1 ≤ l ∧ l ≤ 1024) : ACalls Try.prog 44 [.pointer (some ⟨0, 0, none⟩), TM.words ⟨v, 1024, l, true, true⟩] [.cells [.int .u8 v0, .int .i64 iv0, .int .i64 l0, .bool fa0, .bool fl0] 104] fun r H => r = .int .i64 0 ∧ H = [TM.blk ⟨v, 1024, l, true, true⟩] := by
  have ev : IntKind.u8.wrap v = v := wrap8 (by omega) (by omega)
  refine ACalls.code tabOk h44 Try.func44 Try.call44 ok44 ?_
  conv => whnf
  refine ACalls.code tabOk h68 Try.func68 Try.call68 ok68 ?_
  conv => whnf
  refine ALoop.run 5 ?_
  conv => whnf
  refine Bif.knF ?_ fun h0 => ?_
  · (simp; omega)
  rw [h0]
  conv => whnf
  refine Bif.knF ?_ fun h1 => ?_
  · (simp; omega)
  rw [h1]
  conv => whnf
  refine Bif.knF ?_ fun h2 => ?_
  · (simp; omega)
  rw [h2]
  conv => whnf
  refine Bif.knF ?_ fun h3 => ?_
  · (simp; omega)
  rw [h3]
  conv => whnf
  (rw [ev]; exact ⟨rfl, rfl⟩)

theorem timer_set_1024_true_false (v0 iv0 l0 : Int) (fa0 fl0 : Bool) (v l : Int) (hv : 0 ≤ v ∧ v ≤ 255) (hl : 1 ≤ l ∧ l ≤ 1024) : ACalls Try.prog 44 [.pointer (some ⟨0, 0, none⟩), TM.words ⟨v, 1024, l, true, false⟩] [.cells [.int .u8 v0, .int .i64 iv0, .int .i64 l0, .bool fa0, .bool fl0] 104] fun r H => r = .int .i64 0 ∧ H = [TM.blk ⟨v, 1024, l, true, false⟩] := by
  have ev : IntKind.u8.wrap v = v := wrap8 (by omega) (by omega)
  refine ACalls.code tabOk h44 Try.func44 Try.call44 ok44 ?_
  conv => whnf
  refine ACalls.code tabOk h68 Try.func68 Try.call68 ok68 ?_
  conv => whnf
  refine ALoop.run 5 ?_
  conv => whnf
  refine Bif.knF ?_ fun h0 => ?_
  · (simp; omega)
  rw [h0]
  conv => whnf
  refine Bif.knF ?_ fun h1 => ?_
  · (simp; omega)
  rw [h1]
  conv => whnf
  refine Bif.knF ?_ fun h2 => ?_
  · (simp; omega)
  rw [h2]
  conv => whnf
  refine Bif.knF ?_ fun h3 => ?_
  · (simp; omega)
  rw [h3]
  conv => whnf
  (rw [ev]; exact ⟨rfl, rfl⟩)

theorem timer_set_1024_false_true (v0 iv0 l0 : Int) (fa0 fl0 : Bool) (v l : Int) (hv : 0 ≤ v ∧ v ≤ 255) (hl : 1 ≤ l ∧ l ≤ 1024) : ACalls Try.prog 44 [.pointer (some ⟨0, 0, none⟩), TM.words ⟨v, 1024, l, false, true⟩] [.cells [.int .u8 v0, .int .i64 iv0, .int .i64 l0, .bool fa0, .bool fl0] 104] fun r H => r = .int .i64 0 ∧ H = [TM.blk ⟨v, 1024, l, false, true⟩] := by
  have ev : IntKind.u8.wrap v = v := wrap8 (by omega) (by omega)
  refine ACalls.code tabOk h44 Try.func44 Try.call44 ok44 ?_
  conv => whnf
  refine ACalls.code tabOk h68 Try.func68 Try.call68 ok68 ?_
  conv => whnf
  refine ALoop.run 5 ?_
  conv => whnf
  refine Bif.knF ?_ fun h0 => ?_
  · (simp; omega)
  rw [h0]
  conv => whnf
  refine Bif.knF ?_ fun h1 => ?_
  · (simp; omega)
  rw [h1]
  conv => whnf
  refine Bif.knF ?_ fun h2 => ?_
  · (simp; omega)
  rw [h2]
  conv => whnf
  refine Bif.knF ?_ fun h3 => ?_
  · (simp; omega)
  rw [h3]
  conv => whnf
  (rw [ev]; exact ⟨rfl, rfl⟩)

theorem timer_set_1024_false_false (v0 iv0 l0 : Int) (fa0 fl0 : Bool) (v l : Int) (hv : 0 ≤ v ∧ v ≤ 255) (hl : 1 ≤ l ∧ l ≤ 1024) : ACalls Try.prog 44 [.pointer (some ⟨0, 0, none⟩), TM.words ⟨v, 1024, l, false, false⟩] [.cells [.int .u8 v0, .int .i64 iv0, .int .i64 l0, .bool fa0, .bool fl0] 104] fun r H => r = .int .i64 0 ∧ H = [TM.blk ⟨v, 1024, l, false, false⟩] := by
  have ev : IntKind.u8.wrap v = v := wrap8 (by omega) (by omega)
  refine ACalls.code tabOk h44 Try.func44 Try.call44 ok44 ?_
  conv => whnf
  refine ACalls.code tabOk h68 Try.func68 Try.call68 ok68 ?_
  conv => whnf
  refine ALoop.run 5 ?_
  conv => whnf
  refine Bif.knF ?_ fun h0 => ?_
  · (simp; omega)
  rw [h0]
  conv => whnf
  refine Bif.knF ?_ fun h1 => ?_
  · (simp; omega)
  rw [h1]
  conv => whnf
  refine Bif.knF ?_ fun h2 => ?_
  · (simp; omega)
  rw [h2]
  conv => whnf
  refine Bif.knF ?_ fun h3 => ?_
  · (simp; omega)
  rw [h3]
  conv => whnf
  (rw [ev]; exact ⟨rfl, rfl⟩)

theorem timer_set (v0 iv0 l0 : Int) (fa0 fl0 : Bool) (v iv l : Int) (fa fl : Bool) (h : TM.ok ⟨v, iv, l, fa, fl⟩) : ACalls Try.prog 44 [.pointer (some ⟨0, 0, none⟩), .agg #[.int .i64 v, .int .i64 iv, .int .i64 l, .int .i64 (one01 fa), .int .i64 (one01 fl)]] [.cells [.int .u8 v0, .int .i64 iv0, .int .i64 l0, .bool fa0, .bool fl0] 104] fun r H => r = .int .i64 0 ∧ H = [TM.blk ⟨v, iv, l, fa, fl⟩] := by
  obtain ⟨h1, h2, h3⟩ := h
  dsimp only at h1 h2 h3
  rcases h2 with rfl | rfl | rfl | rfl <;> cases fa <;> cases fl
  · exact timer_set_1_false_false v0 iv0 l0 fa0 fl0 v l h1 h3
  · exact timer_set_1_false_true v0 iv0 l0 fa0 fl0 v l h1 h3
  · exact timer_set_1_true_false v0 iv0 l0 fa0 fl0 v l h1 h3
  · exact timer_set_1_true_true v0 iv0 l0 fa0 fl0 v l h1 h3
  · exact timer_set_8_false_false v0 iv0 l0 fa0 fl0 v l h1 h3
  · exact timer_set_8_false_true v0 iv0 l0 fa0 fl0 v l h1 h3
  · exact timer_set_8_true_false v0 iv0 l0 fa0 fl0 v l h1 h3
  · exact timer_set_8_true_true v0 iv0 l0 fa0 fl0 v l h1 h3
  · exact timer_set_64_false_false v0 iv0 l0 fa0 fl0 v l h1 h3
  · exact timer_set_64_false_true v0 iv0 l0 fa0 fl0 v l h1 h3
  · exact timer_set_64_true_false v0 iv0 l0 fa0 fl0 v l h1 h3
  · exact timer_set_64_true_true v0 iv0 l0 fa0 fl0 v l h1 h3
  · exact timer_set_1024_false_false v0 iv0 l0 fa0 fl0 v l h1 h3
  · exact timer_set_1024_false_true v0 iv0 l0 fa0 fl0 v l h1 h3
  · exact timer_set_1024_true_false v0 iv0 l0 fa0 fl0 v l h1 h3
  · exact timer_set_1024_true_true v0 iv0 l0 fa0 fl0 v l h1 h3

abbrev tactKs : List CK := [.int .i64, .int .u16, .int .u8, .int .i64, .int .i64, .int .i64, .int .i64, .int .i64, .int .i64]
theorem tact_cells {cs : List Value} (h : FitsAll tactKs cs) : ∃ k cy v n w0 w1 w2 w3 w4 : Int, cs = [.int .i64 k, .int .u16 cy, .int .u8 v, .int .i64 n, .int .i64 w0, .int .i64 w1, .int .i64 w2, .int .i64 w3, .int .i64 w4] ∧ (0 ≤ cy ∧ cy ≤ 65535) ∧ (0 ≤ v ∧ v ≤ 255) := by
  obtain ⟨k, _, rfl, _, h⟩ := fits_int h
  obtain ⟨cy, _, rfl, b0, h⟩ := fits_int h
  obtain ⟨v, _, rfl, b1, h⟩ := fits_int h
  obtain ⟨n, _, rfl, _, h⟩ := fits_int h
  obtain ⟨w0, _, rfl, _, h⟩ := fits_int h
  obtain ⟨w1, _, rfl, _, h⟩ := fits_int h
  obtain ⟨w2, _, rfl, _, h⟩ := fits_int h
  obtain ⟨w3, _, rfl, _, h⟩ := fits_int h
  obtain ⟨w4, _, rfl, _, h⟩ := fits_int h
  obtain rfl := fits_nil h
  exact ⟨k, cy, v, n, w0, w1, w2, w3, w4, rfl, wf_u16 b0, wf_u8 b1⟩

theorem walk_TimerWords (cyc : Int) (wc : (Lit.int .u16 cyc).wf = true) (off len cap : Nat) (hl : len ≤ maxLen) (E : Nat → List Value) (hE : ∀ i, i < len → FitsAll tactKs (E i)) :
    ACalls Try.prog 9 [.slice (some ⟨0, off, none⟩) len cap, .int .u16 cyc] [.ro (slc off 9 len E)] fun v _ => v = .bool true := by
  have hcyc := wf_u16 wc
  have hcy2 : (IntKind.i64.wrap cyc).tmod 3000 ≤ 9223372036854775807 := by rw [wrap64 (n := cyc) (by omega) (by omega), Int.tmod_eq_emod_of_nonneg hcyc.1]; omega
  refine ACalls.code tabOk h9 Try.func9 Try.call9 ok9 ?_
  conv => whnf
  refine Bif.of (fun h60 => ?_) fun h60 => ?_
  · conv => whnf
    refine ⟨rfl, ?_⟩
    conv => whnf
  have hl : len ≤ 20 := by simp at h60; omega
  conv => whnf
  refine ACalls.useE (timer_new) [] rfl (by (conv => whnf); try rfl) (by (conv => whnf); try rfl) ?_
  conv => whnf
  refine ACalls.useE (timer_new) [] rfl (by (conv => whnf); try rfl) (by (conv => whnf); try rfl) ?_
  conv => whnf
  refine ALoop.fd (σ := Nat × TM) (fun s => [.slice (some ⟨0, off, none⟩) len cap, .int .u16 cyc, .chan none, .chan none, .bool false, .pointer (some ⟨1, 0, none⟩), .pointer (some ⟨2, 0, none⟩), .int .i64 s.1, .chan none, .chan none, .chan none, .chan none, .chan none, .chan none, .chan none, .chan none, .chan none, .chan none, .chan none, .chan none, .chan none, .chan none, .chan none, .chan none, .chan none, .chan none, .chan none, .chan none, .chan none, .chan none, .chan none, .chan none, .chan none, .chan none, .chan none, .chan none, .chan none, .chan none, .chan none, .chan none, .chan none, .chan none, .chan none, .chan none, .chan none, .chan none, .chan none, .chan none, .chan none, .chan none, .chan none, .chan none, .chan none, .chan none, .chan none, .chan none, .chan none, .chan none, .chan none, .chan none, .chan none, .chan none, .chan none, .chan none, .chan none, .chan none, .chan none, .chan none, .chan none, .chan none, .chan none, .chan none, .chan none, .chan none, .chan none, .chan none, .chan none, .chan none, .chan none, .chan none, .chan none, .chan none, .chan none, .chan none, .chan none, .chan none, .chan none, .chan none, .chan none, .chan none, .chan none, .chan none, .chan none, .chan none, .chan none, .chan none, .chan none, .chan none]) (fun s => [.ro (slc off 9 len E), s.2.blk, TM.blk ⟨255, 1024, 1, false, false⟩])
    (fun s => s.1 ≤ len ∧ s.2.ok) (fun s => len - s.1) (0, ⟨255, 1024, 1, false, false⟩) [] rfl rfl ⟨Nat.zero_le _, TM.new_ok⟩ (fun _ => ⟨rfl, rfl, rfl, rfl⟩) ?_
  rintro s ⟨hi, hok⟩ R hR
  have e2 : IntKind.i64.wrap ((s.1 : Int) + 1) = ((s.1 + 1 : Nat) : Int) := by rw [wrap64 (by omega) (by omega)]; rfl
  conv => whnf
  refine Bif.of (fun h0 => ?_) fun h0 => ?_
  · have hlt : s.1 < len := by simp at h0; omega
    obtain ⟨k, cy, v, n, w0, w1, w2, w3, w4, hEi, b0, b1⟩ := tact_cells (hE s.1 hlt)
    have hcy : (IntKind.i64.wrap cy).tmod 3000 ≤ 9223372036854775807 := by rw [wrap64 (n := cy) (by omega) (by omega), Int.tmod_eq_emod_of_nonneg b0.1]; omega
    conv => whnf
    refine Req.of ?_ ?_
    · (clear hR; simp; omega)
    conv => whnf
    refine slc_ex s.1 0 hlt (by decide) (by rw [hEi]; rfl) (by first | omega | (simp; done)) ?_
    conv => whnf
    refine Bif.of (fun h0 => ?_) fun h0 => ?_
    · rw [h0]
      conv => whnf
      refine Req.of ?_ ?_
      · (clear hR; simp; omega)
      conv => whnf
      refine slc_ex s.1 1 hlt (by decide) (by rw [hEi]; rfl) (by first | omega | (simp; done)) ?_
      conv => whnf
      refine ACalls.useE (timer_ticked _ _ _ _ _ _ ?_) [1] rfl (by (conv => whnf); try rfl) (by (conv => whnf); try rfl) ?_
      · omega
      conv => whnf
      (rw [e2]; exact hR (s.1 + 1, TM.ticks ((IntKind.i64.wrap cy).tmod 3000).toNat s.2) _ _ _ rfl rfl ⟨hlt, TM.ticks_ok hok _⟩ (by show len - (s.1 + 1) < len - s.1; omega))
    · rw [h0]
      conv => whnf
      refine Bif.of (fun h1 => ?_) fun h1 => ?_
      · rw [h1]
        conv => whnf
        refine ACalls.useE (timer_read _ _ _ _ _) [1] rfl (by (conv => whnf); try rfl) (by (conv => whnf); try rfl) ?_
        conv => whnf
        (rw [e2]; exact hR (s.1 + 1, s.2.read) _ _ _ rfl rfl ⟨hlt, TM.read_ok hok⟩ (by show len - (s.1 + 1) < len - s.1; omega))
      · rw [h1]
        conv => whnf
        refine Bif.of (fun h2 => ?_) fun h2 => ?_
        · rw [h2]
          conv => whnf
          refine Req.of ?_ ?_
          · (clear hR; simp; omega)
          conv => whnf
          refine slc_ex s.1 2 hlt (by decide) (by rw [hEi]; rfl) (by first | omega | (simp; done)) ?_
          conv => whnf
          refine Req.of ?_ ?_
          · (clear hR; simp; omega)
          conv => whnf
          refine slc_ex s.1 3 hlt (by decide) (by rw [hEi]; rfl) (by first | omega | (simp; done)) ?_
          conv => whnf
          refine ACalls.useE (timer_write _ _ _ _ _ _ _) [1] rfl (by (conv => whnf); try rfl) (by (conv => whnf); try rfl) ?_
          conv => whnf
          (rw [e2]; exact hR (s.1 + 1, ⟨v, ivl n, 1, false, false⟩) _ _ _ rfl rfl ⟨hlt, TM.write_ok b1⟩ (by show len - (s.1 + 1) < len - s.1; omega))
        · rw [h2]
          conv => whnf
          (rw [e2]; exact hR (s.1 + 1, s.2) _ _ _ rfl rfl ⟨hlt, hok⟩ (by show len - (s.1 + 1) < len - s.1; omega))
  · have hk := TM.ticks_ok hok ((IntKind.i64.wrap cyc).tmod 3000).toNat
    conv => whnf
    clear hR
    refine ACalls.useE (timer_words _ _ _ _ _ ?_) [1] rfl (by (conv => whnf); try rfl) (by (conv => whnf); try rfl) ?_
    · exact hok.1
    conv => whnf
    refine ACalls.useE (timer_set _ _ _ _ _ _ _ _ _ _ ?_) [2] rfl (by (conv => whnf); try rfl) (by (conv => whnf); try rfl) ?_
    · omega
    conv => whnf
    refine ACalls.useE (timer_copy _ _ _ _ _) [1] rfl (by (conv => whnf); try rfl) (by (conv => whnf); try rfl) ?_
    conv => whnf
    refine ACalls.useE (timer_ticked _ _ _ _ _ _ ?_) [1] rfl (by (conv => whnf); try rfl) (by (conv => whnf); try rfl) ?_
    · omega
    conv => whnf
    refine ACalls.useE (timer_ticked _ _ _ _ _ _ ?_) [2] rfl (by (conv => whnf); try rfl) (by (conv => whnf); try rfl) ?_
    · omega
    conv => whnf
    refine ACalls.useE (timer_words _ _ _ _ _ ?_) [3] rfl (by (conv => whnf); try rfl) (by (conv => whnf); try rfl) ?_
    · exact hok.1
    conv => whnf
    refine ACalls.useE (timer_words _ _ _ _ _ ?_) [1] rfl (by (conv => whnf); try rfl) (by (conv => whnf); try rfl) ?_
    · exact hk.1
    conv => whnf
    refine ACalls.useE (timer_words _ _ _ _ _ ?_) [2] rfl (by (conv => whnf); try rfl) (by (conv => whnf); try rfl) ?_
    · exact hk.1
    conv => whnf
    refine Bif.knT ?_ fun h0 => ?_
    · (simp; done)
    rw [h0]
    conv => whnf
    refine ACalls.useE (timer_read _ _ _ _ _) [1] rfl (by (conv => whnf); try rfl) (by (conv => whnf); try rfl) ?_
    conv => whnf
    refine ACalls.useE (timer_read _ _ _ _ _) [2] rfl (by (conv => whnf); try rfl) (by (conv => whnf); try rfl) ?_
    conv => whnf
    refine Bif.knT ?_ fun h1 => ?_
    · (simp; done)
    rw [h1]
    conv => whnf
    refine ACalls.useE (timer_words _ _ _ _ _ ?_) [3] rfl (by (conv => whnf); try rfl) (by (conv => whnf); try rfl) ?_
    · exact hok.1
    conv => whnf
    refine ⟨rfl, ?_⟩
    conv => whnf
    refine Bif.knT ?_ fun h2 => ?_
    · (simp; done)
    rw [h2]
    conv => whnf
    refine ACalls.useE (awake06) [] rfl (by (conv => whnf); try rfl) (by (conv => whnf); try rfl) ?_
    conv => whnf
    refine ⟨rfl, ?_⟩
    conv => whnf
    refine ⟨rfl, ?_⟩
    conv => whnf
theorem walk_TimerWords_nil (cyc : Int) (wc : (Lit.int .u16 cyc).wf = true) :
    ACalls Try.prog 9 [.slice none 0 0, .int .u16 cyc] [] fun v _ => v = .bool true := by
  have hcyc := wf_u16 wc
  have hcy2 : (IntKind.i64.wrap cyc).tmod 3000 ≤ 9223372036854775807 := by rw [wrap64 (n := cyc) (by omega) (by omega), Int.tmod_eq_emod_of_nonneg hcyc.1]; omega
  have hok := TM.new_ok
  have hk := TM.ticks_ok hok ((IntKind.i64.wrap cyc).tmod 3000).toNat
  refine ACalls.code tabOk h9 Try.func9 Try.call9 ok9 ?_
  conv => whnf
  refine ACalls.useE (timer_new) [] rfl (by (conv => whnf); try rfl) (by (conv => whnf); try rfl) ?_
  conv => whnf
  refine ACalls.useE (timer_new) [] rfl (by (conv => whnf); try rfl) (by (conv => whnf); try rfl) ?_
  conv => whnf
  refine ALoop.run 1 ?_
  conv => whnf
  refine ACalls.useE (timer_words _ _ _ _ _ ?_) [0] rfl (by (conv => whnf); try rfl) (by (conv => whnf); try rfl) ?_
  · decide
  conv => whnf
  refine ACalls.useE (timer_set _ _ _ _ _ _ _ _ _ _ ?_) [1] rfl (by (conv => whnf); try rfl) (by (conv => whnf); try rfl) ?_
  · omega
  conv => whnf
  refine ACalls.useE (timer_copy _ _ _ _ _) [0] rfl (by (conv => whnf); try rfl) (by (conv => whnf); try rfl) ?_
  conv => whnf
  refine ACalls.useE (timer_ticked _ _ _ _ _ _ ?_) [0] rfl (by (conv => whnf); try rfl) (by (conv => whnf); try rfl) ?_
  · omega
  conv => whnf
  refine ACalls.useE (timer_ticked _ _ _ _ _ _ ?_) [1] rfl (by (conv => whnf); try rfl) (by (conv => whnf); try rfl) ?_
  · omega
  conv => whnf
  refine ACalls.useE (timer_words _ _ _ _ _ ?_) [2] rfl (by (conv => whnf); try rfl) (by (conv => whnf); try rfl) ?_
  · decide
  conv => whnf
  refine ACalls.useE (timer_words _ _ _ _ _ ?_) [0] rfl (by (conv => whnf); try rfl) (by (conv => whnf); try rfl) ?_
  · exact hk.1
  conv => whnf
  refine ACalls.useE (timer_words _ _ _ _ _ ?_) [1] rfl (by (conv => whnf); try rfl) (by (conv => whnf); try rfl) ?_
  · exact hk.1
  conv => whnf
  refine Bif.knT ?_ fun h0 => ?_
  · (simp; done)
  rw [h0]
  conv => whnf
  refine ACalls.useE (timer_read _ _ _ _ _) [0] rfl (by (conv => whnf); try rfl) (by (conv => whnf); try rfl) ?_
  conv => whnf
  refine ACalls.useE (timer_read _ _ _ _ _) [1] rfl (by (conv => whnf); try rfl) (by (conv => whnf); try rfl) ?_
  conv => whnf
  refine Bif.knT ?_ fun h1 => ?_
  · (simp; done)
  rw [h1]
  conv => whnf
  refine ACalls.useE (timer_words _ _ _ _ _ ?_) [2] rfl (by (conv => whnf); try rfl) (by (conv => whnf); try rfl) ?_
  · decide
  conv => whnf
  refine ⟨rfl, ?_⟩
  conv => whnf
  refine ACalls.useE (awake06) [] rfl (by (conv => whnf); try rfl) (by (conv => whnf); try rfl) ?_
  conv => whnf
  refine ⟨rfl, ?_⟩
  conv => whnf
end Go.Proofs
