/-
  Walks through the functions of the program, by contract.
-/
import Derived.Test.YtfnhfbimokkjiaaBaseE
import Derived.Test.YtfnhfbimokkjiaaCore20
set_option linter.all false
set_option linter.unusedVariables false
set_option linter.unusedSimpArgs false
set_option linter.unnecessarySimpa false
namespace Go.Proofs
open Go.Aw
set_option maxRecDepth 100000
set_option maxHeartbeats 2000000

/-- Paddles and buttons. -/
structure PS where
  v0 : Int
  v1 : Int
  v2 : Int
  v3 : Int
  ch : Int
  du : Bool
  h0 : Bool
  l0 : Bool
  h1 : Bool
  l1 : Bool
  la : Bool
/-- Is a byte's top bit set? -/
@[irreducible] def top (v : Int) : Bool := bits .and .u8 v 128 != 0
theorem top_eq (v : Int) (h : 0 ≤ v ∧ v ≤ 255) : top v = decide (128 ≤ v) := by unfold top; exact and128u v h
def PS.blk (s : PS) : Blk := .cells [.int .u8 s.v0, .int .u8 s.v1, .int .u8 s.v2, .int .u8 s.v3, .int .i64 s.ch, .bool s.du, .bool s.h0, .bool s.l0, .bool s.h1, .bool s.l1, .bool s.la] 58
def PS.see (s : PS) : PS := { s with l0 := !s.la || (s.l0 && s.h0), l1 := !s.la || (s.l1 && s.h1) }
def PS.inp (s : PS) (n v : Int) : PS :=
  if n = 0 then { s with v0 := v } else if n = 1 then { s with v1 := v } else if n = 2 then { s with v2 := v } else if n = 3 then { s with v3 := v }
  else if n = 4 then PS.see { s with h0 := top v } else if n = 5 then PS.see { s with h1 := top v } else s
def PS.high (s : PS) (n : Int) : Bool :=
  if n = 0 then !s.du && decide (s.ch > IntKind.i64.wrap s.v0) else if n = 1 then !s.du && decide (s.ch > IntKind.i64.wrap s.v1) else if n = 2 then !s.du && decide (s.ch > IntKind.i64.wrap s.v2) else if n = 3 then !s.du && decide (s.ch > IntKind.i64.wrap s.v3)
  else if n = 4 then (if s.la then s.l0 else s.h0) else if n = 5 then (if s.la then s.l1 else s.h1) else false
def PS.latch (s : PS) (on : Bool) : PS := PS.see { s with la := on }
def PS.line (s : PS) : PS := if s.du then s else { s with ch := if 511 < IntKind.i64.wrap (s.ch + 1) then 511 else IntKind.i64.wrap (s.ch + 1) }
def PS.dump (s : PS) (on : Bool) : PS := { s with du := on, ch := if on then 0 else s.ch }

theorem pot_see (v0 v1 v2 v3 ch : Int) (du h0 l0 h1 l1 la : Bool) : ACalls Try.prog 26 [.pointer (some ⟨0, 0, none⟩)] [.cells [.int .u8 v0, .int .u8 v1, .int .u8 v2, .int .u8 v3, .int .i64 ch, .bool du, .bool h0, .bool l0, .bool h1, .bool l1, .bool la] 58]
    fun r H => r = .tuple #[] ∧ H = [.cells [.int .u8 v0, .int .u8 v1, .int .u8 v2, .int .u8 v3, .int .i64 ch, .bool du, .bool h0, .bool (!la || (l0 && h0)), .bool h1, .bool (!la || (l1 && h1)), .bool la] 58] := by
  refine ACalls.code tabOk h26 Try.func26 Try.call26 ok26 ?_
  conv => whnf
  refine ALoop.run 9 ?_
  conv => whnf
  cases la <;> cases l0 <;> cases l1 <;> (conv => whnf) <;> exact ⟨rfl, rfl⟩

-- pot cells
theorem pot_in (v0 v1 v2 v3 ch : Int) (du h0 l0 h1 l1 la : Bool) (n v : Int) : ACalls Try.prog 8 [.pointer (some ⟨0, 0, none⟩), .int .i64 n, .int .u8 v] [.cells [.int .u8 v0, .int .u8 v1, .int .u8 v2, .int .u8 v3, .int .i64 ch, .bool du, .bool h0, .bool l0, .bool h1, .bool l1, .bool la] 58]
    fun r H => r = .tuple #[] ∧ H = [(PS.inp ⟨v0, v1, v2, v3, ch, du, h0, l0, h1, l1, la⟩ n v).blk] := by
  have hb : (bits .and .u8 v 128 != 0) = top v := by unfold top; rfl
  have hn : n < 0 ∨ n = 0 ∨ n = 1 ∨ n = 2 ∨ n = 3 ∨ n = 4 ∨ n = 5 ∨ 6 ≤ n := by omega
  rcases hn with hn | rfl | rfl | rfl | rfl | rfl | rfl | hn
  · have e : PS.inp ⟨v0, v1, v2, v3, ch, du, h0, l0, h1, l1, la⟩ n v = ⟨v0, v1, v2, v3, ch, du, h0, l0, h1, l1, la⟩ := by
      unfold PS.inp; rw [if_neg (by omega), if_neg (by omega), if_neg (by omega), if_neg (by omega), if_neg (by omega), if_neg (by omega)]
    rw [e]
    refine ACalls.code tabOk h8 Try.func8 Try.call8 ok8 ?_
    conv => whnf
    refine Bif.knT ?_ fun h0 => ?_
    · (simp_all; done)
    rw [h0]
    conv => whnf
    exact ⟨rfl, rfl⟩
  · refine ACalls.code tabOk h8 Try.func8 Try.call8 ok8 ?_
    conv => whnf
    exact ⟨rfl, rfl⟩
  · refine ACalls.code tabOk h8 Try.func8 Try.call8 ok8 ?_
    conv => whnf
    exact ⟨rfl, rfl⟩
  · refine ACalls.code tabOk h8 Try.func8 Try.call8 ok8 ?_
    conv => whnf
    exact ⟨rfl, rfl⟩
  · refine ACalls.code tabOk h8 Try.func8 Try.call8 ok8 ?_
    conv => whnf
    exact ⟨rfl, rfl⟩
  · refine ACalls.code tabOk h8 Try.func8 Try.call8 ok8 ?_
    conv => whnf
    refine ACalls.useE (pot_see _ _ _ _ _ _ _ _ _ _ _) [0] rfl (by (conv => whnf); try rfl) (by (conv => whnf); try rfl) ?_
    conv => whnf
    (rw [hb]; exact ⟨rfl, rfl⟩)
  · refine ACalls.code tabOk h8 Try.func8 Try.call8 ok8 ?_
    conv => whnf
    refine ACalls.useE (pot_see _ _ _ _ _ _ _ _ _ _ _) [0] rfl (by (conv => whnf); try rfl) (by (conv => whnf); try rfl) ?_
    conv => whnf
    (rw [hb]; exact ⟨rfl, rfl⟩)
  · have e : PS.inp ⟨v0, v1, v2, v3, ch, du, h0, l0, h1, l1, la⟩ n v = ⟨v0, v1, v2, v3, ch, du, h0, l0, h1, l1, la⟩ := by
      unfold PS.inp; rw [if_neg (by omega), if_neg (by omega), if_neg (by omega), if_neg (by omega), if_neg (by omega), if_neg (by omega)]
    rw [e]
    refine ACalls.code tabOk h8 Try.func8 Try.call8 ok8 ?_
    conv => whnf
    refine Bif.knF ?_ fun h0 => ?_
    · (simp_all; omega)
    rw [h0]
    conv => whnf
    refine Bif.knT ?_ fun h1 => ?_
    · (simp_all; done)
    rw [h1]
    conv => whnf
    exact ⟨rfl, rfl⟩

theorem pot_high (v0 v1 v2 v3 ch : Int) (du h0 l0 h1 l1 la : Bool) (n : Int) : ACalls Try.prog 11 [.pointer (some ⟨0, 0, none⟩), .int .i64 n] [.cells [.int .u8 v0, .int .u8 v1, .int .u8 v2, .int .u8 v3, .int .i64 ch, .bool du, .bool h0, .bool l0, .bool h1, .bool l1, .bool la] 58]
    fun r H => r = .bool (PS.high ⟨v0, v1, v2, v3, ch, du, h0, l0, h1, l1, la⟩ n) ∧ H = [.cells [.int .u8 v0, .int .u8 v1, .int .u8 v2, .int .u8 v3, .int .i64 ch, .bool du, .bool h0, .bool l0, .bool h1, .bool l1, .bool la] 58] := by
  have hn : n < 0 ∨ n = 0 ∨ n = 1 ∨ n = 2 ∨ n = 3 ∨ n = 4 ∨ n = 5 ∨ 6 ≤ n := by omega
  rcases hn with hn | rfl | rfl | rfl | rfl | rfl | rfl | hn
  · have e : PS.high ⟨v0, v1, v2, v3, ch, du, h0, l0, h1, l1, la⟩ n = false := by
      unfold PS.high; rw [if_neg (by omega), if_neg (by omega), if_neg (by omega), if_neg (by omega), if_neg (by omega), if_neg (by omega)]
    rw [e]
    refine ACalls.code tabOk h11 Try.func11 Try.call11 ok11 ?_
    conv => whnf
    refine Bif.knT ?_ fun h0 => ?_
    · (simp_all; done)
    rw [h0]
    conv => whnf
    exact ⟨rfl, rfl⟩
  · cases du <;> refine ACalls.code tabOk h11 Try.func11 Try.call11 ok11 ?_ <;> (conv => whnf)
    · exact ⟨rfl, rfl⟩
    · exact ⟨rfl, rfl⟩
  · cases du <;> refine ACalls.code tabOk h11 Try.func11 Try.call11 ok11 ?_ <;> (conv => whnf)
    · exact ⟨rfl, rfl⟩
    · exact ⟨rfl, rfl⟩
  · cases du <;> refine ACalls.code tabOk h11 Try.func11 Try.call11 ok11 ?_ <;> (conv => whnf)
    · exact ⟨rfl, rfl⟩
    · exact ⟨rfl, rfl⟩
  · cases du <;> refine ACalls.code tabOk h11 Try.func11 Try.call11 ok11 ?_ <;> (conv => whnf)
    · exact ⟨rfl, rfl⟩
    · exact ⟨rfl, rfl⟩
  · cases la <;> refine ACalls.code tabOk h11 Try.func11 Try.call11 ok11 ?_ <;> (conv => whnf)
    · exact ⟨rfl, rfl⟩
    · exact ⟨rfl, rfl⟩
  · cases la <;> refine ACalls.code tabOk h11 Try.func11 Try.call11 ok11 ?_ <;> (conv => whnf)
    · exact ⟨rfl, rfl⟩
    · exact ⟨rfl, rfl⟩
  · have e : PS.high ⟨v0, v1, v2, v3, ch, du, h0, l0, h1, l1, la⟩ n = false := by
      unfold PS.high; rw [if_neg (by omega), if_neg (by omega), if_neg (by omega), if_neg (by omega), if_neg (by omega), if_neg (by omega)]
    rw [e]
    refine ACalls.code tabOk h11 Try.func11 Try.call11 ok11 ?_
    conv => whnf
    refine Bif.knF ?_ fun h0 => ?_
    · (simp_all; omega)
    rw [h0]
    conv => whnf
    refine Bif.knT ?_ fun h1 => ?_
    · (simp_all; done)
    rw [h1]
    conv => whnf
    exact ⟨rfl, rfl⟩

theorem pot_latch (v0 v1 v2 v3 ch : Int) (du h0 l0 h1 l1 la : Bool) (on : Bool) : ACalls Try.prog 13 [.pointer (some ⟨0, 0, none⟩), .bool on] [.cells [.int .u8 v0, .int .u8 v1, .int .u8 v2, .int .u8 v3, .int .i64 ch, .bool du, .bool h0, .bool l0, .bool h1, .bool l1, .bool la] 58]
    fun r H => r = .tuple #[] ∧ H = [(PS.latch ⟨v0, v1, v2, v3, ch, du, h0, l0, h1, l1, la⟩ on).blk] := by
  refine ACalls.code tabOk h13 Try.func13 Try.call13 ok13 ?_
  conv => whnf
  refine ACalls.useE (pot_see _ _ _ _ _ _ _ _ _ _ _) [0] rfl (by (conv => whnf); try rfl) (by (conv => whnf); try rfl) ?_
  conv => whnf
  exact ⟨rfl, rfl⟩

theorem pot_dump (v0 v1 v2 v3 ch : Int) (du h0 l0 h1 l1 la : Bool) (on : Bool) : ACalls Try.prog 9 [.pointer (some ⟨0, 0, none⟩), .bool on] [.cells [.int .u8 v0, .int .u8 v1, .int .u8 v2, .int .u8 v3, .int .i64 ch, .bool du, .bool h0, .bool l0, .bool h1, .bool l1, .bool la] 58]
    fun r H => r = .tuple #[] ∧ H = [(PS.dump ⟨v0, v1, v2, v3, ch, du, h0, l0, h1, l1, la⟩ on).blk] := by
  cases on <;> refine ACalls.code tabOk h9 Try.func9 Try.call9 ok9 ?_ <;> (conv => whnf)
  · exact ⟨rfl, rfl⟩
  · exact ⟨rfl, rfl⟩

theorem pot_line (v0 v1 v2 v3 ch : Int) (du h0 l0 h1 l1 la : Bool) : ACalls Try.prog 10 [.pointer (some ⟨0, 0, none⟩)] [.cells [.int .u8 v0, .int .u8 v1, .int .u8 v2, .int .u8 v3, .int .i64 ch, .bool du, .bool h0, .bool l0, .bool h1, .bool l1, .bool la] 58]
    fun r H => r = .tuple #[] ∧ H = [(PS.line ⟨v0, v1, v2, v3, ch, du, h0, l0, h1, l1, la⟩).blk] := by
  cases du <;> refine ACalls.code tabOk h10 Try.func10 Try.call10 ok10 ?_ <;> (conv => whnf)
  · exact ⟨rfl, rfl⟩
  · exact ⟨rfl, rfl⟩
end Go.Proofs
