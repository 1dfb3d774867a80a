/-
  Walks through the functions of the program, by contract.
-/
import Derived.Test.YtbngapokpmifnaaBaseA
import Derived.Test.YtbngapokpmifnaaCore20
set_option linter.all false
set_option linter.unusedVariables false
set_option linter.unusedSimpArgs false
set_option linter.unnecessarySimpa false
set_option linter.all false
set_option linter.unusedVariables false
set_option linter.unusedSimpArgs false
set_option linter.unnecessarySimpa false
namespace Go.Proofs
open Go.Aw
set_option maxRecDepth 100000
set_option maxHeartbeats 2000000

/-- A timer. -/
structure TM where
  v : Int
  iv : Int
  l : Int
  fa : Bool
  fl : Bool
def TM.blk (s : TM) : Blk := .cells [.int .u8 s.v, .int .i64 s.iv, .int .i64 s.l, .bool s.fa, .bool s.fl] 104
def TM.tick (s : TM) : TM :=
  if s.fa = true then ⟨IntKind.u8.wrap (s.v - 1), s.iv, s.iv, s.fa, s.fl⟩
  else if IntKind.i64.wrap (s.l - 1) > 0 then ⟨s.v, s.iv, IntKind.i64.wrap (s.l - 1), s.fa, s.fl⟩
  else if s.v = 0 then ⟨IntKind.u8.wrap (s.v - 1), s.iv, s.iv, true, true⟩
  else ⟨IntKind.u8.wrap (s.v - 1), s.iv, s.iv, s.fa, s.fl⟩
def TM.ticks : Nat → TM → TM
  | 0, s => s
  | n + 1, s => (TM.ticks n s).tick
def ivl (n : Int) : Int := if n % 4 = 0 then 1 else if n % 4 = 1 then 8 else if n % 4 = 2 then 64 else 1024

theorem timer_write (v0 iv0 l0 : Int) (fa0 fl0 : Bool) (v n : Int) : ACalls Try.prog 37 [.pointer (some ⟨0, 0, none⟩), .int .u8 v, .int .i64 n] [.cells [.int .u8 v0, .int .i64 iv0, .int .i64 l0, .bool fa0, .bool fl0] 104]
    fun r H => r = .tuple #[] ∧ H = [TM.blk ⟨v, ivl n, 1, false, false⟩] := by
  have h : n % 4 = 0 ∨ n % 4 = 1 ∨ n % 4 = 2 ∨ n % 4 = 3 := by omega
  rcases h with h | h | h | h
  · have e : bits .and .i64 n 3 = 0 := by rw [and3, h]
    have e2 : ivl n = 1 := by simp [ivl, h]
    rw [e2]
    refine ACalls.code tabOk h37 Try.func37 Try.call37 ok37 ?_
    conv => whnf
    refine ACalls.code tabOk h68 Try.func68 Try.call68 ok68 ?_
    conv => whnf
    rw [e]
    conv => whnf
    exact ⟨rfl, rfl⟩
  · have e : bits .and .i64 n 3 = 1 := by rw [and3, h]
    have e2 : ivl n = 8 := by simp [ivl, h]
    rw [e2]
    refine ACalls.code tabOk h37 Try.func37 Try.call37 ok37 ?_
    conv => whnf
    refine ACalls.code tabOk h68 Try.func68 Try.call68 ok68 ?_
    conv => whnf
    rw [e]
    conv => whnf
    exact ⟨rfl, rfl⟩
  · have e : bits .and .i64 n 3 = 2 := by rw [and3, h]
    have e2 : ivl n = 64 := by simp [ivl, h]
    rw [e2]
    refine ACalls.code tabOk h37 Try.func37 Try.call37 ok37 ?_
    conv => whnf
    refine ACalls.code tabOk h68 Try.func68 Try.call68 ok68 ?_
    conv => whnf
    rw [e]
    conv => whnf
    exact ⟨rfl, rfl⟩
  · have e : bits .and .i64 n 3 = 3 := by rw [and3, h]
    have e2 : ivl n = 1024 := by simp [ivl, h]
    rw [e2]
    refine ACalls.code tabOk h37 Try.func37 Try.call37 ok37 ?_
    conv => whnf
    refine ACalls.code tabOk h68 Try.func68 Try.call68 ok68 ?_
    conv => whnf
    rw [e]
    conv => whnf
    exact ⟨rfl, rfl⟩

theorem timer_tick (v iv l : Int) (fa fl : Bool) : ACalls Try.prog 47 [.pointer (some ⟨0, 0, none⟩)] [.cells [.int .u8 v, .int .i64 iv, .int .i64 l, .bool fa, .bool fl] 104] fun r H => r = .tuple #[] ∧ H = [(TM.tick ⟨v, iv, l, fa, fl⟩).blk] := by
  refine ACalls.code tabOk h47 Try.func47 Try.call47 ok47 ?_
  conv => whnf
  refine Bif.of (fun h0 => ?_) fun h0 => ?_
  · rw [h0]
    conv => whnf
    exact ⟨rfl, rfl⟩
  · rw [h0]
    conv => whnf
    refine Bif.of (fun h1 => ?_) fun h1 => ?_
    · rw [h1]
      conv => whnf
      (simp only [decide_eq_true_eq, decide_eq_false_iff_not, beq_iff_eq, beq_eq_false_iff_ne, ne_eq] at *; simp [TM.blk, TM.tick, *]; done)
    · rw [h1]
      conv => whnf
      refine Bif.of (fun h2 => ?_) fun h2 => ?_
      · rw [h2]
        conv => whnf
        (simp only [decide_eq_true_eq, decide_eq_false_iff_not, beq_iff_eq, beq_eq_false_iff_ne, ne_eq] at *; simp [TM.blk, TM.tick, *]; done)
      · rw [h2]
        conv => whnf
        (simp only [decide_eq_true_eq, decide_eq_false_iff_not, beq_iff_eq, beq_eq_false_iff_ne, ne_eq] at *; simp [TM.blk, TM.tick, *]; done)

theorem timer_new : ACalls Try.prog 36 [] [] fun r H => r = .pointer (some ⟨0, 0, none⟩) ∧ H = [TM.blk ⟨255, 1024, 1, false, false⟩] := by
  refine ACalls.codeN tabOk h36 Try.func36 Try.call36 ok36 [0] ?_
  conv => whnf
  refine ACalls.useE (timer_write _ _ _ _ _ _ _) [0] rfl (by (conv => whnf); try rfl) (by (conv => whnf); try rfl) ?_
  conv => whnf
  exact ⟨rfl, rfl⟩

theorem timer_ticked (v iv l : Int) (fa fl : Bool) (n : Int) (hn : n ≤ 9223372036854775807) :
    ACalls Try.prog 38 [.pointer (some ⟨0, 0, none⟩), .int .i64 n] [.cells [.int .u8 v, .int .i64 iv, .int .i64 l, .bool fa, .bool fl] 104] fun r H => r = .tuple #[] ∧ H = [(TM.ticks n.toNat ⟨v, iv, l, fa, fl⟩).blk] := by
  refine ACalls.code tabOk h38 Try.func38 Try.call38 ok38 ?_
  conv => whnf

  refine ALoop.go (fun i : Nat => [some (.pointer (some ⟨0, 0, none⟩)), some (.int .i64 n), none, none, some (.int .i64 i), none, none, none, none, none, none, none]) (fun i => [(TM.ticks i ⟨v, iv, l, fa, fl⟩).blk]) (fun i => i ≤ n.toNat) (fun i => n.toNat - i) 0 rfl rfl (by omega) (fun _ => rfl) ?_
  intro i hi x R hR
  conv => whnf
  refine Bif.of (fun h0 => ?_) fun h0 => ?_
  · rw [h0]
    conv => whnf
    refine ACalls.useE (timer_tick _ _ _ _ _) [0] rfl (by (conv => whnf); try rfl) (by (conv => whnf); try rfl) ?_
    conv => whnf
    (rw [show IntKind.i64.wrap ((i : Int) + 1) = ((i + 1 : Nat) : Int) by simp at h0; rw [wrap64 (by omega) (by omega)]; rfl]; exact hR (i + 1) _ _ rfl rfl (by simp at h0; omega) (by simp at h0; omega))
  · rw [h0]
    conv => whnf
    rw [show n.toNat = i by simp at h0; omega]
    conv => whnf
    exact ⟨rfl, rfl⟩
end Go.Proofs
