/-
  Walks through the functions of the program, by contract.
-/
import Derived.Test.YtlodkcpaoljdlaaTonecF
set_option linter.all false
set_option linter.unusedVariables false
set_option linter.unusedSimpArgs false
set_option linter.unnecessarySimpa false
namespace Go.Proofs
open Go.Aw
set_option maxRecDepth 100000
set_option maxHeartbeats 8000000
def it4 : Nat → Int
  | 0 => 0
  | n + 1 => nx8 4 1 (it4 n)
def it9 : Nat → Int
  | 0 => 0
  | n + 1 => nx16 9 4 (it9 n)
theorem it4_15 : it4 15 = 0 := by decide +kernel
theorem it9_511 : it9 511 = 0 := by decide +kernel
theorem it4_per : ∀ n, it4 (n + 15) = it4 n
  | 0 => by rw [Nat.zero_add, it4_15]; rfl
  | n + 1 => by
    rw [show n + 1 + 15 = n + 15 + 1 by omega]
    show nx8 4 1 (it4 (n + 15)) = nx8 4 1 (it4 n)
    rw [it4_per n]
theorem it9_per : ∀ n, it9 (n + 511) = it9 n
  | 0 => by rw [Nat.zero_add, it9_511]; rfl
  | n + 1 => by
    rw [show n + 1 + 511 = n + 511 + 1 by omega]
    show nx16 9 4 (it9 (n + 511)) = nx16 9 4 (it9 n)
    rw [it9_per n]
def vt0 : VT := ⟨0, 0, 0, 0, false⟩
theorem back4 (s : VT) : (VT.beats4 2 s).a = s.a ∧ (VT.beats4 2 s).d = s.d ∧ (VT.beats4 2 s).h = s.h := ⟨rfl, rfl, by show (!!s.h) = s.h; simp⟩
theorem back5 (s : VT) : (VT.beats5 2 s).a = s.a ∧ (VT.beats5 2 s).d = s.d ∧ (VT.beats5 2 s).h = s.h := ⟨rfl, rfl, by show (!!s.h) = s.h; simp⟩
def begun1 (s : VT) : Prop := ∃ b, s.a = it4 (b + 1) ∧ s.h = lb8 (it4 b)
def begun8 (s : VT) : Prop := ∃ b, s.d = it9 (b + 1) ∧ s.h = lb16 (it9 b)
theorem begun1_tick {L : Int} {s : VT} (h : begun1 s) : begun1 (s.tick1 L) := by
  obtain ⟨b, h1, h2⟩ := h
  unfold VT.tick1
  split
  · exact ⟨b + 1, by show nx8 4 1 s.a = nx8 4 1 (it4 (b + 1)); rw [h1], by show lb8 s.a = _; rw [h1]⟩
  · exact ⟨b, h1, h2⟩
theorem begun8_tick {L : Int} {s : VT} (h : begun8 s) : begun8 (s.tick8 L) := by
  obtain ⟨b, h1, h2⟩ := h
  unfold VT.tick8
  split
  · exact ⟨b + 1, by show nx16 9 4 s.d = nx16 9 4 (it9 (b + 1)); rw [h1], by show lb16 s.d = _; rw [h1]⟩
  · exact ⟨b, h1, h2⟩
theorem begun1_ticks {L : Int} {s : VT} (h : begun1 s) : ∀ n, begun1 (VT.ticks1 L n s)
  | 0 => h
  | n + 1 => begun1_tick (begun1_ticks h n)
theorem begun8_ticks {L : Int} {s : VT} (h : begun8 s) : ∀ n, begun8 (VT.ticks8 L n s)
  | 0 => h
  | n + 1 => begun8_tick (begun8_ticks h n)
theorem begun1_0 {L : Int} (hL : 1 ≤ L) (a : Nat) : begun1 (VT.ticks1 L (L.toNat + a) vt0) := by
  rw [VT.ticks1_add, VT.round1 hL (s := vt0) ⟨Int.le_refl _, by show (0 : Int) < L; omega⟩]
  exact begun1_ticks ⟨0, rfl, rfl⟩ a
theorem begun8_0 {L : Int} (hL : 1 ≤ L) (a : Nat) : begun8 (VT.ticks8 L (L.toNat + a) vt0) := by
  rw [VT.ticks8_add, VT.round8 hL (s := vt0) ⟨Int.le_refl _, by show (0 : Int) < L; omega⟩]
  exact begun8_ticks ⟨0, rfl, rfl⟩ a
theorem beats1_a {s : VT} {b : Nat} (h : s.a = it4 (b + 1)) : ∀ m, (VT.beats1 m s).a = it4 (b + 1 + m)
  | 0 => h
  | m + 1 => by show nx8 4 1 (VT.beats1 m s).a = nx8 4 1 (it4 (b + 1 + m)); rw [beats1_a h m]
theorem beats8_d {s : VT} {b : Nat} (h : s.d = it9 (b + 1)) : ∀ m, (VT.beats8 m s).d = it9 (b + 1 + m)
  | 0 => h
  | m + 1 => by show nx16 9 4 (VT.beats8 m s).d = nx16 9 4 (it9 (b + 1 + m)); rw [beats8_d h m]
theorem beats1_d (s : VT) : ∀ m, (VT.beats1 m s).d = s.d
  | 0 => rfl
  | m + 1 => beats1_d s m
theorem beats8_a (s : VT) : ∀ m, (VT.beats8 m s).a = s.a
  | 0 => rfl
  | m + 1 => beats8_a s m
theorem back1 {s : VT} (h : begun1 s) : (VT.beats1 15 s).a = s.a ∧ (VT.beats1 15 s).d = s.d ∧ (VT.beats1 15 s).h = s.h := by
  obtain ⟨b, h1, h2⟩ := h
  refine ⟨by rw [beats1_a h1, it4_per, h1], beats1_d s 15, ?_⟩
  show lb8 (VT.beats1 14 s).a = s.h
  rw [beats1_a h1, h2, show b + 1 + 14 = b + 15 by omega, it4_per]
theorem back8 {s : VT} (h : begun8 s) : (VT.beats8 511 s).a = s.a ∧ (VT.beats8 511 s).d = s.d ∧ (VT.beats8 511 s).h = s.h := by
  obtain ⟨b, h1, h2⟩ := h
  refine ⟨beats8_a s 511, by rw [beats8_d h1, it9_per, h1], ?_⟩
  show lb16 (VT.beats8 510 s).d = s.h
  rw [beats8_d h1, h2, show b + 1 + 510 = b + 511 by omega, it9_per]

theorem tone_words (c r w a b d k : Int) (h : Bool) : ACalls Try.prog 37 [.pointer (some ⟨0, 0, none⟩)] [.cells [.int .u8 c, .int .u8 r, .int .u8 w, .pointer (some ⟨1, 0, none⟩), .pointer (some ⟨2, 0, none⟩), .pointer (some ⟨3, 0, none⟩), .int .i64 k, .bool h] 87, .cells [.int .u8 a, .int .i64 4, .int .i64 1] 76, .cells [.int .u8 b, .int .i64 5, .int .i64 2] 76, .cells [.int .u16 d, .int .i64 9, .int .i64 4] 81] fun v H => v = .agg #[.int .i64 (IntKind.i64.wrap c), .int .i64 (IntKind.i64.wrap r), .int .i64 (IntKind.i64.wrap w), .int .i64 (IntKind.i64.wrap a), .int .i64 (IntKind.i64.wrap b), .int .i64 (IntKind.i64.wrap d), .int .i64 k, .int .i64 (bif h then 1 else 0)] ∧ H = [.cells [.int .u8 c, .int .u8 r, .int .u8 w, .pointer (some ⟨1, 0, none⟩), .pointer (some ⟨2, 0, none⟩), .pointer (some ⟨3, 0, none⟩), .int .i64 k, .bool h] 87, .cells [.int .u8 a, .int .i64 4, .int .i64 1] 76, .cells [.int .u8 b, .int .i64 5, .int .i64 2] 76, .cells [.int .u16 d, .int .i64 9, .int .i64 4] 81] := by
  cases h <;> refine ACalls.code tabOk h37 Try.func37 Try.call37 ok37 ?_ <;> (conv => whnf)
  · refine ACalls.code tabOk h17 Try.func17 Try.call17 ok17 ?_
    conv => whnf
    refine ⟨rfl, ?_⟩
    conv => whnf
    refine ⟨rfl, ?_⟩
    conv => whnf
    refine ⟨rfl, ?_⟩
    conv => whnf
    refine ⟨rfl, ?_⟩
    conv => whnf
    refine ⟨rfl, ?_⟩
    conv => whnf
    refine ⟨rfl, ?_⟩
    conv => whnf
    refine ACalls.code tabOk h17 Try.func17 Try.call17 ok17 ?_
    conv => whnf
    refine ⟨rfl, ?_⟩
    conv => whnf
    refine ⟨rfl, ?_⟩
    conv => whnf
    refine ⟨rfl, ?_⟩
    conv => whnf
    refine ⟨rfl, ?_⟩
    conv => whnf
    refine ⟨rfl, ?_⟩
    conv => whnf
    refine ACalls.code tabOk h27 Try.func27 Try.call27 ok27 ?_
    conv => whnf
    refine ⟨rfl, ?_⟩
    conv => whnf
    refine ⟨rfl, ?_⟩
    conv => whnf
    refine ⟨rfl, ?_⟩
    conv => whnf
    refine ⟨rfl, ?_⟩
    conv => whnf
    exact ⟨rfl, rfl⟩
  · refine ACalls.code tabOk h17 Try.func17 Try.call17 ok17 ?_
    conv => whnf
    refine ⟨rfl, ?_⟩
    conv => whnf
    refine ⟨rfl, ?_⟩
    conv => whnf
    refine ⟨rfl, ?_⟩
    conv => whnf
    refine ⟨rfl, ?_⟩
    conv => whnf
    refine ⟨rfl, ?_⟩
    conv => whnf
    refine ⟨rfl, ?_⟩
    conv => whnf
    refine ACalls.code tabOk h17 Try.func17 Try.call17 ok17 ?_
    conv => whnf
    refine ⟨rfl, ?_⟩
    conv => whnf
    refine ⟨rfl, ?_⟩
    conv => whnf
    refine ⟨rfl, ?_⟩
    conv => whnf
    refine ⟨rfl, ?_⟩
    conv => whnf
    refine ⟨rfl, ?_⟩
    conv => whnf
    refine ACalls.code tabOk h27 Try.func27 Try.call27 ok27 ?_
    conv => whnf
    refine ⟨rfl, ?_⟩
    conv => whnf
    refine ⟨rfl, ?_⟩
    conv => whnf
    refine ⟨rfl, ?_⟩
    conv => whnf
    refine ⟨rfl, ?_⟩
    conv => whnf
    exact ⟨rfl, rfl⟩
theorem tone_level (c r w a b d k : Int) (h : Bool) (hc : c = 4 ∨ c = 5 ∨ c = 1 ∨ c = 8) : ACalls Try.prog 38 [.pointer (some ⟨0, 0, none⟩)] [.cells [.int .u8 c, .int .u8 r, .int .u8 w, .pointer (some ⟨1, 0, none⟩), .pointer (some ⟨2, 0, none⟩), .pointer (some ⟨3, 0, none⟩), .int .i64 k, .bool h] 87, .cells [.int .u8 a, .int .i64 4, .int .i64 1] 76, .cells [.int .u8 b, .int .i64 5, .int .i64 2] 76, .cells [.int .u16 d, .int .i64 9, .int .i64 4] 81] fun v H => v = .int .u8 (bif h then w else 0) ∧ H = [.cells [.int .u8 c, .int .u8 r, .int .u8 w, .pointer (some ⟨1, 0, none⟩), .pointer (some ⟨2, 0, none⟩), .pointer (some ⟨3, 0, none⟩), .int .i64 k, .bool h] 87, .cells [.int .u8 a, .int .i64 4, .int .i64 1] 76, .cells [.int .u8 b, .int .i64 5, .int .i64 2] 76, .cells [.int .u16 d, .int .i64 9, .int .i64 4] 81] := by
  cases h <;> refine ACalls.code tabOk h38 Try.func38 Try.call38 ok38 ?_ <;> (conv => whnf)
  · refine Bif.knT ?_ fun h0 => ?_
    · (simp; omega)
    rw [h0]
    conv => whnf
    refine Bif.knT ?_ fun h1 => ?_
    · (simp; omega)
    rw [h1]
    conv => whnf
    exact ⟨rfl, rfl⟩
  · exact ⟨rfl, rfl⟩
@[irreducible] def f4a (L : Int) (n : Nat) (a b d k : Int) (h : Bool) : Int := (VT.ticks4 L n ⟨a, b, d, k, h⟩).a
@[irreducible] def f4b (L : Int) (n : Nat) (a b d k : Int) (h : Bool) : Int := (VT.ticks4 L n ⟨a, b, d, k, h⟩).b
@[irreducible] def f4d (L : Int) (n : Nat) (a b d k : Int) (h : Bool) : Int := (VT.ticks4 L n ⟨a, b, d, k, h⟩).d
@[irreducible] def f4k (L : Int) (n : Nat) (a b d k : Int) (h : Bool) : Int := (VT.ticks4 L n ⟨a, b, d, k, h⟩).k
@[irreducible] def f4h (L : Int) (n : Nat) (a b d k : Int) (h : Bool) : Bool := (VT.ticks4 L n ⟨a, b, d, k, h⟩).h
theorem ticked4' (r w a b d k : Int) (h : Bool) (n : Int) (hr : 0 ≤ r ∧ r ≤ 31) (hk : 0 ≤ k ∧ k < r + 1) (hn : n ≤ 100000) : ACalls Try.prog 36 [.pointer (some ⟨0, 0, none⟩), .int .i64 n] [.cells [.int .u8 4, .int .u8 r, .int .u8 w, .pointer (some ⟨1, 0, none⟩), .pointer (some ⟨2, 0, none⟩), .pointer (some ⟨3, 0, none⟩), .int .i64 k, .bool h] 87, .cells [.int .u8 a, .int .i64 4, .int .i64 1] 76, .cells [.int .u8 b, .int .i64 5, .int .i64 2] 76, .cells [.int .u16 d, .int .i64 9, .int .i64 4] 81] fun v H => v = .tuple #[] ∧ H = [.cells [.int .u8 4, .int .u8 r, .int .u8 w, .pointer (some ⟨1, 0, none⟩), .pointer (some ⟨2, 0, none⟩), .pointer (some ⟨3, 0, none⟩), .int .i64 (f4k (r + 1) n.toNat a b d k h), .bool (f4h (r + 1) n.toNat a b d k h)] 87, .cells [.int .u8 (f4a (r + 1) n.toNat a b d k h), .int .i64 4, .int .i64 1] 76, .cells [.int .u8 (f4b (r + 1) n.toNat a b d k h), .int .i64 5, .int .i64 2] 76, .cells [.int .u16 (f4d (r + 1) n.toNat a b d k h), .int .i64 9, .int .i64 4] 81] := by
  unfold f4a f4b f4d f4k f4h
  exact tone_ticked4 r w a b d k h n hr hk hn
theorem facts4 {L : Int} (hL : 1 ≤ L) (n1 n2 : Nat) (h2 : n2 = 2 * L.toNat) (h1 : ∃ j, n1 = L.toNat + j) :
    f4a L n2 (f4a L n1 0 0 0 0 false) (f4b L n1 0 0 0 0 false) (f4d L n1 0 0 0 0 false) (f4k L n1 0 0 0 0 false) (f4h L n1 0 0 0 0 false) = f4a L n1 0 0 0 0 false
    ∧ f4d L n2 (f4a L n1 0 0 0 0 false) (f4b L n1 0 0 0 0 false) (f4d L n1 0 0 0 0 false) (f4k L n1 0 0 0 0 false) (f4h L n1 0 0 0 0 false) = f4d L n1 0 0 0 0 false
    ∧ f4k L n2 (f4a L n1 0 0 0 0 false) (f4b L n1 0 0 0 0 false) (f4d L n1 0 0 0 0 false) (f4k L n1 0 0 0 0 false) (f4h L n1 0 0 0 0 false) = f4k L n1 0 0 0 0 false
    ∧ f4h L n2 (f4a L n1 0 0 0 0 false) (f4b L n1 0 0 0 0 false) (f4d L n1 0 0 0 0 false) (f4k L n1 0 0 0 0 false) (f4h L n1 0 0 0 0 false) = f4h L n1 0 0 0 0 false
    ∧ 0 ≤ f4k L n1 0 0 0 0 false ∧ f4k L n1 0 0 0 0 false < L := by
  have hok := VT.oks4 (L := L) hL (s := vt0) ⟨Int.le_refl _, by show (0 : Int) < L; omega⟩ n1
  have hrd := VT.rounds4 (L := L) hL hok 2
  have hb := back4 (VT.ticks4 L n1 vt0)
  have hbk := hrd.2
  rw [← hrd.1, ← h2] at hb hbk
  unfold f4a f4b f4d f4k f4h
  exact ⟨hb.1, hb.2.1, hbk, hb.2.2, hok.1, hok.2⟩
@[irreducible] def f5a (L : Int) (n : Nat) (a b d k : Int) (h : Bool) : Int := (VT.ticks5 L n ⟨a, b, d, k, h⟩).a
@[irreducible] def f5b (L : Int) (n : Nat) (a b d k : Int) (h : Bool) : Int := (VT.ticks5 L n ⟨a, b, d, k, h⟩).b
@[irreducible] def f5d (L : Int) (n : Nat) (a b d k : Int) (h : Bool) : Int := (VT.ticks5 L n ⟨a, b, d, k, h⟩).d
@[irreducible] def f5k (L : Int) (n : Nat) (a b d k : Int) (h : Bool) : Int := (VT.ticks5 L n ⟨a, b, d, k, h⟩).k
@[irreducible] def f5h (L : Int) (n : Nat) (a b d k : Int) (h : Bool) : Bool := (VT.ticks5 L n ⟨a, b, d, k, h⟩).h
theorem ticked5' (r w a b d k : Int) (h : Bool) (n : Int) (hr : 0 ≤ r ∧ r ≤ 31) (hk : 0 ≤ k ∧ k < r + 1) (hn : n ≤ 100000) : ACalls Try.prog 36 [.pointer (some ⟨0, 0, none⟩), .int .i64 n] [.cells [.int .u8 5, .int .u8 r, .int .u8 w, .pointer (some ⟨1, 0, none⟩), .pointer (some ⟨2, 0, none⟩), .pointer (some ⟨3, 0, none⟩), .int .i64 k, .bool h] 87, .cells [.int .u8 a, .int .i64 4, .int .i64 1] 76, .cells [.int .u8 b, .int .i64 5, .int .i64 2] 76, .cells [.int .u16 d, .int .i64 9, .int .i64 4] 81] fun v H => v = .tuple #[] ∧ H = [.cells [.int .u8 5, .int .u8 r, .int .u8 w, .pointer (some ⟨1, 0, none⟩), .pointer (some ⟨2, 0, none⟩), .pointer (some ⟨3, 0, none⟩), .int .i64 (f5k (r + 1) n.toNat a b d k h), .bool (f5h (r + 1) n.toNat a b d k h)] 87, .cells [.int .u8 (f5a (r + 1) n.toNat a b d k h), .int .i64 4, .int .i64 1] 76, .cells [.int .u8 (f5b (r + 1) n.toNat a b d k h), .int .i64 5, .int .i64 2] 76, .cells [.int .u16 (f5d (r + 1) n.toNat a b d k h), .int .i64 9, .int .i64 4] 81] := by
  unfold f5a f5b f5d f5k f5h
  exact tone_ticked5 r w a b d k h n hr hk hn
theorem facts5 {L : Int} (hL : 1 ≤ L) (n1 n2 : Nat) (h2 : n2 = 2 * L.toNat) (h1 : ∃ j, n1 = L.toNat + j) :
    f5a L n2 (f5a L n1 0 0 0 0 false) (f5b L n1 0 0 0 0 false) (f5d L n1 0 0 0 0 false) (f5k L n1 0 0 0 0 false) (f5h L n1 0 0 0 0 false) = f5a L n1 0 0 0 0 false
    ∧ f5d L n2 (f5a L n1 0 0 0 0 false) (f5b L n1 0 0 0 0 false) (f5d L n1 0 0 0 0 false) (f5k L n1 0 0 0 0 false) (f5h L n1 0 0 0 0 false) = f5d L n1 0 0 0 0 false
    ∧ f5k L n2 (f5a L n1 0 0 0 0 false) (f5b L n1 0 0 0 0 false) (f5d L n1 0 0 0 0 false) (f5k L n1 0 0 0 0 false) (f5h L n1 0 0 0 0 false) = f5k L n1 0 0 0 0 false
    ∧ f5h L n2 (f5a L n1 0 0 0 0 false) (f5b L n1 0 0 0 0 false) (f5d L n1 0 0 0 0 false) (f5k L n1 0 0 0 0 false) (f5h L n1 0 0 0 0 false) = f5h L n1 0 0 0 0 false
    ∧ 0 ≤ f5k L n1 0 0 0 0 false ∧ f5k L n1 0 0 0 0 false < L := by
  have hok := VT.oks5 (L := L) hL (s := vt0) ⟨Int.le_refl _, by show (0 : Int) < L; omega⟩ n1
  have hrd := VT.rounds5 (L := L) hL hok 2
  have hb := back5 (VT.ticks5 L n1 vt0)
  have hbk := hrd.2
  rw [← hrd.1, ← h2] at hb hbk
  unfold f5a f5b f5d f5k f5h
  exact ⟨hb.1, hb.2.1, hbk, hb.2.2, hok.1, hok.2⟩
@[irreducible] def f1a (L : Int) (n : Nat) (a b d k : Int) (h : Bool) : Int := (VT.ticks1 L n ⟨a, b, d, k, h⟩).a
@[irreducible] def f1b (L : Int) (n : Nat) (a b d k : Int) (h : Bool) : Int := (VT.ticks1 L n ⟨a, b, d, k, h⟩).b
@[irreducible] def f1d (L : Int) (n : Nat) (a b d k : Int) (h : Bool) : Int := (VT.ticks1 L n ⟨a, b, d, k, h⟩).d
@[irreducible] def f1k (L : Int) (n : Nat) (a b d k : Int) (h : Bool) : Int := (VT.ticks1 L n ⟨a, b, d, k, h⟩).k
@[irreducible] def f1h (L : Int) (n : Nat) (a b d k : Int) (h : Bool) : Bool := (VT.ticks1 L n ⟨a, b, d, k, h⟩).h
theorem ticked1' (r w a b d k : Int) (h : Bool) (n : Int) (hr : 0 ≤ r ∧ r ≤ 31) (hk : 0 ≤ k ∧ k < r + 1) (hn : n ≤ 100000) : ACalls Try.prog 36 [.pointer (some ⟨0, 0, none⟩), .int .i64 n] [.cells [.int .u8 1, .int .u8 r, .int .u8 w, .pointer (some ⟨1, 0, none⟩), .pointer (some ⟨2, 0, none⟩), .pointer (some ⟨3, 0, none⟩), .int .i64 k, .bool h] 87, .cells [.int .u8 a, .int .i64 4, .int .i64 1] 76, .cells [.int .u8 b, .int .i64 5, .int .i64 2] 76, .cells [.int .u16 d, .int .i64 9, .int .i64 4] 81] fun v H => v = .tuple #[] ∧ H = [.cells [.int .u8 1, .int .u8 r, .int .u8 w, .pointer (some ⟨1, 0, none⟩), .pointer (some ⟨2, 0, none⟩), .pointer (some ⟨3, 0, none⟩), .int .i64 (f1k (r + 1) n.toNat a b d k h), .bool (f1h (r + 1) n.toNat a b d k h)] 87, .cells [.int .u8 (f1a (r + 1) n.toNat a b d k h), .int .i64 4, .int .i64 1] 76, .cells [.int .u8 (f1b (r + 1) n.toNat a b d k h), .int .i64 5, .int .i64 2] 76, .cells [.int .u16 (f1d (r + 1) n.toNat a b d k h), .int .i64 9, .int .i64 4] 81] := by
  unfold f1a f1b f1d f1k f1h
  exact tone_ticked1 r w a b d k h n hr hk hn
theorem facts1 {L : Int} (hL : 1 ≤ L) (n1 n2 : Nat) (h2 : n2 = 15 * L.toNat) (h1 : ∃ j, n1 = L.toNat + j) :
    f1a L n2 (f1a L n1 0 0 0 0 false) (f1b L n1 0 0 0 0 false) (f1d L n1 0 0 0 0 false) (f1k L n1 0 0 0 0 false) (f1h L n1 0 0 0 0 false) = f1a L n1 0 0 0 0 false
    ∧ f1d L n2 (f1a L n1 0 0 0 0 false) (f1b L n1 0 0 0 0 false) (f1d L n1 0 0 0 0 false) (f1k L n1 0 0 0 0 false) (f1h L n1 0 0 0 0 false) = f1d L n1 0 0 0 0 false
    ∧ f1k L n2 (f1a L n1 0 0 0 0 false) (f1b L n1 0 0 0 0 false) (f1d L n1 0 0 0 0 false) (f1k L n1 0 0 0 0 false) (f1h L n1 0 0 0 0 false) = f1k L n1 0 0 0 0 false
    ∧ f1h L n2 (f1a L n1 0 0 0 0 false) (f1b L n1 0 0 0 0 false) (f1d L n1 0 0 0 0 false) (f1k L n1 0 0 0 0 false) (f1h L n1 0 0 0 0 false) = f1h L n1 0 0 0 0 false
    ∧ 0 ≤ f1k L n1 0 0 0 0 false ∧ f1k L n1 0 0 0 0 false < L := by
  have hok := VT.oks1 (L := L) hL (s := vt0) ⟨Int.le_refl _, by show (0 : Int) < L; omega⟩ n1
  have hrd := VT.rounds1 (L := L) hL hok 15
  obtain ⟨j, hj⟩ := h1
  have hb := back1 (show begun1 (VT.ticks1 L n1 vt0) by rw [hj]; exact begun1_0 hL j)
  have hbk := hrd.2
  rw [← hrd.1, ← h2] at hb hbk
  unfold f1a f1b f1d f1k f1h
  exact ⟨hb.1, hb.2.1, hbk, hb.2.2, hok.1, hok.2⟩
@[irreducible] def f8a (L : Int) (n : Nat) (a b d k : Int) (h : Bool) : Int := (VT.ticks8 L n ⟨a, b, d, k, h⟩).a
@[irreducible] def f8b (L : Int) (n : Nat) (a b d k : Int) (h : Bool) : Int := (VT.ticks8 L n ⟨a, b, d, k, h⟩).b
@[irreducible] def f8d (L : Int) (n : Nat) (a b d k : Int) (h : Bool) : Int := (VT.ticks8 L n ⟨a, b, d, k, h⟩).d
@[irreducible] def f8k (L : Int) (n : Nat) (a b d k : Int) (h : Bool) : Int := (VT.ticks8 L n ⟨a, b, d, k, h⟩).k
@[irreducible] def f8h (L : Int) (n : Nat) (a b d k : Int) (h : Bool) : Bool := (VT.ticks8 L n ⟨a, b, d, k, h⟩).h
theorem ticked8' (r w a b d k : Int) (h : Bool) (n : Int) (hr : 0 ≤ r ∧ r ≤ 31) (hk : 0 ≤ k ∧ k < r + 1) (hn : n ≤ 100000) : ACalls Try.prog 36 [.pointer (some ⟨0, 0, none⟩), .int .i64 n] [.cells [.int .u8 8, .int .u8 r, .int .u8 w, .pointer (some ⟨1, 0, none⟩), .pointer (some ⟨2, 0, none⟩), .pointer (some ⟨3, 0, none⟩), .int .i64 k, .bool h] 87, .cells [.int .u8 a, .int .i64 4, .int .i64 1] 76, .cells [.int .u8 b, .int .i64 5, .int .i64 2] 76, .cells [.int .u16 d, .int .i64 9, .int .i64 4] 81] fun v H => v = .tuple #[] ∧ H = [.cells [.int .u8 8, .int .u8 r, .int .u8 w, .pointer (some ⟨1, 0, none⟩), .pointer (some ⟨2, 0, none⟩), .pointer (some ⟨3, 0, none⟩), .int .i64 (f8k (r + 1) n.toNat a b d k h), .bool (f8h (r + 1) n.toNat a b d k h)] 87, .cells [.int .u8 (f8a (r + 1) n.toNat a b d k h), .int .i64 4, .int .i64 1] 76, .cells [.int .u8 (f8b (r + 1) n.toNat a b d k h), .int .i64 5, .int .i64 2] 76, .cells [.int .u16 (f8d (r + 1) n.toNat a b d k h), .int .i64 9, .int .i64 4] 81] := by
  unfold f8a f8b f8d f8k f8h
  exact tone_ticked8 r w a b d k h n hr hk hn
theorem facts8 {L : Int} (hL : 1 ≤ L) (n1 n2 : Nat) (h2 : n2 = 511 * L.toNat) (h1 : ∃ j, n1 = L.toNat + j) :
    f8a L n2 (f8a L n1 0 0 0 0 false) (f8b L n1 0 0 0 0 false) (f8d L n1 0 0 0 0 false) (f8k L n1 0 0 0 0 false) (f8h L n1 0 0 0 0 false) = f8a L n1 0 0 0 0 false
    ∧ f8d L n2 (f8a L n1 0 0 0 0 false) (f8b L n1 0 0 0 0 false) (f8d L n1 0 0 0 0 false) (f8k L n1 0 0 0 0 false) (f8h L n1 0 0 0 0 false) = f8d L n1 0 0 0 0 false
    ∧ f8k L n2 (f8a L n1 0 0 0 0 false) (f8b L n1 0 0 0 0 false) (f8d L n1 0 0 0 0 false) (f8k L n1 0 0 0 0 false) (f8h L n1 0 0 0 0 false) = f8k L n1 0 0 0 0 false
    ∧ f8h L n2 (f8a L n1 0 0 0 0 false) (f8b L n1 0 0 0 0 false) (f8d L n1 0 0 0 0 false) (f8k L n1 0 0 0 0 false) (f8h L n1 0 0 0 0 false) = f8h L n1 0 0 0 0 false
    ∧ 0 ≤ f8k L n1 0 0 0 0 false ∧ f8k L n1 0 0 0 0 false < L := by
  have hok := VT.oks8 (L := L) hL (s := vt0) ⟨Int.le_refl _, by show (0 : Int) < L; omega⟩ n1
  have hrd := VT.rounds8 (L := L) hL hok 511
  obtain ⟨j, hj⟩ := h1
  have hb := back8 (show begun8 (VT.ticks8 L n1 vt0) by rw [hj]; exact begun8_0 hL j)
  have hbk := hrd.2
  rw [← hrd.1, ← h2] at hb hbk
  unfold f8a f8b f8d f8k f8h
  exact ⟨hb.1, hb.2.1, hbk, hb.2.2, hok.1, hok.2⟩
theorem walk_ToneRounds (rate ah : Int) (wr : (Lit.int .u8 rate).wf = true) (wa : (Lit.int .u8 ah).wf = true) : ACalls Try.prog 9 [.int .u8 rate, .int .u8 ah] [] fun v _ => v = .bool true := by
  have hrate := wf_u8 wr
  have hah := wf_u8 wa
  have er : bits .and .u8 rate 31 = rate % 32 := and_mask .u8 rate 5 (by decide)
  have hr : 0 ≤ bits .and .u8 rate 31 ∧ bits .and .u8 rate 31 ≤ 31 := by rw [er]; omega
  have e7 : IntKind.i64.wrap (IntKind.i64.wrap (bits .and .u8 rate 31) + 1) = bits .and .u8 rate 31 + 1 := by rw [wrap64 (n := bits .and .u8 rate 31) (by omega) (by omega), wrap64 (by omega) (by omega)]
  have en1 : IntKind.i64.wrap (bits .and .u8 rate 31 + 1 + IntKind.i64.wrap ah) = bits .and .u8 rate 31 + 1 + ah := by rw [wrap64 (n := ah) (by omega) (by omega), wrap64 (by omega) (by omega)]
  have en1' : (bits .and .u8 rate 31 + 1 + ah).toNat = (bits .and .u8 rate 31 + 1).toNat + ah.toNat := by omega
  refine ACalls.code tabOk h9 Try.func9 Try.call9 ok9 ?_
  conv => whnf

  rw [e7]
  refine ALoop.fd (σ := Nat) (fun i => [.int .u8 rate, .int .u8 ah, .chan none, .chan none, .bool false, .pointer (some ⟨0, 0, none⟩), .pointer (some ⟨1, 0, none⟩), .int .i64 (bits .and .u8 rate 31 + 1), .int .i64 i, .chan none, .chan none, .chan none, .chan none, .chan none, .chan none, .chan none, .chan none, .chan none, .chan none, .chan none, .chan none, .chan none, .chan none, .chan none, .chan none, .chan none, .chan none, .chan none, .chan none, .chan none, .chan none, .chan none, .chan none, .chan none, .chan none, .chan none, .chan none, .chan none, .chan none, .chan none, .chan none, .chan none, .chan none, .chan none, .chan none, .chan none, .chan none, .chan none, .chan none, .chan none, .chan none, .chan none, .chan none, .chan none, .chan none, .chan none, .chan none, .chan none, .chan none, .chan none, .chan none, .chan none, .chan none, .chan none, .chan none, .chan none, .chan none, .chan none, .chan none, .chan none, .chan none, .chan none, .chan none, .chan none, .chan none, .chan none, .chan none, .chan none, .chan none, .chan none, .chan none, .chan none, .chan none, .chan none, .chan none, .chan none, .chan none]) (fun _ => [.cells [.int .u8 4, .int .u8 5, .int .u8 1, .int .u8 8] 54, .cells [.int .i64 2, .int .i64 2, .int .i64 15, .int .i64 511] 50]) (fun i => i ≤ 4) (fun i => 4 - i) 0 [] rfl rfl (by decide) (fun _ => ⟨rfl, rfl, rfl, rfl⟩) ?_
  intro i hi R hR
  have hi' : i = 0 ∨ i = 1 ∨ i = 2 ∨ i = 3 ∨ i = 4 := by omega
  rcases hi' with rfl | rfl | rfl | rfl | rfl
  · have en2 : IntKind.i64.wrap (2 * (bits .and .u8 rate 31 + 1)) = 2 * (bits .and .u8 rate 31 + 1) := wrap64 (by omega) (by omega)
    have hf := facts4 (L := bits .and .u8 rate 31 + 1) (by omega) (IntKind.i64.wrap (bits .and .u8 rate 31 + 1 + IntKind.i64.wrap ah)).toNat (IntKind.i64.wrap (2 * (bits .and .u8 rate 31 + 1))).toNat (by rw [en2]; omega) ⟨ah.toNat, by rw [en1, en1']⟩
    obtain ⟨ba, bd, bk, bh, hk⟩ := hf
    cases hh : f4h (bits .and .u8 rate 31 + 1) (IntKind.i64.wrap (bits .and .u8 rate 31 + 1 + IntKind.i64.wrap ah)).toNat 0 0 0 0 false
    all_goals rw [hh] at ba bd bk bh
    · conv => whnf
      refine ACalls.useE (tone_new) [] rfl (by (conv => whnf); try rfl) (by (conv => whnf); try rfl) ?_
      conv => whnf
      refine ACalls.code tabOk h33 Try.func33 Try.call33 ok33 ?_
      conv => whnf
      refine ACalls.code tabOk h55 Try.func55 Try.call55 ok55 ?_
      conv => whnf
      refine ACalls.code tabOk h56 Try.func56 Try.call56 ok56 ?_
      conv => whnf
      refine ACalls.code tabOk h34 Try.func34 Try.call34 ok34 ?_
      conv => whnf
      refine ACalls.code tabOk h55 Try.func55 Try.call55 ok55 ?_
      conv => whnf
      refine ACalls.code tabOk h57 Try.func57 Try.call57 ok57 ?_
      conv => whnf
      refine ACalls.code tabOk h35 Try.func35 Try.call35 ok35 ?_
      conv => whnf
      refine ACalls.code tabOk h55 Try.func55 Try.call55 ok55 ?_
      conv => whnf
      refine ACalls.code tabOk h58 Try.func58 Try.call58 ok58 ?_
      conv => whnf
      refine ACalls.useE (ticked4' _ _ _ _ _ _ _ _ ?_ ?_ ?_) [2, 3, 4, 5] rfl (by (conv => whnf); try rfl) (by (conv => whnf); try rfl) ?_
      · omega
      · omega
      · omega
      conv => whnf
      refine ACalls.useE (tone_words _ _ _ _ _ _ _ _) [2, 3, 4, 5] rfl (by (conv => whnf); try rfl) (by (conv => whnf); try rfl) ?_
      conv => whnf
      refine ACalls.useE (ticked4' _ _ _ _ _ _ _ _ ?_ ?_ ?_) [2, 3, 4, 5] rfl (by (conv => whnf); try rfl) (by (conv => whnf); try rfl) ?_
      · omega
      · omega
      · omega
      conv => whnf
      refine ACalls.useE (tone_words _ _ _ _ _ _ _ _) [2, 3, 4, 5] rfl (by (conv => whnf); try rfl) (by (conv => whnf); try rfl) ?_
      conv => whnf
      refine ACalls.useE (tone_level _ _ _ _ _ _ _ _ ?_) [2, 3, 4, 5] rfl (by (conv => whnf); try rfl) (by (conv => whnf); try rfl) ?_
      · decide
      conv => whnf
      rw [hh]
      conv => whnf
      rw [ba]
      conv => whnf
      rw [bd]
      conv => whnf
      rw [bk]
      conv => whnf
      rw [bh]
      conv => whnf
      refine Bif.knF ?_ fun h0 => ?_
      · (simp; done)
      rw [h0]
      conv => whnf
      refine Bif.knF ?_ fun h1 => ?_
      · (simp; done)
      rw [h1]
      conv => whnf
      refine Bif.knF ?_ fun h2 => ?_
      · (simp; done)
      rw [h2]
      conv => whnf
      (exact hR 1 _ _ _ rfl rfl (by decide) (by decide))
    · conv => whnf
      refine ACalls.useE (tone_new) [] rfl (by (conv => whnf); try rfl) (by (conv => whnf); try rfl) ?_
      conv => whnf
      refine ACalls.code tabOk h33 Try.func33 Try.call33 ok33 ?_
      conv => whnf
      refine ACalls.code tabOk h55 Try.func55 Try.call55 ok55 ?_
      conv => whnf
      refine ACalls.code tabOk h56 Try.func56 Try.call56 ok56 ?_
      conv => whnf
      refine ACalls.code tabOk h34 Try.func34 Try.call34 ok34 ?_
      conv => whnf
      refine ACalls.code tabOk h55 Try.func55 Try.call55 ok55 ?_
      conv => whnf
      refine ACalls.code tabOk h57 Try.func57 Try.call57 ok57 ?_
      conv => whnf
      refine ACalls.code tabOk h35 Try.func35 Try.call35 ok35 ?_
      conv => whnf
      refine ACalls.code tabOk h55 Try.func55 Try.call55 ok55 ?_
      conv => whnf
      refine ACalls.code tabOk h58 Try.func58 Try.call58 ok58 ?_
      conv => whnf
      refine ACalls.useE (ticked4' _ _ _ _ _ _ _ _ ?_ ?_ ?_) [2, 3, 4, 5] rfl (by (conv => whnf); try rfl) (by (conv => whnf); try rfl) ?_
      · omega
      · omega
      · omega
      conv => whnf
      refine ACalls.useE (tone_words _ _ _ _ _ _ _ _) [2, 3, 4, 5] rfl (by (conv => whnf); try rfl) (by (conv => whnf); try rfl) ?_
      conv => whnf
      refine ACalls.useE (ticked4' _ _ _ _ _ _ _ _ ?_ ?_ ?_) [2, 3, 4, 5] rfl (by (conv => whnf); try rfl) (by (conv => whnf); try rfl) ?_
      · omega
      · omega
      · omega
      conv => whnf
      refine ACalls.useE (tone_words _ _ _ _ _ _ _ _) [2, 3, 4, 5] rfl (by (conv => whnf); try rfl) (by (conv => whnf); try rfl) ?_
      conv => whnf
      refine ACalls.useE (tone_level _ _ _ _ _ _ _ _ ?_) [2, 3, 4, 5] rfl (by (conv => whnf); try rfl) (by (conv => whnf); try rfl) ?_
      · decide
      conv => whnf
      rw [hh]
      conv => whnf
      rw [ba]
      conv => whnf
      rw [bd]
      conv => whnf
      rw [bk]
      conv => whnf
      rw [bh]
      conv => whnf
      refine ACalls.useE (tone_level _ _ _ _ _ _ _ _ ?_) [2, 3, 4, 5] rfl (by (conv => whnf); try rfl) (by (conv => whnf); try rfl) ?_
      · decide
      conv => whnf
      refine Bif.knF ?_ fun h0 => ?_
      · (simp; done)
      rw [h0]
      conv => whnf
      refine Bif.knF ?_ fun h1 => ?_
      · (simp; done)
      rw [h1]
      conv => whnf
      refine Bif.knF ?_ fun h2 => ?_
      · (simp; done)
      rw [h2]
      conv => whnf
      (exact hR 1 _ _ _ rfl rfl (by decide) (by decide))
  · have en2 : IntKind.i64.wrap (2 * (bits .and .u8 rate 31 + 1)) = 2 * (bits .and .u8 rate 31 + 1) := wrap64 (by omega) (by omega)
    have hf := facts5 (L := bits .and .u8 rate 31 + 1) (by omega) (IntKind.i64.wrap (bits .and .u8 rate 31 + 1 + IntKind.i64.wrap ah)).toNat (IntKind.i64.wrap (2 * (bits .and .u8 rate 31 + 1))).toNat (by rw [en2]; omega) ⟨ah.toNat, by rw [en1, en1']⟩
    obtain ⟨ba, bd, bk, bh, hk⟩ := hf
    cases hh : f5h (bits .and .u8 rate 31 + 1) (IntKind.i64.wrap (bits .and .u8 rate 31 + 1 + IntKind.i64.wrap ah)).toNat 0 0 0 0 false
    all_goals rw [hh] at ba bd bk bh
    · conv => whnf
      refine ACalls.useE (tone_new) [] rfl (by (conv => whnf); try rfl) (by (conv => whnf); try rfl) ?_
      conv => whnf
      refine ACalls.code tabOk h33 Try.func33 Try.call33 ok33 ?_
      conv => whnf
      refine ACalls.code tabOk h55 Try.func55 Try.call55 ok55 ?_
      conv => whnf
      refine ACalls.code tabOk h56 Try.func56 Try.call56 ok56 ?_
      conv => whnf
      refine ACalls.code tabOk h34 Try.func34 Try.call34 ok34 ?_
      conv => whnf
      refine ACalls.code tabOk h55 Try.func55 Try.call55 ok55 ?_
      conv => whnf
      refine ACalls.code tabOk h57 Try.func57 Try.call57 ok57 ?_
      conv => whnf
      refine ACalls.code tabOk h35 Try.func35 Try.call35 ok35 ?_
      conv => whnf
      refine ACalls.code tabOk h55 Try.func55 Try.call55 ok55 ?_
      conv => whnf
      refine ACalls.code tabOk h58 Try.func58 Try.call58 ok58 ?_
      conv => whnf
      refine ACalls.useE (ticked5' _ _ _ _ _ _ _ _ ?_ ?_ ?_) [2, 3, 4, 5] rfl (by (conv => whnf); try rfl) (by (conv => whnf); try rfl) ?_
      · omega
      · omega
      · omega
      conv => whnf
      refine ACalls.useE (tone_words _ _ _ _ _ _ _ _) [2, 3, 4, 5] rfl (by (conv => whnf); try rfl) (by (conv => whnf); try rfl) ?_
      conv => whnf
      refine ACalls.useE (ticked5' _ _ _ _ _ _ _ _ ?_ ?_ ?_) [2, 3, 4, 5] rfl (by (conv => whnf); try rfl) (by (conv => whnf); try rfl) ?_
      · omega
      · omega
      · omega
      conv => whnf
      refine ACalls.useE (tone_words _ _ _ _ _ _ _ _) [2, 3, 4, 5] rfl (by (conv => whnf); try rfl) (by (conv => whnf); try rfl) ?_
      conv => whnf
      refine ACalls.useE (tone_level _ _ _ _ _ _ _ _ ?_) [2, 3, 4, 5] rfl (by (conv => whnf); try rfl) (by (conv => whnf); try rfl) ?_
      · decide
      conv => whnf
      rw [hh]
      conv => whnf
      rw [ba]
      conv => whnf
      rw [bd]
      conv => whnf
      rw [bk]
      conv => whnf
      rw [bh]
      conv => whnf
      refine Bif.knF ?_ fun h0 => ?_
      · (simp; done)
      rw [h0]
      conv => whnf
      refine Bif.knF ?_ fun h1 => ?_
      · (simp; done)
      rw [h1]
      conv => whnf
      refine Bif.knF ?_ fun h2 => ?_
      · (simp; done)
      rw [h2]
      conv => whnf
      (exact hR 2 _ _ _ rfl rfl (by decide) (by decide))
    · conv => whnf
      refine ACalls.useE (tone_new) [] rfl (by (conv => whnf); try rfl) (by (conv => whnf); try rfl) ?_
      conv => whnf
      refine ACalls.code tabOk h33 Try.func33 Try.call33 ok33 ?_
      conv => whnf
      refine ACalls.code tabOk h55 Try.func55 Try.call55 ok55 ?_
      conv => whnf
      refine ACalls.code tabOk h56 Try.func56 Try.call56 ok56 ?_
      conv => whnf
      refine ACalls.code tabOk h34 Try.func34 Try.call34 ok34 ?_
      conv => whnf
      refine ACalls.code tabOk h55 Try.func55 Try.call55 ok55 ?_
      conv => whnf
      refine ACalls.code tabOk h57 Try.func57 Try.call57 ok57 ?_
      conv => whnf
      refine ACalls.code tabOk h35 Try.func35 Try.call35 ok35 ?_
      conv => whnf
      refine ACalls.code tabOk h55 Try.func55 Try.call55 ok55 ?_
      conv => whnf
      refine ACalls.code tabOk h58 Try.func58 Try.call58 ok58 ?_
      conv => whnf
      refine ACalls.useE (ticked5' _ _ _ _ _ _ _ _ ?_ ?_ ?_) [2, 3, 4, 5] rfl (by (conv => whnf); try rfl) (by (conv => whnf); try rfl) ?_
      · omega
      · omega
      · omega
      conv => whnf
      refine ACalls.useE (tone_words _ _ _ _ _ _ _ _) [2, 3, 4, 5] rfl (by (conv => whnf); try rfl) (by (conv => whnf); try rfl) ?_
      conv => whnf
      refine ACalls.useE (ticked5' _ _ _ _ _ _ _ _ ?_ ?_ ?_) [2, 3, 4, 5] rfl (by (conv => whnf); try rfl) (by (conv => whnf); try rfl) ?_
      · omega
      · omega
      · omega
      conv => whnf
      refine ACalls.useE (tone_words _ _ _ _ _ _ _ _) [2, 3, 4, 5] rfl (by (conv => whnf); try rfl) (by (conv => whnf); try rfl) ?_
      conv => whnf
      refine ACalls.useE (tone_level _ _ _ _ _ _ _ _ ?_) [2, 3, 4, 5] rfl (by (conv => whnf); try rfl) (by (conv => whnf); try rfl) ?_
      · decide
      conv => whnf
      rw [hh]
      conv => whnf
      rw [ba]
      conv => whnf
      rw [bd]
      conv => whnf
      rw [bk]
      conv => whnf
      rw [bh]
      conv => whnf
      refine ACalls.useE (tone_level _ _ _ _ _ _ _ _ ?_) [2, 3, 4, 5] rfl (by (conv => whnf); try rfl) (by (conv => whnf); try rfl) ?_
      · decide
      conv => whnf
      refine Bif.knF ?_ fun h0 => ?_
      · (simp; done)
      rw [h0]
      conv => whnf
      refine Bif.knF ?_ fun h1 => ?_
      · (simp; done)
      rw [h1]
      conv => whnf
      refine Bif.knF ?_ fun h2 => ?_
      · (simp; done)
      rw [h2]
      conv => whnf
      (exact hR 2 _ _ _ rfl rfl (by decide) (by decide))
  · have en2 : IntKind.i64.wrap (15 * (bits .and .u8 rate 31 + 1)) = 15 * (bits .and .u8 rate 31 + 1) := wrap64 (by omega) (by omega)
    have hf := facts1 (L := bits .and .u8 rate 31 + 1) (by omega) (IntKind.i64.wrap (bits .and .u8 rate 31 + 1 + IntKind.i64.wrap ah)).toNat (IntKind.i64.wrap (15 * (bits .and .u8 rate 31 + 1))).toNat (by rw [en2]; omega) ⟨ah.toNat, by rw [en1, en1']⟩
    obtain ⟨ba, bd, bk, bh, hk⟩ := hf
    cases hh : f1h (bits .and .u8 rate 31 + 1) (IntKind.i64.wrap (bits .and .u8 rate 31 + 1 + IntKind.i64.wrap ah)).toNat 0 0 0 0 false
    all_goals rw [hh] at ba bd bk bh
    · conv => whnf
      refine ACalls.useE (tone_new) [] rfl (by (conv => whnf); try rfl) (by (conv => whnf); try rfl) ?_
      conv => whnf
      refine ACalls.code tabOk h33 Try.func33 Try.call33 ok33 ?_
      conv => whnf
      refine ACalls.code tabOk h55 Try.func55 Try.call55 ok55 ?_
      conv => whnf
      refine ACalls.code tabOk h56 Try.func56 Try.call56 ok56 ?_
      conv => whnf
      refine ACalls.code tabOk h34 Try.func34 Try.call34 ok34 ?_
      conv => whnf
      refine ACalls.code tabOk h55 Try.func55 Try.call55 ok55 ?_
      conv => whnf
      refine ACalls.code tabOk h57 Try.func57 Try.call57 ok57 ?_
      conv => whnf
      refine ACalls.code tabOk h35 Try.func35 Try.call35 ok35 ?_
      conv => whnf
      refine ACalls.code tabOk h55 Try.func55 Try.call55 ok55 ?_
      conv => whnf
      refine ACalls.code tabOk h58 Try.func58 Try.call58 ok58 ?_
      conv => whnf
      refine ACalls.useE (ticked1' _ _ _ _ _ _ _ _ ?_ ?_ ?_) [2, 3, 4, 5] rfl (by (conv => whnf); try rfl) (by (conv => whnf); try rfl) ?_
      · omega
      · omega
      · omega
      conv => whnf
      refine ACalls.useE (tone_words _ _ _ _ _ _ _ _) [2, 3, 4, 5] rfl (by (conv => whnf); try rfl) (by (conv => whnf); try rfl) ?_
      conv => whnf
      refine ACalls.useE (ticked1' _ _ _ _ _ _ _ _ ?_ ?_ ?_) [2, 3, 4, 5] rfl (by (conv => whnf); try rfl) (by (conv => whnf); try rfl) ?_
      · omega
      · omega
      · omega
      conv => whnf
      refine ACalls.useE (tone_words _ _ _ _ _ _ _ _) [2, 3, 4, 5] rfl (by (conv => whnf); try rfl) (by (conv => whnf); try rfl) ?_
      conv => whnf
      refine ACalls.useE (tone_level _ _ _ _ _ _ _ _ ?_) [2, 3, 4, 5] rfl (by (conv => whnf); try rfl) (by (conv => whnf); try rfl) ?_
      · decide
      conv => whnf
      rw [hh]
      conv => whnf
      rw [ba]
      conv => whnf
      rw [bd]
      conv => whnf
      rw [bk]
      conv => whnf
      rw [bh]
      conv => whnf
      refine Bif.knF ?_ fun h0 => ?_
      · (simp; done)
      rw [h0]
      conv => whnf
      refine Bif.knF ?_ fun h1 => ?_
      · (simp; done)
      rw [h1]
      conv => whnf
      refine Bif.knF ?_ fun h2 => ?_
      · (simp; done)
      rw [h2]
      conv => whnf
      (exact hR 3 _ _ _ rfl rfl (by decide) (by decide))
    · conv => whnf
      refine ACalls.useE (tone_new) [] rfl (by (conv => whnf); try rfl) (by (conv => whnf); try rfl) ?_
      conv => whnf
      refine ACalls.code tabOk h33 Try.func33 Try.call33 ok33 ?_
      conv => whnf
      refine ACalls.code tabOk h55 Try.func55 Try.call55 ok55 ?_
      conv => whnf
      refine ACalls.code tabOk h56 Try.func56 Try.call56 ok56 ?_
      conv => whnf
      refine ACalls.code tabOk h34 Try.func34 Try.call34 ok34 ?_
      conv => whnf
      refine ACalls.code tabOk h55 Try.func55 Try.call55 ok55 ?_
      conv => whnf
      refine ACalls.code tabOk h57 Try.func57 Try.call57 ok57 ?_
      conv => whnf
      refine ACalls.code tabOk h35 Try.func35 Try.call35 ok35 ?_
      conv => whnf
      refine ACalls.code tabOk h55 Try.func55 Try.call55 ok55 ?_
      conv => whnf
      refine ACalls.code tabOk h58 Try.func58 Try.call58 ok58 ?_
      conv => whnf
      refine ACalls.useE (ticked1' _ _ _ _ _ _ _ _ ?_ ?_ ?_) [2, 3, 4, 5] rfl (by (conv => whnf); try rfl) (by (conv => whnf); try rfl) ?_
      · omega
      · omega
      · omega
      conv => whnf
      refine ACalls.useE (tone_words _ _ _ _ _ _ _ _) [2, 3, 4, 5] rfl (by (conv => whnf); try rfl) (by (conv => whnf); try rfl) ?_
      conv => whnf
      refine ACalls.useE (ticked1' _ _ _ _ _ _ _ _ ?_ ?_ ?_) [2, 3, 4, 5] rfl (by (conv => whnf); try rfl) (by (conv => whnf); try rfl) ?_
      · omega
      · omega
      · omega
      conv => whnf
      refine ACalls.useE (tone_words _ _ _ _ _ _ _ _) [2, 3, 4, 5] rfl (by (conv => whnf); try rfl) (by (conv => whnf); try rfl) ?_
      conv => whnf
      refine ACalls.useE (tone_level _ _ _ _ _ _ _ _ ?_) [2, 3, 4, 5] rfl (by (conv => whnf); try rfl) (by (conv => whnf); try rfl) ?_
      · decide
      conv => whnf
      rw [hh]
      conv => whnf
      rw [ba]
      conv => whnf
      rw [bd]
      conv => whnf
      rw [bk]
      conv => whnf
      rw [bh]
      conv => whnf
      refine ACalls.useE (tone_level _ _ _ _ _ _ _ _ ?_) [2, 3, 4, 5] rfl (by (conv => whnf); try rfl) (by (conv => whnf); try rfl) ?_
      · decide
      conv => whnf
      refine Bif.knF ?_ fun h0 => ?_
      · (simp; done)
      rw [h0]
      conv => whnf
      refine Bif.knF ?_ fun h1 => ?_
      · (simp; done)
      rw [h1]
      conv => whnf
      refine Bif.knF ?_ fun h2 => ?_
      · (simp; done)
      rw [h2]
      conv => whnf
      (exact hR 3 _ _ _ rfl rfl (by decide) (by decide))
  · have en2 : IntKind.i64.wrap (511 * (bits .and .u8 rate 31 + 1)) = 511 * (bits .and .u8 rate 31 + 1) := wrap64 (by omega) (by omega)
    have hf := facts8 (L := bits .and .u8 rate 31 + 1) (by omega) (IntKind.i64.wrap (bits .and .u8 rate 31 + 1 + IntKind.i64.wrap ah)).toNat (IntKind.i64.wrap (511 * (bits .and .u8 rate 31 + 1))).toNat (by rw [en2]; omega) ⟨ah.toNat, by rw [en1, en1']⟩
    obtain ⟨ba, bd, bk, bh, hk⟩ := hf
    cases hh : f8h (bits .and .u8 rate 31 + 1) (IntKind.i64.wrap (bits .and .u8 rate 31 + 1 + IntKind.i64.wrap ah)).toNat 0 0 0 0 false
    all_goals rw [hh] at ba bd bk bh
    · conv => whnf
      refine ACalls.useE (tone_new) [] rfl (by (conv => whnf); try rfl) (by (conv => whnf); try rfl) ?_
      conv => whnf
      refine ACalls.code tabOk h33 Try.func33 Try.call33 ok33 ?_
      conv => whnf
      refine ACalls.code tabOk h55 Try.func55 Try.call55 ok55 ?_
      conv => whnf
      refine ACalls.code tabOk h56 Try.func56 Try.call56 ok56 ?_
      conv => whnf
      refine ACalls.code tabOk h34 Try.func34 Try.call34 ok34 ?_
      conv => whnf
      refine ACalls.code tabOk h55 Try.func55 Try.call55 ok55 ?_
      conv => whnf
      refine ACalls.code tabOk h57 Try.func57 Try.call57 ok57 ?_
      conv => whnf
      refine ACalls.code tabOk h35 Try.func35 Try.call35 ok35 ?_
      conv => whnf
      refine ACalls.code tabOk h55 Try.func55 Try.call55 ok55 ?_
      conv => whnf
      refine ACalls.code tabOk h58 Try.func58 Try.call58 ok58 ?_
      conv => whnf
      refine ACalls.useE (ticked8' _ _ _ _ _ _ _ _ ?_ ?_ ?_) [2, 3, 4, 5] rfl (by (conv => whnf); try rfl) (by (conv => whnf); try rfl) ?_
      · omega
      · omega
      · omega
      conv => whnf
      refine ACalls.useE (tone_words _ _ _ _ _ _ _ _) [2, 3, 4, 5] rfl (by (conv => whnf); try rfl) (by (conv => whnf); try rfl) ?_
      conv => whnf
      refine ACalls.useE (ticked8' _ _ _ _ _ _ _ _ ?_ ?_ ?_) [2, 3, 4, 5] rfl (by (conv => whnf); try rfl) (by (conv => whnf); try rfl) ?_
      · omega
      · omega
      · omega
      conv => whnf
      refine ACalls.useE (tone_words _ _ _ _ _ _ _ _) [2, 3, 4, 5] rfl (by (conv => whnf); try rfl) (by (conv => whnf); try rfl) ?_
      conv => whnf
      refine ACalls.useE (tone_level _ _ _ _ _ _ _ _ ?_) [2, 3, 4, 5] rfl (by (conv => whnf); try rfl) (by (conv => whnf); try rfl) ?_
      · decide
      conv => whnf
      rw [hh]
      conv => whnf
      rw [ba]
      conv => whnf
      rw [bd]
      conv => whnf
      rw [bk]
      conv => whnf
      rw [bh]
      conv => whnf
      refine Bif.knF ?_ fun h0 => ?_
      · (simp; done)
      rw [h0]
      conv => whnf
      refine Bif.knF ?_ fun h1 => ?_
      · (simp; done)
      rw [h1]
      conv => whnf
      refine Bif.knF ?_ fun h2 => ?_
      · (simp; done)
      rw [h2]
      conv => whnf
      (exact hR 4 _ _ _ rfl rfl (by decide) (by decide))
    · conv => whnf
      refine ACalls.useE (tone_new) [] rfl (by (conv => whnf); try rfl) (by (conv => whnf); try rfl) ?_
      conv => whnf
      refine ACalls.code tabOk h33 Try.func33 Try.call33 ok33 ?_
      conv => whnf
      refine ACalls.code tabOk h55 Try.func55 Try.call55 ok55 ?_
      conv => whnf
      refine ACalls.code tabOk h56 Try.func56 Try.call56 ok56 ?_
      conv => whnf
      refine ACalls.code tabOk h34 Try.func34 Try.call34 ok34 ?_
      conv => whnf
      refine ACalls.code tabOk h55 Try.func55 Try.call55 ok55 ?_
      conv => whnf
      refine ACalls.code tabOk h57 Try.func57 Try.call57 ok57 ?_
      conv => whnf
      refine ACalls.code tabOk h35 Try.func35 Try.call35 ok35 ?_
      conv => whnf
      refine ACalls.code tabOk h55 Try.func55 Try.call55 ok55 ?_
      conv => whnf
      refine ACalls.code tabOk h58 Try.func58 Try.call58 ok58 ?_
      conv => whnf
      refine ACalls.useE (ticked8' _ _ _ _ _ _ _ _ ?_ ?_ ?_) [2, 3, 4, 5] rfl (by (conv => whnf); try rfl) (by (conv => whnf); try rfl) ?_
      · omega
      · omega
      · omega
      conv => whnf
      refine ACalls.useE (tone_words _ _ _ _ _ _ _ _) [2, 3, 4, 5] rfl (by (conv => whnf); try rfl) (by (conv => whnf); try rfl) ?_
      conv => whnf
      refine ACalls.useE (ticked8' _ _ _ _ _ _ _ _ ?_ ?_ ?_) [2, 3, 4, 5] rfl (by (conv => whnf); try rfl) (by (conv => whnf); try rfl) ?_
      · omega
      · omega
      · omega
      conv => whnf
      refine ACalls.useE (tone_words _ _ _ _ _ _ _ _) [2, 3, 4, 5] rfl (by (conv => whnf); try rfl) (by (conv => whnf); try rfl) ?_
      conv => whnf
      refine ACalls.useE (tone_level _ _ _ _ _ _ _ _ ?_) [2, 3, 4, 5] rfl (by (conv => whnf); try rfl) (by (conv => whnf); try rfl) ?_
      · decide
      conv => whnf
      rw [hh]
      conv => whnf
      rw [ba]
      conv => whnf
      rw [bd]
      conv => whnf
      rw [bk]
      conv => whnf
      rw [bh]
      conv => whnf
      refine ACalls.useE (tone_level _ _ _ _ _ _ _ _ ?_) [2, 3, 4, 5] rfl (by (conv => whnf); try rfl) (by (conv => whnf); try rfl) ?_
      · decide
      conv => whnf
      refine Bif.knF ?_ fun h0 => ?_
      · (simp; done)
      rw [h0]
      conv => whnf
      refine Bif.knF ?_ fun h1 => ?_
      · (simp; done)
      rw [h1]
      conv => whnf
      refine Bif.knF ?_ fun h2 => ?_
      · (simp; done)
      rw [h2]
      conv => whnf
      (exact hR 4 _ _ _ rfl rfl (by decide) (by decide))
  · conv => whnf
    clear hR
    refine ACalls.useE (awake19) [] rfl (by (conv => whnf); try rfl) (by (conv => whnf); try rfl) ?_
    conv => whnf
end Go.Proofs
