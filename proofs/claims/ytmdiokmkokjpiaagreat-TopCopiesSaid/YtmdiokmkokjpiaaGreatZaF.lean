/-
  Walks through the functions of the program, by contract.
-/
import Derived.Test.YtmdiokmkokjpiaaGreatBaseZ
import Derived.Test.YtmdiokmkokjpiaaGreatCoreE
set_option linter.all false
set_option linter.unusedVariables false
set_option linter.unusedSimpArgs false
set_option linter.unnecessarySimpa false
namespace Go.Proofs
open Go.Aw
set_option maxRecDepth 100000
set_option maxHeartbeats 8000000
theorem width8 : ACalls Tryz.prog 81 [] [] fun v H => v = .int .i64 8 ∧ H = [] := by
  refine ACalls.code tabOk h81 Tryz.func81 Tryz.call81 ok81 ?_
  conv => whnf
  refine ALoop.run 9 ?_
  conv => whnf
  exact ⟨rfl, rfl⟩
theorem width16 : ACalls Tryz.prog 82 [] [] fun v H => v = .int .i64 16 ∧ H = [] := by
  refine ACalls.code tabOk h82 Tryz.func82 Tryz.call82 ok82 ?_
  conv => whnf
  refine ALoop.run 17 ?_
  conv => whnf
  exact ⟨rfl, rfl⟩
theorem poly8_new (n t : Int) (h : 2 ≤ n ∧ n ≤ 8 ∧ 1 ≤ t ∧ t < n) : ACalls Tryz.prog 55 [.int .i64 n, .int .i64 t] [] fun v H => v = .pointer (some ⟨0, 0, none⟩) ∧ H = [.cells [.int .u8 0, .int .i64 n, .int .i64 t] 127] := by
  refine ACalls.codeN tabOk h55 Tryz.func55 Tryz.call55 ok55 [0] ?_
  conv => whnf
  refine Bif.knF ?_ fun h0 => ?_
  · (simp; omega)
  rw [h0]
  conv => whnf
  refine ACalls.useE (width8) [] rfl (by (conv => whnf); try rfl) (by (conv => whnf); try rfl) ?_
  conv => whnf
  refine Bif.knF ?_ fun h1 => ?_
  · (simp; omega)
  rw [h1]
  conv => whnf
  refine Bif.knF ?_ fun h2 => ?_
  · (simp; omega)
  rw [h2]
  conv => whnf
  refine Bif.knF ?_ fun h3 => ?_
  · (simp; omega)
  rw [h3]
  conv => whnf
  exact ⟨rfl, rfl⟩
theorem poly16_new (n t : Int) (h : 2 ≤ n ∧ n ≤ 16 ∧ 1 ≤ t ∧ t < n) : ACalls Tryz.prog 56 [.int .i64 n, .int .i64 t] [] fun v H => v = .pointer (some ⟨0, 0, none⟩) ∧ H = [.cells [.int .u16 0, .int .i64 n, .int .i64 t] 129] := by
  refine ACalls.codeN tabOk h56 Tryz.func56 Tryz.call56 ok56 [0] ?_
  conv => whnf
  refine Bif.knF ?_ fun h0 => ?_
  · (simp; omega)
  rw [h0]
  conv => whnf
  refine ACalls.useE (width16) [] rfl (by (conv => whnf); try rfl) (by (conv => whnf); try rfl) ?_
  conv => whnf
  refine Bif.knF ?_ fun h1 => ?_
  · (simp; omega)
  rw [h1]
  conv => whnf
  refine Bif.knF ?_ fun h2 => ?_
  · (simp; omega)
  rw [h2]
  conv => whnf
  refine Bif.knF ?_ fun h3 => ?_
  · (simp; omega)
  rw [h3]
  conv => whnf
  exact ⟨rfl, rfl⟩
theorem tone_new : ACalls Tryz.prog 19 [] [] fun v H => v = .pointer (some ⟨0, 0, none⟩) ∧ H = [.cells [.int .u8 0, .int .u8 0, .int .u8 0, .pointer (some ⟨1, 0, none⟩), .pointer (some ⟨2, 0, none⟩), .pointer (some ⟨3, 0, none⟩), .int .i64 0, .bool false] 110,
    .cells [.int .u8 0, .int .i64 4, .int .i64 1] 127, .cells [.int .u8 0, .int .i64 5, .int .i64 2] 127, .cells [.int .u16 0, .int .i64 9, .int .i64 4] 129] := by
  refine ACalls.codeN tabOk h19 Tryz.func19 Tryz.call19 ok19 [3, 0, 1, 2] ?_
  conv => whnf
  refine ACalls.useE (poly8_new _ _ ?_) [] rfl (by (conv => whnf); try rfl) (by (conv => whnf); try rfl) ?_
  · decide
  conv => whnf
  refine ACalls.useE (poly8_new _ _ ?_) [] rfl (by (conv => whnf); try rfl) (by (conv => whnf); try rfl) ?_
  · decide
  conv => whnf
  refine ACalls.useE (poly16_new _ _ ?_) [] rfl (by (conv => whnf); try rfl) (by (conv => whnf); try rfl) ?_
  · decide
  conv => whnf
  exact ⟨rfl, rfl⟩
/-! A poly's next state -/
@[irreducible] def nx8 (n t s : Int) : Int := bits .or .u8 (s.fdiv (2 ^ min (1 : Int).toNat IntKind.u8.bits)) (IntKind.u8.wrap (bits .and .u8 (bits .xor .u8 (bits .xor .u8 s (s.fdiv (2 ^ min t.toNat IntKind.u8.bits))) 1) 1 * 2 ^ min (IntKind.i64.wrap (n - 1)).toNat IntKind.u8.bits))
@[irreducible] def nx16 (n t s : Int) : Int := bits .or .u16 (s.fdiv (2 ^ min (1 : Int).toNat IntKind.u16.bits)) (IntKind.u16.wrap (bits .and .u16 (bits .xor .u16 (bits .xor .u16 s (s.fdiv (2 ^ min t.toNat IntKind.u16.bits))) 1) 1 * 2 ^ min (IntKind.i64.wrap (n - 1)).toNat IntKind.u16.bits))
def lo8 (s : Int) : Int := bits .and .u8 s 1
def lo16 (s : Int) : Int := IntKind.u8.wrap (bits .and .u16 s 1)
def lb8 (s : Int) : Bool := lo8 s != 0
def lb16 (s : Int) : Bool := lo16 s != 0

theorem poly8_next (s0 n t s : Int) (h : 1 ≤ n ∧ n ≤ 16 ∧ 0 ≤ t) : ACalls Tryz.prog 108 [.pointer (some ⟨0, 0, none⟩), .int .u8 s] [.cells [.int .u8 s0, .int .i64 n, .int .i64 t] 127] fun v H => v = .int .u8 (nx8 n t s) ∧ H = [.cells [.int .u8 s0, .int .i64 n, .int .i64 t] 127] := by
  have hw : IntKind.i64.wrap (n - 1) = n - 1 := wrap64 (by omega) (by omega)
  refine ACalls.code tabOk h108 Tryz.func108 Tryz.call108 ok108 ?_
  conv => whnf
  refine Req.of ?_ ?_
  · (simp; omega)
  conv => whnf
  refine Req.of ?_ ?_
  · (simp; omega)
  conv => whnf
  (exact ⟨by unfold nx8; rfl, rfl⟩)
theorem poly8_step (s n t : Int) (h : 1 ≤ n ∧ n ≤ 16 ∧ 0 ≤ t) : ACalls Tryz.prog 99 [.pointer (some ⟨0, 0, none⟩)] [.cells [.int .u8 s, .int .i64 n, .int .i64 t] 127] fun v H => v = .int .u8 (lo8 s) ∧ H = [.cells [.int .u8 (nx8 n t s), .int .i64 n, .int .i64 t] 127] := by
  refine ACalls.code tabOk h99 Tryz.func99 Tryz.call99 ok99 ?_
  conv => whnf
  refine ACalls.useE (poly8_next _ _ _ _ ?_) [0] rfl (by (conv => whnf); try rfl) (by (conv => whnf); try rfl) ?_
  · omega
  conv => whnf
  exact ⟨rfl, rfl⟩
theorem falls8 (s n t : Int) (h : 1 ≤ n ∧ n ≤ 16 ∧ 0 ≤ t) : ACalls Tryz.prog 94 [.pointer (some ⟨0, 0, none⟩)] [.cells [.int .u8 s, .int .i64 n, .int .i64 t] 127] fun v H => v = .bool (lb8 s) ∧ H = [.cells [.int .u8 (nx8 n t s), .int .i64 n, .int .i64 t] 127] := by
  have e : (lo8 s != 0) = lb8 s := rfl
  refine ACalls.code tabOk h94 Tryz.func94 Tryz.call94 ok94 ?_
  conv => whnf
  refine ACalls.code tabOk h99 Tryz.func99 Tryz.call99 ok99 ?_
  conv => whnf
  refine ACalls.useE (poly8_next _ _ _ _ ?_) [0] rfl (by (conv => whnf); try rfl) (by (conv => whnf); try rfl) ?_
  · omega
  conv => whnf
  exact ⟨rfl, rfl⟩
theorem poly16_next (s0 n t s : Int) (h : 1 ≤ n ∧ n ≤ 16 ∧ 0 ≤ t) : ACalls Tryz.prog 112 [.pointer (some ⟨0, 0, none⟩), .int .u16 s] [.cells [.int .u16 s0, .int .i64 n, .int .i64 t] 129] fun v H => v = .int .u16 (nx16 n t s) ∧ H = [.cells [.int .u16 s0, .int .i64 n, .int .i64 t] 129] := by
  have hw : IntKind.i64.wrap (n - 1) = n - 1 := wrap64 (by omega) (by omega)
  refine ACalls.code tabOk h112 Tryz.func112 Tryz.call112 ok112 ?_
  conv => whnf
  refine Req.of ?_ ?_
  · (simp; omega)
  conv => whnf
  refine Req.of ?_ ?_
  · (simp; omega)
  conv => whnf
  (exact ⟨by unfold nx16; rfl, rfl⟩)
theorem poly16_step (s n t : Int) (h : 1 ≤ n ∧ n ≤ 16 ∧ 0 ≤ t) : ACalls Tryz.prog 106 [.pointer (some ⟨0, 0, none⟩)] [.cells [.int .u16 s, .int .i64 n, .int .i64 t] 129] fun v H => v = .int .u8 (lo16 s) ∧ H = [.cells [.int .u16 (nx16 n t s), .int .i64 n, .int .i64 t] 129] := by
  refine ACalls.code tabOk h106 Tryz.func106 Tryz.call106 ok106 ?_
  conv => whnf
  refine ACalls.useE (poly16_next _ _ _ _ ?_) [0] rfl (by (conv => whnf); try rfl) (by (conv => whnf); try rfl) ?_
  · omega
  conv => whnf
  exact ⟨rfl, rfl⟩
theorem falls16 (s n t : Int) (h : 1 ≤ n ∧ n ≤ 16 ∧ 0 ≤ t) : ACalls Tryz.prog 96 [.pointer (some ⟨0, 0, none⟩)] [.cells [.int .u16 s, .int .i64 n, .int .i64 t] 129] fun v H => v = .bool (lb16 s) ∧ H = [.cells [.int .u16 (nx16 n t s), .int .i64 n, .int .i64 t] 129] := by
  have e : (lo16 s != 0) = lb16 s := rfl
  refine ACalls.code tabOk h96 Tryz.func96 Tryz.call96 ok96 ?_
  conv => whnf
  refine ACalls.code tabOk h106 Tryz.func106 Tryz.call106 ok106 ?_
  conv => whnf
  refine ACalls.useE (poly16_next _ _ _ _ ?_) [0] rfl (by (conv => whnf); try rfl) (by (conv => whnf); try rfl) ?_
  · omega
  conv => whnf
  exact ⟨rfl, rfl⟩

def hNo : Hints := []

theorem okPl8 : okO T hNo (bodyOf Tryz.f101) = true := by kernel_rfl
def itX8 (n t s : Int) : Nat → Int
  | 0 => s
  | k + 1 => nx8 n t (itX8 n t s k)
theorem poly8_statesG (s0 n t s : Int) : ACalls Tryz.prog 109 [.pointer (some ⟨0, 0, none⟩), .int .u8 s] [.cells [.int .u8 s0, .int .i64 n, .int .i64 t] 127] fun v H => v = .func (.func 113) #[] #[.pointer (some ⟨2, 0, none⟩), .pointer (some ⟨1, 0, none⟩)] ∧ H = [.cells [.int .u8 s0, .int .i64 n, .int .i64 t] 127, .cells [.pointer (some ⟨0, 0, none⟩)] 105, .cells [.int .u8 s] 5] := by
  refine ACalls.codeN tabOk h109 Tryz.func109 Tryz.call109 ok109 [0, 1, 2] ?_
  conv => whnf
  exact ⟨rfl, rfl⟩
def hkPl8 (b n t s : Int) (m k : Nat) : List Blk := [.cells [.int .u8 b, .int .i64 n, .int .i64 t] 127, .cells [.int .u8 s] 5, .cells [.int .i64 0] 3, .cells [.bool false] 4, .cells [.int .i64 m] 3, .cells [.pointer (some ⟨0, 0, none⟩)] 105, .cells [.int .u8 (itX8 n t 0 k)] 5]
theorem place8 (b n t : Int) (hn : 1 ≤ n ∧ n ≤ 16 ∧ 0 ≤ t) (s : Int) (k0 : Nat) (hlt : k0 ≤ 100000) (hb : ∀ k, k < k0 → itX8 n t 0 k ≠ s ∧ (k = 0 ∨ itX8 n t 0 k ≠ 0)) (he : itX8 n t 0 k0 = s ∨ (itX8 n t 0 k0 = 0 ∧ 0 < k0)) : ACalls Tryz.prog 101 [.pointer (some ⟨0, 0, none⟩), .int .u8 s] [.cells [.int .u8 b, .int .i64 n, .int .i64 t] 127] fun v H => v = .tuple #[.int .i64 (if itX8 n t 0 k0 = s then k0 else 0), .bool (decide (itX8 n t 0 k0 = s))] ∧ H = [.cells [.int .u8 b, .int .i64 n, .int .i64 t] 127] := by
  refine ACalls.codeR tabOk hNo Tryz.func101 Tryz.call101 rfl okPl8 ?_
  conv => whnf
  refine ACalls.useE (poly8_statesG _ _ _ _) [0] rfl (by (conv => whnf); try rfl) (by (conv => whnf); try rfl) ?_
  conv => whnf
  refine ARange.states tabOk hNo Tryz.func113 rfl rfl rfl Tryz.call108 Tryz.call113 6 5 0 rfl (k0 + 1) (by omega) (fun k => hkPl8 b n t s k k) (fun k => hkPl8 b n t s (k + 1) k) .u8 (itX8 n t 0) rfl (fun _ => rfl) (fun _ => rfl) ?_ ?_ ?_ ?_ ?_ rfl rfl rfl rfl (by simp) ?_
  · intro k; conv => whnf
  · intro k; conv => whnf
  · intro k; conv => whnf
  · intro k
    unfold hkPl8
    refine ACalls.useE (poly8_next b n t (itX8 n t 0 k) hn) [0] rfl (by (conv => whnf); try rfl) (by (conv => whnf); try rfl) ?_
    conv => whnf
    exact ⟨rfl, rfl⟩
  · intro k; conv => whnf
    rfl
  · intro k hk
    rw [← AWpR_eq, ← AWpR_eq]
    have ek : k ≤ 100000 → IntKind.i64.wrap ((k : Int) + 1) = ((k + 1 : Nat) : Int) := fun h => by rw [wrap64 (by omega) (by omega)]; rfl
    by_cases hlast : k = k0
    · subst hlast
      by_cases hs : itX8 n t 0 k = s
      · conv => whnf
        refine Bif.knT ?_ fun h0 => ?_
        · (simp [hs]; done)
        rw [h0]
        conv => whnf
        (simp [hs]; done)
      · have h0 : itX8 n t 0 k = 0 ∧ 0 < k := he.resolve_left hs
        have h1 : (k : Int) > 0 := by omega
        conv => whnf
        refine Bif.knF ?_ fun h0 => ?_
        · (simp [hs]; done)
        rw [h0]
        conv => whnf
        refine Bif.knT ?_ fun h1 => ?_
        · (simp [h1]; omega)
        rw [h1]
        conv => whnf
        refine Bif.knT ?_ fun h2 => ?_
        · (simp [h1]; omega)
        rw [h2]
        conv => whnf
        (simp [hs]; done)
    · have h2 := hb k (by omega)
      have ek1 := ek (by omega)
      rcases h2.2 with h3 | h3
      · subst h3
        conv => whnf
        refine Bif.knF ?_ fun h0 => ?_
        · (simp [h2.1]; done)
        rw [h0]
        conv => whnf
        (rw [ek1]; exact ⟨by omega, List.replicate 27 (.chan none), .inl ⟨rfl, trivial, rfl, rfl, rfl, rfl, rfl, rfl, rfl, rfl, rfl, rfl, rfl, rfl, rfl, rfl, trivial⟩⟩)
      · conv => whnf
        refine Bif.knF ?_ fun h0 => ?_
        · (simp [h2.1]; done)
        rw [h0]
        conv => whnf
        refine Bif.knF ?_ fun h1 => ?_
        · (simp [h3]; done)
        rw [h1]
        conv => whnf
        (rw [ek1]; exact ⟨by omega, List.replicate 27 (.chan none), .inl ⟨rfl, trivial, rfl, rfl, rfl, rfl, rfl, rfl, rfl, rfl, rfl, rfl, rfl, rfl, rfl, rfl, trivial⟩⟩)
end Go.Proofs
