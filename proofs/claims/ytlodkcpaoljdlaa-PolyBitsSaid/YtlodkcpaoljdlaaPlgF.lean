/-
  Walks through the functions of the program, by contract.
-/
import Derived.Test.YtlodkcpaoljdlaaTcopF
import Derived.Test.YtlodkcpaoljdlaaPolyM
import Derived.Test.YtlodkcpaoljdlaaCore28
set_option linter.all false
set_option linter.unusedVariables false
set_option linter.unusedSimpArgs false
set_option linter.unnecessarySimpa false
namespace Go.Proofs
open Go.Aw
set_option maxRecDepth 100000
set_option maxHeartbeats 4000000
def hNo : Hints := []
def hPer : Hints := [(4, [(0, []), (1, []), (2, []), (3, []), (4, []), (5, []), (6, [0, 2]), (7, [2])])]

theorem okPl8 : okO T hNo (bodyOf Try.f48) = true := by kernel_rfl
theorem okBi8 : okO T hNo (bodyOf Try.f50) = true := by kernel_rfl
theorem okPe8 : okO T hPer (bodyOf Try.f49) = true := by kernel_rfl
def itX8 (n t s : Int) : Nat → Int
  | 0 => s
  | k + 1 => nx8 n t (itX8 n t s k)
theorem poly8_statesG (s0 n t s : Int) : ACalls Try.prog 64 [.pointer (some ⟨0, 0, none⟩), .int .u8 s] [.cells [.int .u8 s0, .int .i64 n, .int .i64 t] 76] fun v H => v = .func (.func 71) #[] #[.pointer (some ⟨2, 0, none⟩), .pointer (some ⟨1, 0, none⟩)] ∧ H = [.cells [.int .u8 s0, .int .i64 n, .int .i64 t] 76, .cells [.pointer (some ⟨0, 0, none⟩)] 24, .cells [.int .u8 s] 5] := by
  refine ACalls.codeN tabOk h64 Try.func64 Try.call64 ok64 [0, 1, 2] ?_
  conv => whnf
  exact ⟨rfl, rfl⟩
def hkPl8 (b n t s : Int) (m k : Nat) : List Blk := [.cells [.int .u8 b, .int .i64 n, .int .i64 t] 76, .cells [.int .u8 s] 5, .cells [.int .i64 0] 3, .cells [.bool false] 4, .cells [.int .i64 m] 3, .cells [.pointer (some ⟨0, 0, none⟩)] 24, .cells [.int .u8 (itX8 n t 0 k)] 5]
theorem place8 (b n t : Int) (hn : 1 ≤ n ∧ n ≤ 16 ∧ 0 ≤ t) (s : Int) (k0 : Nat) (hlt : k0 ≤ 100000) (hb : ∀ k, k < k0 → itX8 n t 0 k ≠ s ∧ (k = 0 ∨ itX8 n t 0 k ≠ 0)) (he : itX8 n t 0 k0 = s ∨ (itX8 n t 0 k0 = 0 ∧ 0 < k0)) : ACalls Try.prog 48 [.pointer (some ⟨0, 0, none⟩), .int .u8 s] [.cells [.int .u8 b, .int .i64 n, .int .i64 t] 76] fun v H => v = .tuple #[.int .i64 (if itX8 n t 0 k0 = s then k0 else 0), .bool (decide (itX8 n t 0 k0 = s))] ∧ H = [.cells [.int .u8 b, .int .i64 n, .int .i64 t] 76] := by
  refine ACalls.codeR tabOk hNo Try.func48 Try.call48 rfl okPl8 ?_
  conv => whnf
  refine ACalls.useE (poly8_statesG _ _ _ _) [0] rfl (by (conv => whnf); try rfl) (by (conv => whnf); try rfl) ?_
  conv => whnf
  refine ARange.states tabOk hNo Try.func71 rfl rfl rfl Try.call47 Try.call71 6 5 0 rfl (k0 + 1) (by omega) (fun k => hkPl8 b n t s k k) (fun k => hkPl8 b n t s (k + 1) k) .u8 (itX8 n t 0) rfl (fun _ => rfl) (fun _ => rfl) ?_ ?_ ?_ ?_ ?_ rfl rfl rfl rfl (by simp) ?_
  · intro k; conv => whnf
  · intro k; conv => whnf
  · intro k; conv => whnf
  · intro k
    unfold hkPl8
    refine ACalls.useE (poly8_next b n t (itX8 n t 0 k) hn) [0] rfl (by (conv => whnf); try rfl) (by (conv => whnf); try rfl) ?_
    conv => whnf
    exact ⟨rfl, rfl⟩
  · intro k; conv => whnf
    rfl
  · intro k hk
    rw [← AWpR_eq, ← AWpR_eq]
    have ek : k ≤ 100000 → IntKind.i64.wrap ((k : Int) + 1) = ((k + 1 : Nat) : Int) := fun h => by rw [wrap64 (by omega) (by omega)]; rfl
    by_cases hlast : k = k0
    · subst hlast
      by_cases hs : itX8 n t 0 k = s
      · conv => whnf
        refine Bif.knT ?_ fun h0 => ?_
        · (simp [hs]; done)
        rw [h0]
        conv => whnf
        (simp [hs]; done)
      · have h0 : itX8 n t 0 k = 0 ∧ 0 < k := he.resolve_left hs
        have h1 : (k : Int) > 0 := by omega
        conv => whnf
        refine Bif.knF ?_ fun h0 => ?_
        · (simp [hs]; done)
        rw [h0]
        conv => whnf
        refine Bif.knT ?_ fun h1 => ?_
        · (simp [h1]; omega)
        rw [h1]
        conv => whnf
        refine Bif.knT ?_ fun h2 => ?_
        · (simp [h1]; omega)
        rw [h2]
        conv => whnf
        (simp [hs]; done)
    · have h2 := hb k (by omega)
      have ek1 := ek (by omega)
      rcases h2.2 with h3 | h3
      · subst h3
        conv => whnf
        refine Bif.knF ?_ fun h0 => ?_
        · (simp [h2.1]; done)
        rw [h0]
        conv => whnf
        (rw [ek1]; exact ⟨by omega, List.replicate 27 (.chan none), .inl ⟨rfl, trivial, rfl, rfl, rfl, rfl, rfl, rfl, rfl, rfl, rfl, rfl, rfl, rfl, rfl, rfl, trivial⟩⟩)
      · conv => whnf
        refine Bif.knF ?_ fun h0 => ?_
        · (simp [h2.1]; done)
        rw [h0]
        conv => whnf
        refine Bif.knF ?_ fun h1 => ?_
        · (simp [h3]; done)
        rw [h1]
        conv => whnf
        (rw [ek1]; exact ⟨by omega, List.replicate 27 (.chan none), .inl ⟨rfl, trivial, rfl, rfl, rfl, rfl, rfl, rfl, rfl, rfl, rfl, rfl, rfl, rfl, rfl, rfl, trivial⟩⟩)
def hkPe8 (b n t : Int) (m k : Nat) : List Blk := [.cells [.int .u8 b, .int .i64 n, .int .i64 t] 76, .cells [.pointer (some ⟨0, 0, none⟩)] 24, .cells [.int .i64 m] 3, .cells [.pointer (some ⟨0, 0, none⟩)] 24, .cells [.int .u8 (itX8 n t b (k + 1))] 5]
theorem period8 (b n t : Int) (hn : 1 ≤ n ∧ n ≤ 16 ∧ 0 ≤ t) (k0 : Nat) (hlt : k0 ≤ 100000) (hb : ∀ k, k < k0 → itX8 n t b (k + 1) ≠ b) (he : itX8 n t b (k0 + 1) = b) : ACalls Try.prog 49 [.pointer (some ⟨0, 0, none⟩)] [.cells [.int .u8 b, .int .i64 n, .int .i64 t] 76] fun v H => v = .int .i64 (k0 + 1 : Nat) ∧ H = [.cells [.int .u8 b, .int .i64 n, .int .i64 t] 76] := by
  refine ACalls.codeR tabOk hPer Try.func49 Try.call49 rfl okPe8 ?_
  conv => whnf
  refine ACalls.useE (poly8_next _ _ _ _ hn) [0] rfl (by (conv => whnf); try rfl) (by (conv => whnf); try rfl) ?_
  conv => whnf
  refine ⟨rfl, ?_⟩
  conv => whnf
  refine ⟨rfl, ?_⟩
  conv => whnf
  refine ACalls.useE (poly8_statesG _ _ _ _) [0] rfl (by (conv => whnf); try rfl) (by (conv => whnf); try rfl) ?_
  conv => whnf
  refine ⟨rfl, ?_⟩
  conv => whnf
  refine ARange.states tabOk hPer Try.func71 rfl rfl rfl Try.call47 Try.call71 4 3 0 rfl (k0 + 1) (by omega) (fun k => hkPe8 b n t k k) (fun k => hkPe8 b n t (k + 1) k) .u8 (fun k => itX8 n t b (k + 1)) rfl (fun _ => rfl) (fun _ => rfl) ?_ ?_ ?_ ?_ ?_ rfl rfl rfl rfl (by simp) ?_
  · intro k; conv => whnf
  · intro k; conv => whnf
  · intro k; conv => whnf
  · intro k
    unfold hkPe8
    refine ACalls.useE (poly8_next b n t (itX8 n t b (k + 1)) hn) [0] rfl (by (conv => whnf); try rfl) (by (conv => whnf); try rfl) ?_
    conv => whnf
    exact ⟨rfl, rfl⟩
  · intro k; conv => whnf
    rfl
  · intro k hk
    rw [← AWpR_eq, ← AWpR_eq]
    have ek : IntKind.i64.wrap ((k : Int) + 1) = ((k + 1 : Nat) : Int) := by rw [wrap64 (by omega) (by omega)]; rfl
    by_cases hlast : k = k0
    · subst hlast
      have h9 : (itX8 n t b (k + 1) == b) = true := by rw [he]; simp
      conv => whnf
      refine Bif.knT ?_ fun h0 => ?_
      · with_reducible assumption
      rw [h0]
      conv => whnf
      (rw [ek]; exact ⟨rfl, rfl⟩)
    · have h9 : (itX8 n t b (k + 1) == b) = false := beq_eq_false_iff_ne.2 (hb k (by omega))
      conv => whnf
      refine Bif.knF ?_ fun h0 => ?_
      · with_reducible assumption
      rw [h0]
      conv => whnf
      (rw [ek]; exact ⟨by omega, List.replicate 25 (.chan none), .inl ⟨rfl, trivial, rfl, rfl, rfl, rfl, rfl, rfl, rfl, rfl, rfl, rfl, trivial⟩⟩)
def hkBi8 (b n t : Int) (N m k : Nat) : List Blk := [.cells [.int .u8 b, .int .i64 n, .int .i64 t] 76, .cells [.int .i64 N] 3, .cells (rowI .u8 (fun j => lo8 (itX8 n t b j)) m N) 5, .cells [.slice (some ⟨2, 0, none⟩) m N] 32, .cells [.pointer (some ⟨0, 0, none⟩)] 24, .cells [.int .u8 (itX8 n t b k)] 5]
theorem bits8 (b n t : Int) (hn : 1 ≤ n ∧ n ≤ 16 ∧ 0 ≤ t) (N : Nat) (hN : 1 ≤ N ∧ N ≤ 1048576) : ACalls Try.prog 50 [.pointer (some ⟨0, 0, none⟩), .int .i64 N] [.cells [.int .u8 b, .int .i64 n, .int .i64 t] 76] fun v H => v = .slice (some ⟨1, 0, none⟩) N N ∧ H = [.cells [.int .u8 b, .int .i64 n, .int .i64 t] 76, .cells (rowI .u8 (fun j => lo8 (itX8 n t b j)) N N) 5] := by
  refine ACalls.codeRW tabOk hNo Try.func50 Try.call50 rfl okBi8 ?_
  conv => whnf
  refine Bif.knF ?_ fun h0 => ?_
  · (simp; omega)
  rw [h0]
  conv => whnf
  refine Bif.knF ?_ fun h1 => ?_
  · (simp; omega)
  rw [h1]
  conv => whnf
  refine Req.of ?_ ?_
  · (simp; omega)
  conv => whnf
  refine ACalls.useE (poly8_statesG _ _ _ _) [0] rfl (by (conv => whnf); try rfl) (by (conv => whnf); try rfl) ?_
  conv => whnf
  refine ARange.states tabOk hNo Try.func71 rfl rfl rfl Try.call47 Try.call71 5 4 0 rfl N (by omega) (fun k => hkBi8 b n t N k k) (fun k => hkBi8 b n t N (k + 1) k) .u8 (itX8 n t b) (by unfold hkBi8; rw [← repl_row]; rfl) (fun _ => rfl) (fun _ => rfl) ?_ ?_ ?_ ?_ ?_ rfl rfl rfl rfl (by simp) ?_
  · intro k; conv => whnf
  · intro k; conv => whnf
  · intro k; conv => whnf
  · intro k
    unfold hkBi8
    refine ACalls.useE (poly8_next b n t (itX8 n t b k) hn) [0] rfl (by (conv => whnf); try rfl) (by (conv => whnf); try rfl) ?_
    conv => whnf
    exact ⟨rfl, rfl⟩
  · intro k; conv => whnf
    rfl
  · intro k hk
    rw [← AWpR_eq, ← AWpR_eq]
    by_cases hlast : k + 1 = N
    · conv => whnf
      refine Bif.knT ?_ fun h0 => ?_
      · (simp; omega)
      conv => whnf
      refine putF_row (f := fun j => lo8 (itX8 n t b j)) (by omega) (by first | omega | (dsimp only; omega)) rfl ?_
      conv => whnf
      refine Bif.knT ?_ fun h1 => ?_
      · (simp; omega)
      rw [h1]
      conv => whnf
      subst hlast
      exact wk_of (v2 := .slice (some ⟨1, 0, none⟩) (k + 1) (k + 1)) (H2 := [.cells [.int .u8 b, .int .i64 n, .int .i64 t] 76, .cells (rowI .u8 (fun j => lo8 (itX8 n t b j)) (k + 1) (k + 1)) 5]) [0, 2] rfl (by (conv => whnf); try rfl) ⟨⟨_, rfl, BW.lit (by (conv => whnf); try rfl)⟩, ⟨_, rfl, BW.row rfl⟩, trivial⟩ ⟨rfl, rfl⟩
    · conv => whnf
      refine Bif.knT ?_ fun h0 => ?_
      · (simp; omega)
      conv => whnf
      refine putF_row (f := fun j => lo8 (itX8 n t b j)) (by omega) (by first | omega | (dsimp only; omega)) rfl ?_
      conv => whnf
      refine Bif.knF ?_ fun h1 => ?_
      · (simp; omega)
      rw [h1]
      conv => whnf
      exact ⟨by omega, List.replicate 36 (.chan none), .inl ⟨rfl, trivial, rfl, rfl, rfl, rfl, row_all fun _ => rfl, rfl, rfl, rfl, rfl, rfl, rfl, rfl, trivial⟩⟩
theorem okPl16 : okO T hNo (bodyOf Try.f28) = true := by kernel_rfl
theorem okBi16 : okO T hNo (bodyOf Try.f24) = true := by kernel_rfl
theorem okPe16 : okO T hPer (bodyOf Try.f25) = true := by kernel_rfl
def itX16 (n t s : Int) : Nat → Int
  | 0 => s
  | k + 1 => nx16 n t (itX16 n t s k)
theorem poly16_statesG (s0 n t s : Int) : ACalls Try.prog 53 [.pointer (some ⟨0, 0, none⟩), .int .u16 s] [.cells [.int .u16 s0, .int .i64 n, .int .i64 t] 81] fun v H => v = .func (.func 65) #[] #[.pointer (some ⟨2, 0, none⟩), .pointer (some ⟨1, 0, none⟩)] ∧ H = [.cells [.int .u16 s0, .int .i64 n, .int .i64 t] 81, .cells [.pointer (some ⟨0, 0, none⟩)] 40, .cells [.int .u16 s] 37] := by
  refine ACalls.codeN tabOk h53 Try.func53 Try.call53 ok53 [0, 1, 2] ?_
  conv => whnf
  exact ⟨rfl, rfl⟩
def hkPl16 (b n t s : Int) (m k : Nat) : List Blk := [.cells [.int .u16 b, .int .i64 n, .int .i64 t] 81, .cells [.int .u16 s] 37, .cells [.int .i64 0] 3, .cells [.bool false] 4, .cells [.int .i64 m] 3, .cells [.pointer (some ⟨0, 0, none⟩)] 40, .cells [.int .u16 (itX16 n t 0 k)] 37]
theorem place16 (b n t : Int) (hn : 1 ≤ n ∧ n ≤ 16 ∧ 0 ≤ t) (s : Int) (k0 : Nat) (hlt : k0 ≤ 100000) (hb : ∀ k, k < k0 → itX16 n t 0 k ≠ s ∧ (k = 0 ∨ itX16 n t 0 k ≠ 0)) (he : itX16 n t 0 k0 = s ∨ (itX16 n t 0 k0 = 0 ∧ 0 < k0)) : ACalls Try.prog 28 [.pointer (some ⟨0, 0, none⟩), .int .u16 s] [.cells [.int .u16 b, .int .i64 n, .int .i64 t] 81] fun v H => v = .tuple #[.int .i64 (if itX16 n t 0 k0 = s then k0 else 0), .bool (decide (itX16 n t 0 k0 = s))] ∧ H = [.cells [.int .u16 b, .int .i64 n, .int .i64 t] 81] := by
  refine ACalls.codeR tabOk hNo Try.func28 Try.call28 rfl okPl16 ?_
  conv => whnf
  refine ACalls.useE (poly16_statesG _ _ _ _) [0] rfl (by (conv => whnf); try rfl) (by (conv => whnf); try rfl) ?_
  conv => whnf
  refine ARange.states tabOk hNo Try.func65 rfl rfl rfl Try.call54 Try.call65 6 5 0 rfl (k0 + 1) (by omega) (fun k => hkPl16 b n t s k k) (fun k => hkPl16 b n t s (k + 1) k) .u16 (itX16 n t 0) rfl (fun _ => rfl) (fun _ => rfl) ?_ ?_ ?_ ?_ ?_ rfl rfl rfl rfl (by simp) ?_
  · intro k; conv => whnf
  · intro k; conv => whnf
  · intro k; conv => whnf
  · intro k
    unfold hkPl16
    refine ACalls.useE (poly16_next b n t (itX16 n t 0 k) hn) [0] rfl (by (conv => whnf); try rfl) (by (conv => whnf); try rfl) ?_
    conv => whnf
    exact ⟨rfl, rfl⟩
  · intro k; conv => whnf
    rfl
  · intro k hk
    rw [← AWpR_eq, ← AWpR_eq]
    have ek : k ≤ 100000 → IntKind.i64.wrap ((k : Int) + 1) = ((k + 1 : Nat) : Int) := fun h => by rw [wrap64 (by omega) (by omega)]; rfl
    by_cases hlast : k = k0
    · subst hlast
      by_cases hs : itX16 n t 0 k = s
      · conv => whnf
        refine Bif.knT ?_ fun h0 => ?_
        · (simp [hs]; done)
        rw [h0]
        conv => whnf
        (simp [hs]; done)
      · have h0 : itX16 n t 0 k = 0 ∧ 0 < k := he.resolve_left hs
        have h1 : (k : Int) > 0 := by omega
        conv => whnf
        refine Bif.knF ?_ fun h0 => ?_
        · (simp [hs]; done)
        rw [h0]
        conv => whnf
        refine Bif.knT ?_ fun h1 => ?_
        · (simp [h1]; omega)
        rw [h1]
        conv => whnf
        refine Bif.knT ?_ fun h2 => ?_
        · (simp [h1]; omega)
        rw [h2]
        conv => whnf
        (simp [hs]; done)
    · have h2 := hb k (by omega)
      have ek1 := ek (by omega)
      rcases h2.2 with h3 | h3
      · subst h3
        conv => whnf
        refine Bif.knF ?_ fun h0 => ?_
        · (simp [h2.1]; done)
        rw [h0]
        conv => whnf
        (rw [ek1]; exact ⟨by omega, List.replicate 27 (.chan none), .inl ⟨rfl, trivial, rfl, rfl, rfl, rfl, rfl, rfl, rfl, rfl, rfl, rfl, rfl, rfl, rfl, rfl, trivial⟩⟩)
      · conv => whnf
        refine Bif.knF ?_ fun h0 => ?_
        · (simp [h2.1]; done)
        rw [h0]
        conv => whnf
        refine Bif.knF ?_ fun h1 => ?_
        · (simp [h3]; done)
        rw [h1]
        conv => whnf
        (rw [ek1]; exact ⟨by omega, List.replicate 27 (.chan none), .inl ⟨rfl, trivial, rfl, rfl, rfl, rfl, rfl, rfl, rfl, rfl, rfl, rfl, rfl, rfl, rfl, rfl, trivial⟩⟩)
def hkPe16 (b n t : Int) (m k : Nat) : List Blk := [.cells [.int .u16 b, .int .i64 n, .int .i64 t] 81, .cells [.pointer (some ⟨0, 0, none⟩)] 40, .cells [.int .i64 m] 3, .cells [.pointer (some ⟨0, 0, none⟩)] 40, .cells [.int .u16 (itX16 n t b (k + 1))] 37]
theorem period16 (b n t : Int) (hn : 1 ≤ n ∧ n ≤ 16 ∧ 0 ≤ t) (k0 : Nat) (hlt : k0 ≤ 100000) (hb : ∀ k, k < k0 → itX16 n t b (k + 1) ≠ b) (he : itX16 n t b (k0 + 1) = b) : ACalls Try.prog 25 [.pointer (some ⟨0, 0, none⟩)] [.cells [.int .u16 b, .int .i64 n, .int .i64 t] 81] fun v H => v = .int .i64 (k0 + 1 : Nat) ∧ H = [.cells [.int .u16 b, .int .i64 n, .int .i64 t] 81] := by
  refine ACalls.codeR tabOk hPer Try.func25 Try.call25 rfl okPe16 ?_
  conv => whnf
  refine ACalls.useE (poly16_next _ _ _ _ hn) [0] rfl (by (conv => whnf); try rfl) (by (conv => whnf); try rfl) ?_
  conv => whnf
  refine ⟨rfl, ?_⟩
  conv => whnf
  refine ⟨rfl, ?_⟩
  conv => whnf
  refine ACalls.useE (poly16_statesG _ _ _ _) [0] rfl (by (conv => whnf); try rfl) (by (conv => whnf); try rfl) ?_
  conv => whnf
  refine ⟨rfl, ?_⟩
  conv => whnf
  refine ARange.states tabOk hPer Try.func65 rfl rfl rfl Try.call54 Try.call65 4 3 0 rfl (k0 + 1) (by omega) (fun k => hkPe16 b n t k k) (fun k => hkPe16 b n t (k + 1) k) .u16 (fun k => itX16 n t b (k + 1)) rfl (fun _ => rfl) (fun _ => rfl) ?_ ?_ ?_ ?_ ?_ rfl rfl rfl rfl (by simp) ?_
  · intro k; conv => whnf
  · intro k; conv => whnf
  · intro k; conv => whnf
  · intro k
    unfold hkPe16
    refine ACalls.useE (poly16_next b n t (itX16 n t b (k + 1)) hn) [0] rfl (by (conv => whnf); try rfl) (by (conv => whnf); try rfl) ?_
    conv => whnf
    exact ⟨rfl, rfl⟩
  · intro k; conv => whnf
    rfl
  · intro k hk
    rw [← AWpR_eq, ← AWpR_eq]
    have ek : IntKind.i64.wrap ((k : Int) + 1) = ((k + 1 : Nat) : Int) := by rw [wrap64 (by omega) (by omega)]; rfl
    by_cases hlast : k = k0
    · subst hlast
      have h9 : (itX16 n t b (k + 1) == b) = true := by rw [he]; simp
      conv => whnf
      refine Bif.knT ?_ fun h0 => ?_
      · with_reducible assumption
      rw [h0]
      conv => whnf
      (rw [ek]; exact ⟨rfl, rfl⟩)
    · have h9 : (itX16 n t b (k + 1) == b) = false := beq_eq_false_iff_ne.2 (hb k (by omega))
      conv => whnf
      refine Bif.knF ?_ fun h0 => ?_
      · with_reducible assumption
      rw [h0]
      conv => whnf
      (rw [ek]; exact ⟨by omega, List.replicate 25 (.chan none), .inl ⟨rfl, trivial, rfl, rfl, rfl, rfl, rfl, rfl, rfl, rfl, rfl, rfl, trivial⟩⟩)
def hkBi16 (b n t : Int) (N m k : Nat) : List Blk := [.cells [.int .u16 b, .int .i64 n, .int .i64 t] 81, .cells [.int .i64 N] 3, .cells (rowI .u8 (fun j => lo16 (itX16 n t b j)) m N) 5, .cells [.slice (some ⟨2, 0, none⟩) m N] 32, .cells [.pointer (some ⟨0, 0, none⟩)] 40, .cells [.int .u16 (itX16 n t b k)] 37]
theorem bits16 (b n t : Int) (hn : 1 ≤ n ∧ n ≤ 16 ∧ 0 ≤ t) (N : Nat) (hN : 1 ≤ N ∧ N ≤ 1048576) : ACalls Try.prog 24 [.pointer (some ⟨0, 0, none⟩), .int .i64 N] [.cells [.int .u16 b, .int .i64 n, .int .i64 t] 81] fun v H => v = .slice (some ⟨1, 0, none⟩) N N ∧ H = [.cells [.int .u16 b, .int .i64 n, .int .i64 t] 81, .cells (rowI .u8 (fun j => lo16 (itX16 n t b j)) N N) 5] := by
  refine ACalls.codeRW tabOk hNo Try.func24 Try.call24 rfl okBi16 ?_
  conv => whnf
  refine Bif.knF ?_ fun h0 => ?_
  · (simp; omega)
  rw [h0]
  conv => whnf
  refine Bif.knF ?_ fun h1 => ?_
  · (simp; omega)
  rw [h1]
  conv => whnf
  refine Req.of ?_ ?_
  · (simp; omega)
  conv => whnf
  refine ACalls.useE (poly16_statesG _ _ _ _) [0] rfl (by (conv => whnf); try rfl) (by (conv => whnf); try rfl) ?_
  conv => whnf
  refine ARange.states tabOk hNo Try.func65 rfl rfl rfl Try.call54 Try.call65 5 4 0 rfl N (by omega) (fun k => hkBi16 b n t N k k) (fun k => hkBi16 b n t N (k + 1) k) .u16 (itX16 n t b) (by unfold hkBi16; rw [← repl_row]; rfl) (fun _ => rfl) (fun _ => rfl) ?_ ?_ ?_ ?_ ?_ rfl rfl rfl rfl (by simp) ?_
  · intro k; conv => whnf
  · intro k; conv => whnf
  · intro k; conv => whnf
  · intro k
    unfold hkBi16
    refine ACalls.useE (poly16_next b n t (itX16 n t b k) hn) [0] rfl (by (conv => whnf); try rfl) (by (conv => whnf); try rfl) ?_
    conv => whnf
    exact ⟨rfl, rfl⟩
  · intro k; conv => whnf
    rfl
  · intro k hk
    rw [← AWpR_eq, ← AWpR_eq]
    by_cases hlast : k + 1 = N
    · conv => whnf
      refine Bif.knT ?_ fun h0 => ?_
      · (simp; omega)
      conv => whnf
      refine putF_row (f := fun j => lo16 (itX16 n t b j)) (by omega) (by first | omega | (dsimp only; omega)) rfl ?_
      conv => whnf
      refine Bif.knT ?_ fun h1 => ?_
      · (simp; omega)
      rw [h1]
      conv => whnf
      subst hlast
      exact wk_of (v2 := .slice (some ⟨1, 0, none⟩) (k + 1) (k + 1)) (H2 := [.cells [.int .u16 b, .int .i64 n, .int .i64 t] 81, .cells (rowI .u8 (fun j => lo16 (itX16 n t b j)) (k + 1) (k + 1)) 5]) [0, 2] rfl (by (conv => whnf); try rfl) ⟨⟨_, rfl, BW.lit (by (conv => whnf); try rfl)⟩, ⟨_, rfl, BW.row rfl⟩, trivial⟩ ⟨rfl, rfl⟩
    · conv => whnf
      refine Bif.knT ?_ fun h0 => ?_
      · (simp; omega)
      conv => whnf
      refine putF_row (f := fun j => lo16 (itX16 n t b j)) (by omega) (by first | omega | (dsimp only; omega)) rfl ?_
      conv => whnf
      refine Bif.knF ?_ fun h1 => ?_
      · (simp; omega)
      rw [h1]
      conv => whnf
      exact ⟨by omega, List.replicate 37 (.chan none), .inl ⟨rfl, trivial, rfl, rfl, rfl, rfl, row_all fun _ => rfl, rfl, rfl, rfl, rfl, rfl, rfl, rfl, trivial⟩⟩
end Go.Proofs
