/-
  Walks through the functions of the program, by contract.
-/
import Derived.Test.YtmdiokmkokjpiaaGreatZaF
set_option linter.all false
set_option linter.unusedVariables false
set_option linter.unusedSimpArgs false
set_option linter.unnecessarySimpa false
namespace Go.Proofs
open Go.Aw
set_option maxRecDepth 100000
set_option maxHeartbeats 8000000
/-- The state of the poly of six behind so many steps. -/
@[irreducible] def mk (n : Nat) : Int := itX8 6 1 0 n
theorem mk_succ (n : Nat) : nx8 6 1 (mk n) = mk (n + 1) := by unfold mk; rfl
theorem mk_zero : mk 0 = 0 := by unfold mk; rfl
def mkTab : List Int := [0, 32, 48, 56, 60, 62, 31, 47, 55, 59, 61, 30, 15, 39, 51, 57, 28, 46, 23, 43, 53, 26, 13, 6, 3, 33, 16, 40, 52, 58, 29, 14, 7, 35, 49, 24, 44, 54, 27, 45, 22, 11, 37, 18, 9, 4, 34, 17, 8, 36, 50, 25, 12, 38, 19, 41, 20, 42, 21, 10, 5, 2, 1, 0]
theorem mk_tab : ∀ k : Fin 64, itX8 6 1 0 k.val = mkTab.getD k.val 0 := by decide +kernel
theorem mk_val {k : Nat} (h : k < 64) : mk k = mkTab.getD k 0 := by unfold mk; exact mk_tab ⟨k, h⟩
theorem tab_inj : ∀ a b : Fin 63, mkTab.getD a.val 0 = mkTab.getD b.val 0 → a = b := by decide +kernel
theorem mk_inj {a b : Nat} (ha : a < 63) (hb : b < 63) (h : mk a = mk b) : a = b := by
  rw [mk_val (by omega), mk_val (by omega)] at h
  have := tab_inj ⟨a, ha⟩ ⟨b, hb⟩ h
  exact congrArg Fin.val this
theorem mk_ne {a b : Nat} (ha : a < 63) (hb : b < 63) (h : a ≠ b) : mk a ≠ mk b := fun e => h (mk_inj ha hb e)
theorem mk_byte {k : Nat} (h : k < 64) : 0 ≤ mk k ∧ mk k ≤ 63 := by
  have key : ∀ k : Fin 64, 0 ≤ mkTab.getD k.val 0 ∧ mkTab.getD k.val 0 ≤ 63 := by decide +kernel
  rw [mk_val h]; exact key ⟨k, h⟩
theorem poly8_state (s n t : Int) : ACalls Tryz.prog 84 [.pointer (some ⟨0, 0, none⟩)] [.cells [.int .u8 s, .int .i64 n, .int .i64 t] 127] fun v H => v = .int .u8 s ∧ H = [.cells [.int .u8 s, .int .i64 n, .int .i64 t] 127] := by
  refine ACalls.code tabOk h84 Tryz.func84 Tryz.call84 ok84 ?_
  conv => whnf
  exact ⟨rfl, rfl⟩
theorem poly6_set (s b : Int) (hb : 0 ≤ b ∧ b ≤ 63) : ACalls Tryz.prog 100 [.pointer (some ⟨0, 0, none⟩), .int .u8 b] [.cells [.int .u8 s, .int .i64 6, .int .i64 1] 127] fun v H => v = .int .i64 0 ∧ H = [.cells [.int .u8 b, .int .i64 6, .int .i64 1] 127] := by
  have e : ((IntKind.i64.wrap b).fdiv (2 ^ min (6 : Int).toNat IntKind.i64.bits) != 0) = false := by
    rw [wrap64 (by omega) (by omega), show (2 : Int) ^ min (6 : Int).toNat IntKind.i64.bits = 64 from by decide, Int.fdiv_eq_ediv_of_nonneg _ (by decide)]
    simp; omega
  refine ACalls.code tabOk h100 Tryz.func100 Tryz.call100 ok100 ?_
  conv => whnf
  rw [e]
  conv => whnf
  exact ⟨rfl, rfl⟩
theorem cnt_mark (n : Nat) (hn : n ≤ 63) : ACalls Tryz.prog 78 [.int .i64 n] [] fun v H => v = .int .u8 (mk n) ∧ H = [] := by
  refine ACalls.code tabOk h78 Tryz.func78 Tryz.call78 ok78 ?_
  conv => whnf
  refine ACalls.useE (poly8_new _ _ ?_) [] rfl (by (conv => whnf); try rfl) (by (conv => whnf); try rfl) ?_
  · decide
  conv => whnf
  refine ALoop.fd (σ := Nat) (fun i => [.int .i64 n, .chan none, .chan none, .pointer (some ⟨0, 0, none⟩), .chan none, .int .i64 n, .int .i64 i, .chan none, .chan none, .chan none, .chan none, .chan none, .chan none]) (fun i => [.cells [.int .u8 (mk i), .int .i64 6, .int .i64 1] 127]) (fun i => i ≤ n) (fun i => n - i) 0 [] rfl (by rw [mk_zero]; rfl) (Nat.zero_le _) (fun i => ⟨rfl, rfl, rfl, rfl⟩) ?_
  intro i hi R hR
  by_cases hlt : i < n
  · have ei : IntKind.i64.wrap ((i : Int) + 1) = ((i + 1 : Nat) : Int) := by rw [wrap64 (by omega) (by omega)]; rfl
    have es := mk_succ i
    conv => whnf
    refine Bif.knT ?_ fun h0 => ?_
    · (clear hR; simp; omega)
    rw [h0]
    conv => whnf
    refine ACalls.useE (poly8_step _ _ _ ?_) [0] rfl (by (conv => whnf); try rfl) (by (conv => whnf); try rfl) ?_
    · decide
    conv => whnf
    rw [es]
    conv => whnf
    (rw [ei]; exact hR (i + 1) _ _ [] rfl rfl (by omega) (by omega))
  · obtain rfl : n = i := by omega
    clear hR
    conv => whnf
    refine Bif.knF ?_ fun h0 => ?_
    · (simp; done)
    rw [h0]
    conv => whnf
    refine ACalls.useE (poly8_state _ _ _) [0] rfl (by (conv => whnf); try rfl) (by (conv => whnf); try rfl) ?_
    conv => whnf
    exact ⟨rfl, rfl⟩
theorem poly6_place (b : Int) (k : Nat) (hk : k < 63) : ACalls Tryz.prog 101 [.pointer (some ⟨0, 0, none⟩), .int .u8 (mk k)] [.cells [.int .u8 b, .int .i64 6, .int .i64 1] 127] fun v H => v = .tuple #[.int .i64 k, .bool true] ∧ H = [.cells [.int .u8 b, .int .i64 6, .int .i64 1] 127] := by
  have hm : ∀ j, itX8 6 1 0 j = mk j := fun j => by unfold mk; rfl
  have := place8 b 6 1 (by decide) (mk k) k (by omega) (fun j hj => ⟨by rw [hm]; exact mk_ne (by omega) hk (by omega), by
    rw [hm]
    by_cases h0 : j = 0
    · exact .inl h0
    · right; rw [← mk_zero]; exact mk_ne (by omega) (by omega) h0⟩) (.inl (hm k))
  rw [if_pos (hm k), decide_eq_true (hm k)] at this
  exact this
/-- A counter's cells. -/
abbrev cnH (n l : Int) (k : Nat) : List Blk := [.cells [.pointer (some ⟨1, 0, none⟩), .int .u8 l, .int .i64 n] 122, .cells [.int .u8 (mk k), .int .i64 6, .int .i64 1] 127]
theorem cnt_of (n : Nat) (hn : 1 ≤ n ∧ n ≤ 63) : ACalls Tryz.prog 52 [.int .i64 n] [] fun v H => v = .pointer (some ⟨0, 0, none⟩) ∧ H = cnH n (mk (n - 1)) 0 := by
  have e : IntKind.i64.wrap ((n : Int) - 1) = ((n - 1 : Nat) : Int) := by rw [wrap64 (by omega) (by omega)]; omega
  refine ACalls.codeN tabOk h52 Tryz.func52 Tryz.call52 ok52 [1, 0] ?_
  conv => whnf
  refine Bif.knF ?_ fun h0 => ?_
  · (simp; omega)
  rw [h0]
  conv => whnf
  refine Bif.knF ?_ fun h1 => ?_
  · (simp; omega)
  rw [h1]
  conv => whnf
  refine ACalls.useE (poly8_new _ _ ?_) [] rfl (by (conv => whnf); try rfl) (by (conv => whnf); try rfl) ?_
  · decide
  conv => whnf
  rw [e]
  refine ACalls.useE (cnt_mark _ ?_) [] rfl (by (conv => whnf); try rfl) (by (conv => whnf); try rfl) ?_
  · omega
  conv => whnf
  (unfold cnH; rw [mk_zero]; exact ⟨rfl, rfl⟩)
theorem cnt_count (n l : Int) (k : Nat) (hk : k < 63) : ACalls Tryz.prog 85 [.pointer (some ⟨0, 0, none⟩)] (cnH n l k) fun v H => v = .int .i64 k ∧ H = cnH n l k := by
  refine ACalls.code tabOk h85 Tryz.func85 Tryz.call85 ok85 ?_
  conv => whnf
  refine ACalls.useE (poly8_state _ _ _) [1] rfl (by (conv => whnf); try rfl) (by (conv => whnf); try rfl) ?_
  conv => whnf
  refine ⟨rfl, ?_⟩
  conv => whnf
  refine ACalls.useE (poly6_place _ _ ?_) [1] rfl (by (conv => whnf); try rfl) (by (conv => whnf); try rfl) ?_
  · omega
  conv => whnf
  exact ⟨rfl, rfl⟩
theorem cnt_at (n k i : Nat) (l : Int) (hn : n ≤ 63) (hk : k < n) (hi : i < n) : ACalls Tryz.prog 66 [.pointer (some ⟨0, 0, none⟩), .int .i64 i] (cnH n l k) fun v H => v = .bool (decide (k = i)) ∧ H = cnH n l k := by
  have e : (mk k == mk i) = decide (k = i) := by
    by_cases h : k = i
    · subst h; simp
    · rw [decide_eq_false h]; simpa using mk_ne (by omega) (by omega) h
  refine ACalls.code tabOk h66 Tryz.func66 Tryz.call66 ok66 ?_
  conv => whnf
  refine Bif.knT ?_ fun h0 => ?_
  · (simp; omega)
  rw [h0]
  conv => whnf
  refine ACalls.useE (poly8_state _ _ _) [1] rfl (by (conv => whnf); try rfl) (by (conv => whnf); try rfl) ?_
  conv => whnf
  refine ACalls.useE (cnt_mark _ ?_) [] rfl (by (conv => whnf); try rfl) (by (conv => whnf); try rfl) ?_
  · omega
  conv => whnf
  rw [e]
  conv => whnf
  exact ⟨rfl, rfl⟩
theorem cnt_set (n k i : Nat) (l : Int) (hn : n ≤ 63) (hi : i < n) : ACalls Tryz.prog 80 [.pointer (some ⟨0, 0, none⟩), .int .i64 i] (cnH n l k) fun v H => v = .int .i64 0 ∧ H = cnH n l i := by
  have hb := mk_byte (k := i) (by omega)
  refine ACalls.code tabOk h80 Tryz.func80 Tryz.call80 ok80 ?_
  conv => whnf
  refine Bif.knF ?_ fun h0 => ?_
  · (simp; omega)
  rw [h0]
  conv => whnf
  refine ACalls.useE (cnt_mark _ ?_) [] rfl (by (conv => whnf); try rfl) (by (conv => whnf); try rfl) ?_
  · omega
  conv => whnf
  refine ⟨rfl, ?_⟩
  conv => whnf
  refine ACalls.useE (poly6_set _ _ ?_) [1] rfl (by (conv => whnf); try rfl) (by (conv => whnf); try rfl) ?_
  · omega
  conv => whnf
  exact ⟨rfl, rfl⟩
theorem cnt_tick (n k : Nat) (l : Int) (hn : n ≤ 63) (hk : k < n) (hl : l = mk (n - 1)) : ACalls Tryz.prog 98 [.pointer (some ⟨0, 0, none⟩)] (cnH n l k) fun v H => v = .bool (decide (k + 1 = n)) ∧ H = cnH n l (if k + 1 = n then 0 else k + 1) := by
  by_cases h : k + 1 = n
  · have e : (mk k == l) = true := by rw [hl, show n - 1 = k by omega]; simp
    have e2 : decide (k + 1 = n) = true := decide_eq_true h
    rw [if_pos h, e2]
    refine ACalls.code tabOk h98 Tryz.func98 Tryz.call98 ok98 ?_
    conv => whnf
    refine ACalls.useE (poly8_state _ _ _) [1] rfl (by (conv => whnf); try rfl) (by (conv => whnf); try rfl) ?_
    conv => whnf
    refine ⟨rfl, ?_⟩
    conv => whnf
    rw [e]
    conv => whnf
    refine ACalls.useE (poly6_set _ _ ?_) [1] rfl (by (conv => whnf); try rfl) (by (conv => whnf); try rfl) ?_
    · decide
    conv => whnf
    (unfold cnH; rw [mk_zero]; exact ⟨rfl, rfl⟩)
  · have e : (mk k == l) = false := by rw [hl]; simpa using mk_ne (a := k) (b := n - 1) (by omega) (by omega) (by omega)
    have e2 : decide (k + 1 = n) = false := decide_eq_false h
    have es := mk_succ k
    rw [if_neg h, e2]
    refine ACalls.code tabOk h98 Tryz.func98 Tryz.call98 ok98 ?_
    conv => whnf
    refine ACalls.useE (poly8_state _ _ _) [1] rfl (by (conv => whnf); try rfl) (by (conv => whnf); try rfl) ?_
    conv => whnf
    refine ⟨rfl, ?_⟩
    conv => whnf
    rw [e]
    conv => whnf
    refine ACalls.useE (poly8_step _ _ _ ?_) [1] rfl (by (conv => whnf); try rfl) (by (conv => whnf); try rfl) ?_
    · decide
    conv => whnf
    rw [es]
    conv => whnf
    exact ⟨rfl, rfl⟩
theorem div_by : ACalls Tryz.prog 51 [.int .i64 4] [] fun v H => v = .pointer (some ⟨0, 0, none⟩) ∧ H = [.cells [.int .i64 0, .int .i64 4] 120] := by
  refine ACalls.codeN tabOk h51 Tryz.func51 Tryz.call51 ok51 [0] ?_
  conv => whnf
  exact ⟨rfl, rfl⟩
theorem div_tick (a : Nat) (ha : a < 4) : ACalls Tryz.prog 97 [.pointer (some ⟨0, 0, none⟩)] [.cells [.int .i64 a, .int .i64 4] 120] fun v H => v = .bool (decide (a = 3)) ∧ H = [.cells [.int .i64 ((a + 1) % 4 : Nat), .int .i64 4] 120] := by
  have e : IntKind.i64.wrap ((a : Int) + 1) = ((a + 1 : Nat) : Int) := by rw [wrap64 (by omega) (by omega)]; omega
  by_cases h : a = 3
  · subst h
    refine ACalls.code tabOk h97 Tryz.func97 Tryz.call97 ok97 ?_
    conv => whnf
    refine ACalls.code tabOk h107 Tryz.func107 Tryz.call107 ok107 ?_
    conv => whnf
    exact ⟨rfl, rfl⟩
  · have e2 : decide (a = 3) = false := decide_eq_false h
    have e3 : (a + 1) % 4 = a + 1 := by omega
    rw [e2, e3]
    refine ACalls.code tabOk h97 Tryz.func97 Tryz.call97 ok97 ?_
    conv => whnf
    refine ACalls.code tabOk h107 Tryz.func107 Tryz.call107 ok107 ?_
    conv => whnf
    rw [e]
    conv => whnf
    refine Bif.knF ?_ fun h0 => ?_
    · (simp; omega)
    rw [h0]
    conv => whnf
    rw [e]
    conv => whnf
    exact ⟨rfl, rfl⟩
theorem div_count (a n : Int) : ACalls Tryz.prog 65 [.pointer (some ⟨0, 0, none⟩)] [.cells [.int .i64 a, .int .i64 n] 120] fun v H => v = .int .i64 a ∧ H = [.cells [.int .i64 a, .int .i64 n] 120] := by
  refine ACalls.code tabOk h65 Tryz.func65 Tryz.call65 ok65 ?_
  conv => whnf
  exact ⟨rfl, rfl⟩
theorem div_set (a : Int) (b : Nat) (hb : b < 4) : ACalls Tryz.prog 79 [.pointer (some ⟨0, 0, none⟩), .int .i64 b] [.cells [.int .i64 a, .int .i64 4] 120] fun v H => v = .int .i64 0 ∧ H = [.cells [.int .i64 b, .int .i64 4] 120] := by
  refine ACalls.code tabOk h79 Tryz.func79 Tryz.call79 ok79 ?_
  conv => whnf
  refine Bif.knF ?_ fun h0 => ?_
  · (simp; omega)
  rw [h0]
  conv => whnf
  exact ⟨rfl, rfl⟩
end Go.Proofs
