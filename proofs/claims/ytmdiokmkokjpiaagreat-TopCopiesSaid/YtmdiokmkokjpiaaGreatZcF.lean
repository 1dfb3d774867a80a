/-
  Walks through the functions of the program, by contract.
-/
import Derived.Test.YtmdiokmkokjpiaaGreatZbF
set_option linter.all false
set_option linter.unusedVariables false
set_option linter.unusedSimpArgs false
set_option linter.unnecessarySimpa false
namespace Go.Proofs
open Go.Aw
set_option maxRecDepth 100000
set_option maxHeartbeats 8000000
theorem mk39 : (45 : Int) = mk (40 - 1) := by rw [mk_val (by decide)]; rfl
theorem mk56 : (20 : Int) = mk (57 - 1) := by rw [mk_val (by decide)]; rfl
/-- A place's cells. -/
abbrev plH (p : Nat) : List Blk := [.cells [.pointer (some ⟨1, 0, none⟩), .pointer (some ⟨2, 0, none⟩)] 125, .cells [.int .i64 (p % 4 : Nat), .int .i64 4] 120, .cells [.pointer (some ⟨3, 0, none⟩), .int .u8 45, .int .i64 40] 122, .cells [.int .u8 (mk (p / 4)), .int .i64 6, .int .i64 1] 127]
theorem cnt_of40 : ACalls Tryz.prog 52 [.int .i64 40] [] fun v H => v = .pointer (some ⟨0, 0, none⟩) ∧ H = cnH 40 45 0 := by rw [mk39]; exact cnt_of 40 (by decide)
theorem cnt_of57 : ACalls Tryz.prog 52 [.int .i64 57] [] fun v H => v = .pointer (some ⟨0, 0, none⟩) ∧ H = cnH 57 20 0 := by rw [mk56]; exact cnt_of 57 (by decide)
theorem pl_begin : ACalls Tryz.prog 54 [] [] fun v H => v = .pointer (some ⟨0, 0, none⟩) ∧ H = plH 0 := by
  refine ACalls.codeN tabOk h54 Tryz.func54 Tryz.call54 ok54 [3, 0, 1, 2] ?_
  conv => whnf
  refine ACalls.useE (div_by) [] rfl (by (conv => whnf); try rfl) (by (conv => whnf); try rfl) ?_
  conv => whnf
  refine ACalls.useE (cnt_of40) [] rfl (by (conv => whnf); try rfl) (by (conv => whnf); try rfl) ?_
  conv => whnf
  exact ⟨rfl, rfl⟩
theorem pl_tick (p : Nat) (hp : p < 160) : ACalls Tryz.prog 86 [.pointer (some ⟨0, 0, none⟩)] (plH p) fun v H => v = .bool (decide (p = 159)) ∧ H = plH ((p + 1) % 160) := by
  have ha : (p % 4 + 1) % 4 = (p + 1) % 160 % 4 := by omega
  by_cases h3 : p % 4 = 3
  · have e1 : decide (p % 4 = 3) = true := decide_eq_true h3
    have e2 : (if p / 4 + 1 = 40 then 0 else p / 4 + 1) = (p + 1) % 160 / 4 := by split <;> omega
    have e5 : decide (p / 4 + 1 = 40) = decide (p = 159) := by
      by_cases h : p = 159
      · rw [decide_eq_true h, decide_eq_true (by omega)]
      · rw [decide_eq_false h, decide_eq_false (by omega)]
    refine ACalls.code tabOk h86 Tryz.func86 Tryz.call86 ok86 ?_
    conv => whnf
    refine ACalls.useE (div_tick _ ?_) [1] rfl (by (conv => whnf); try rfl) (by (conv => whnf); try rfl) ?_
    · omega
    conv => whnf
    rw [e1]
    conv => whnf
    refine ACalls.useE (cnt_tick 40 _ 45 ?_ ?_ ?_) [2, 3] rfl (by (conv => whnf); try rfl) (by (conv => whnf); try rfl) ?_
    · decide
    · omega
    · exact mk39
    conv => whnf
    (unfold plH; rw [ha, e2, e5]; exact ⟨rfl, rfl⟩)
  · have e1 : decide (p % 4 = 3) = false := decide_eq_false h3
    have e2 : p / 4 = (p + 1) % 160 / 4 := by omega
    have e5 : decide (p = 159) = false := decide_eq_false (by omega)
    refine ACalls.code tabOk h86 Tryz.func86 Tryz.call86 ok86 ?_
    conv => whnf
    refine ACalls.useE (div_tick _ ?_) [1] rfl (by (conv => whnf); try rfl) (by (conv => whnf); try rfl) ?_
    · omega
    conv => whnf
    rw [e1]
    conv => whnf
    (unfold plH; rw [ha, ← e2, e5]; exact ⟨rfl, rfl⟩)
theorem pl_count (p : Nat) (hp : p < 160) : ACalls Tryz.prog 83 [.pointer (some ⟨0, 0, none⟩)] (plH p) fun v H => v = .int .i64 p ∧ H = plH p := by
  have e : IntKind.i64.wrap (IntKind.i64.wrap (4 * ((p / 4 : Nat) : Int)) + ((p % 4 : Nat) : Int)) = p := by rw [wrap64 (n := 4 * _) (by omega) (by omega), wrap64 (by omega) (by omega)]; omega
  refine ACalls.code tabOk h83 Tryz.func83 Tryz.call83 ok83 ?_
  conv => whnf
  refine ACalls.useE (cnt_count _ _ _ ?_) [2, 3] rfl (by (conv => whnf); try rfl) (by (conv => whnf); try rfl) ?_
  · omega
  conv => whnf
  refine ⟨rfl, ?_⟩
  conv => whnf
  refine ACalls.useE (div_count _ _) [1] rfl (by (conv => whnf); try rfl) (by (conv => whnf); try rfl) ?_
  conv => whnf
  (rw [e]; exact ⟨rfl, rfl⟩)
theorem pl_at (p i : Nat) (hp : p < 160) (hi : i < 160) : ACalls Tryz.prog 104 [.pointer (some ⟨0, 0, none⟩), .int .i64 i] (plH p) fun v H => v = .bool (decide (p = i)) ∧ H = plH p := by
  have em : ((i : Int)).tmod 4 = ((i % 4 : Nat) : Int) := by rw [Int.tmod_eq_emod_of_nonneg (by omega)]; omega
  have ed : IntKind.i64.wrap ((i : Int).tdiv 4) = ((i / 4 : Nat) : Int) := by rw [Int.tdiv_eq_ediv_of_nonneg (by omega), wrap64 (by omega) (by omega)]; omega
  have e2 : (((p % 4 : Nat) : Int) == ((i % 4 : Nat) : Int)) = decide (p % 4 = i % 4) := by
    by_cases h : p % 4 = i % 4
    · rw [h]; simp
    · rw [decide_eq_false h]; simpa using by omega
  by_cases h3 : p % 4 = i % 4
  · have e1 : decide (p % 4 = i % 4) = true := decide_eq_true h3
    have e3 : decide (p / 4 = i / 4) = decide (p = i) := by
      by_cases h : p = i
      · subst h; simp
      · rw [decide_eq_false h, decide_eq_false (by omega)]
    refine ACalls.code tabOk h104 Tryz.func104 Tryz.call104 ok104 ?_
    conv => whnf
    refine Bif.knT ?_ fun h0 => ?_
    · (simp; omega)
    rw [h0]
    conv => whnf
    refine ACalls.useE (div_count _ _) [1] rfl (by (conv => whnf); try rfl) (by (conv => whnf); try rfl) ?_
    conv => whnf
    rw [em]
    conv => whnf
    rw [e2]
    conv => whnf
    rw [e1]
    conv => whnf
    rw [ed]
    refine ACalls.useE (cnt_at 40 _ _ 45 ?_ ?_ ?_) [2, 3] rfl (by (conv => whnf); try rfl) (by (conv => whnf); try rfl) ?_
    · decide
    · omega
    · omega
    conv => whnf
    (simp; omega)
  · have e1 : decide (p % 4 = i % 4) = false := decide_eq_false h3
    have e3 : decide (p = i) = false := decide_eq_false (by intro h; subst h; exact h3 rfl)
    refine ACalls.code tabOk h104 Tryz.func104 Tryz.call104 ok104 ?_
    conv => whnf
    refine Bif.knT ?_ fun h0 => ?_
    · (simp; omega)
    rw [h0]
    conv => whnf
    refine ACalls.useE (div_count _ _) [1] rfl (by (conv => whnf); try rfl) (by (conv => whnf); try rfl) ?_
    conv => whnf
    rw [em]
    conv => whnf
    rw [e2]
    conv => whnf
    rw [e1]
    conv => whnf
    (simp; omega)
theorem pl_set (p i : Nat) (hi : i < 160) : ACalls Tryz.prog 58 [.pointer (some ⟨0, 0, none⟩), .int .i64 i] (plH p) fun v H => v = .int .i64 0 ∧ H = plH i := by
  have em : ((i : Int)).tmod 4 = ((i % 4 : Nat) : Int) := by rw [Int.tmod_eq_emod_of_nonneg (by omega)]; omega
  have ed : IntKind.i64.wrap ((i : Int).tdiv 4) = ((i / 4 : Nat) : Int) := by rw [Int.tdiv_eq_ediv_of_nonneg (by omega), wrap64 (by omega) (by omega)]; omega
  refine ACalls.code tabOk h58 Tryz.func58 Tryz.call58 ok58 ?_
  conv => whnf
  refine Bif.knF ?_ fun h0 => ?_
  · (simp; omega)
  rw [h0]
  conv => whnf
  rw [em]
  refine ACalls.useE (div_set _ _ ?_) [1] rfl (by (conv => whnf); try rfl) (by (conv => whnf); try rfl) ?_
  · omega
  conv => whnf
  rw [ed]
  refine ACalls.useE (cnt_set 40 _ _ 45 ?_ ?_) [2, 3] rfl (by (conv => whnf); try rfl) (by (conv => whnf); try rfl) ?_
  · decide
  · omega
  conv => whnf
  exact ⟨rfl, rfl⟩
/-! The beam -/
/-- A beam's cells. -/
abbrev bmH (c : Nat) (late : Bool) : List Blk := [.cells [.pointer (some ⟨1, 0, none⟩), .pointer (some ⟨2, 0, none⟩), .bool late] 93, .cells [.int .i64 (c % 4 : Nat), .int .i64 4] 120, .cells [.pointer (some ⟨3, 0, none⟩), .int .u8 20, .int .i64 57] 122, .cells [.int .u8 (mk (c / 4)), .int .i64 6, .int .i64 1] 127]
theorem bm_new (c : Nat) (hc : c < 228) : ACalls Tryz.prog 15 [.int .i64 c] [] fun v H => v = .pointer (some ⟨0, 0, none⟩) ∧ H = bmH c false := by
  have em : ((c : Int)).tmod 4 = ((c % 4 : Nat) : Int) := by rw [Int.tmod_eq_emod_of_nonneg (by omega)]; omega
  have ed : IntKind.i64.wrap ((c : Int).tdiv 4) = ((c / 4 : Nat) : Int) := by rw [Int.tdiv_eq_ediv_of_nonneg (by omega), wrap64 (by omega) (by omega)]; omega
  refine ACalls.codeN tabOk h15 Tryz.func15 Tryz.call15 ok15 [3, 0, 1, 2] ?_
  conv => whnf
  refine ACalls.code tabOk h50 Tryz.func50 Tryz.call50 ok50 ?_
  conv => whnf
  refine Bif.knF ?_ fun h0 => ?_
  · (simp; omega)
  rw [h0]
  conv => whnf
  refine ACalls.useE (div_by) [] rfl (by (conv => whnf); try rfl) (by (conv => whnf); try rfl) ?_
  conv => whnf
  refine ACalls.useE (cnt_of57) [] rfl (by (conv => whnf); try rfl) (by (conv => whnf); try rfl) ?_
  conv => whnf
  refine ACalls.code tabOk h53 Tryz.func53 Tryz.call53 ok53 ?_
  conv => whnf
  rw [em]
  refine ACalls.useE (div_set _ _ ?_) [0] rfl (by (conv => whnf); try rfl) (by (conv => whnf); try rfl) ?_
  · omega
  conv => whnf
  rw [ed]
  refine ACalls.useE (cnt_set 57 _ _ 20 ?_ ?_) [1, 2] rfl (by (conv => whnf); try rfl) (by (conv => whnf); try rfl) ?_
  · decide
  · omega
  conv => whnf
  exact ⟨rfl, rfl⟩
theorem bm_clock (c : Nat) (l : Bool) (hc : c < 228) : ACalls Tryz.prog 36 [.pointer (some ⟨0, 0, none⟩)] (bmH c l) fun v H => v = .int .i64 c ∧ H = bmH c l := by
  have e : IntKind.i64.wrap (IntKind.i64.wrap (4 * ((c / 4 : Nat) : Int)) + ((c % 4 : Nat) : Int)) = c := by rw [wrap64 (n := 4 * _) (by omega) (by omega), wrap64 (by omega) (by omega)]; omega
  refine ACalls.code tabOk h36 Tryz.func36 Tryz.call36 ok36 ?_
  conv => whnf
  refine ACalls.code tabOk h67 Tryz.func67 Tryz.call67 ok67 ?_
  conv => whnf
  refine ACalls.code tabOk h68 Tryz.func68 Tryz.call68 ok68 ?_
  conv => whnf
  refine ACalls.useE (cnt_count _ _ _ ?_) [2, 3] rfl (by (conv => whnf); try rfl) (by (conv => whnf); try rfl) ?_
  · omega
  conv => whnf
  refine ⟨rfl, ?_⟩
  conv => whnf
  refine ACalls.useE (div_count _ _) [1] rfl (by (conv => whnf); try rfl) (by (conv => whnf); try rfl) ?_
  conv => whnf
  (rw [e]; exact ⟨rfl, rfl⟩)
theorem bm_begin (c : Nat) (l : Bool) (hc : c < 228) : ACalls Tryz.prog 34 [.pointer (some ⟨0, 0, none⟩)] (bmH c l) fun v H => v = .bool (decide (c = 0)) ∧ H = bmH c (l && !decide (c = 0)) := by
  by_cases h : c = 0
  · subst h
    refine ACalls.code tabOk h34 Tryz.func34 Tryz.call34 ok34 ?_
    conv => whnf
    refine ACalls.useE (div_count _ _) [1] rfl (by (conv => whnf); try rfl) (by (conv => whnf); try rfl) ?_
    conv => whnf
    refine ACalls.useE (cnt_at 57 _ _ 20 ?_ ?_ ?_) [2, 3] rfl (by (conv => whnf); try rfl) (by (conv => whnf); try rfl) ?_
    · decide
    · decide
    · decide
    conv => whnf
    (simp; done)
  · have e0 : decide (c = 0) = false := decide_eq_false h
    have el : (l && !false) = l := by cases l <;> rfl
    rw [e0, el]
    by_cases h4 : c % 4 = 0
    · have e4 : (((c % 4 : Nat) : Int) != 0) = false := by rw [h4]; rfl
      have e5 : decide (c / 4 = 0) = false := decide_eq_false (by omega)
      refine ACalls.code tabOk h34 Tryz.func34 Tryz.call34 ok34 ?_
      conv => whnf
      refine ACalls.useE (div_count _ _) [1] rfl (by (conv => whnf); try rfl) (by (conv => whnf); try rfl) ?_
      conv => whnf
      rw [e4]
      conv => whnf
      refine ACalls.useE (cnt_at 57 _ _ 20 ?_ ?_ ?_) [2, 3] rfl (by (conv => whnf); try rfl) (by (conv => whnf); try rfl) ?_
      · decide
      · omega
      · decide
      conv => whnf
      rw [e5]
      conv => whnf
      exact ⟨rfl, rfl⟩
    · have e4 : (((c % 4 : Nat) : Int) != 0) = true := by simpa using by omega
      refine ACalls.code tabOk h34 Tryz.func34 Tryz.call34 ok34 ?_
      conv => whnf
      refine ACalls.useE (div_count _ _) [1] rfl (by (conv => whnf); try rfl) (by (conv => whnf); try rfl) ?_
      conv => whnf
      rw [e4]
      conv => whnf
      exact ⟨rfl, rfl⟩
theorem bm_dark (c : Nat) (l : Bool) (hc : c < 228) : ACalls Tryz.prog 37 [.pointer (some ⟨0, 0, none⟩)] (bmH c l) fun v H => v = .bool (decide (c < if l then 76 else 68)) ∧ H = bmH c l := by
  cases l with
  | true =>
    have e : decide (((c / 4 : Nat) : Int) < 19) = decide (c < 76) := by
      by_cases h : c < 76
      · rw [decide_eq_true h, decide_eq_true (by omega)]
      · rw [decide_eq_false h, decide_eq_false (by omega)]
    refine ACalls.code tabOk h37 Tryz.func37 Tryz.call37 ok37 ?_
    conv => whnf
    refine ACalls.code tabOk h68 Tryz.func68 Tryz.call68 ok68 ?_
    conv => whnf
    refine ACalls.useE (cnt_count _ _ _ ?_) [2, 3] rfl (by (conv => whnf); try rfl) (by (conv => whnf); try rfl) ?_
    · omega
    conv => whnf
    rw [e]
    conv => whnf
    exact ⟨rfl, rfl⟩
  | false =>
    have e : decide (((c / 4 : Nat) : Int) < 17) = decide (c < 68) := by
      by_cases h : c < 68
      · rw [decide_eq_true h, decide_eq_true (by omega)]
      · rw [decide_eq_false h, decide_eq_false (by omega)]
    refine ACalls.code tabOk h37 Tryz.func37 Tryz.call37 ok37 ?_
    conv => whnf
    refine ACalls.code tabOk h68 Tryz.func68 Tryz.call68 ok68 ?_
    conv => whnf
    refine ACalls.useE (cnt_count _ _ _ ?_) [2, 3] rfl (by (conv => whnf); try rfl) (by (conv => whnf); try rfl) ?_
    · omega
    conv => whnf
    rw [e]
    conv => whnf
    exact ⟨rfl, rfl⟩
theorem bm_pulse (c : Nat) (l : Bool) (hc : c < 228) : ACalls Tryz.prog 41 [.pointer (some ⟨0, 0, none⟩)] (bmH c l) fun v H => v = .bool (decide (20 ≤ c ∧ c < 36)) ∧ H = bmH c l := by
  have e1 : decide (((c / 4 : Nat) : Int) ≥ 5) = decide (20 ≤ c) := by
    by_cases h : 20 ≤ c
    · rw [decide_eq_true h, decide_eq_true (by omega)]
    · rw [decide_eq_false h, decide_eq_false (by omega)]
  have e2 : decide (((c / 4 : Nat) : Int) ≤ 8) = decide (c < 36) := by
    by_cases h : c < 36
    · rw [decide_eq_true h, decide_eq_true (by omega)]
    · rw [decide_eq_false h, decide_eq_false (by omega)]
  by_cases h1 : 20 ≤ c
  · have e3 : decide (20 ≤ c) = true := decide_eq_true h1
    have e4 : decide (20 ≤ c ∧ c < 36) = decide (c < 36) := by simp [h1]
    rw [e4]
    refine ACalls.code tabOk h41 Tryz.func41 Tryz.call41 ok41 ?_
    conv => whnf
    refine ACalls.code tabOk h68 Tryz.func68 Tryz.call68 ok68 ?_
    conv => whnf
    refine ACalls.useE (cnt_count _ _ _ ?_) [2, 3] rfl (by (conv => whnf); try rfl) (by (conv => whnf); try rfl) ?_
    · omega
    conv => whnf
    refine ACalls.code tabOk h50 Tryz.func50 Tryz.call50 ok50 ?_
    conv => whnf
    rw [e1]
    conv => whnf
    rw [e3]
    conv => whnf
    rw [e2]
    conv => whnf
    exact ⟨rfl, rfl⟩
  · have e3 : decide (20 ≤ c) = false := decide_eq_false h1
    have e4 : decide (20 ≤ c ∧ c < 36) = false := by simp [h1]
    rw [e4]
    refine ACalls.code tabOk h41 Tryz.func41 Tryz.call41 ok41 ?_
    conv => whnf
    refine ACalls.code tabOk h68 Tryz.func68 Tryz.call68 ok68 ?_
    conv => whnf
    refine ACalls.useE (cnt_count _ _ _ ?_) [2, 3] rfl (by (conv => whnf); try rfl) (by (conv => whnf); try rfl) ?_
    · omega
    conv => whnf
    refine ACalls.code tabOk h50 Tryz.func50 Tryz.call50 ok50 ?_
    conv => whnf
    rw [e1]
    conv => whnf
    rw [e3]
    conv => whnf
    exact ⟨rfl, rfl⟩
theorem bm_next (c : Nat) (l : Bool) (hc : c < 228) : ACalls Tryz.prog 46 [.pointer (some ⟨0, 0, none⟩)] (bmH c l) fun v H => v = .tuple #[] ∧ H = bmH ((c + 1) % 228) l := by
  have ha : (c % 4 + 1) % 4 = (c + 1) % 228 % 4 := by omega
  by_cases h3 : c % 4 = 3
  · have e1 : decide (c % 4 = 3) = true := decide_eq_true h3
    have e2 : (if c / 4 + 1 = 57 then 0 else c / 4 + 1) = (c + 1) % 228 / 4 := by split <;> omega
    refine ACalls.code tabOk h46 Tryz.func46 Tryz.call46 ok46 ?_
    conv => whnf
    refine ACalls.code tabOk h77 Tryz.func77 Tryz.call77 ok77 ?_
    conv => whnf
    refine ACalls.useE (div_tick _ ?_) [1] rfl (by (conv => whnf); try rfl) (by (conv => whnf); try rfl) ?_
    · omega
    conv => whnf
    rw [e1]
    conv => whnf
    refine ACalls.useE (cnt_tick 57 _ 20 ?_ ?_ ?_) [2, 3] rfl (by (conv => whnf); try rfl) (by (conv => whnf); try rfl) ?_
    · decide
    · omega
    · exact mk56
    conv => whnf
    (unfold bmH; rw [ha, e2]; exact ⟨rfl, rfl⟩)
  · have e1 : decide (c % 4 = 3) = false := decide_eq_false h3
    have e2 : c / 4 = (c + 1) % 228 / 4 := by omega
    refine ACalls.code tabOk h46 Tryz.func46 Tryz.call46 ok46 ?_
    conv => whnf
    refine ACalls.code tabOk h77 Tryz.func77 Tryz.call77 ok77 ?_
    conv => whnf
    refine ACalls.useE (div_tick _ ?_) [1] rfl (by (conv => whnf); try rfl) (by (conv => whnf); try rfl) ?_
    · omega
    conv => whnf
    rw [e1]
    conv => whnf
    (unfold bmH; rw [ha, ← e2]; exact ⟨rfl, rfl⟩)
end Go.Proofs
