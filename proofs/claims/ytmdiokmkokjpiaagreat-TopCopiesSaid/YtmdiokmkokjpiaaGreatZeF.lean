/-
  Walks through the functions of the program, by contract.
-/
import Derived.Test.YtmdiokmkokjpiaaGreatZdF
set_option linter.all false
set_option linter.unusedVariables false
set_option linter.unusedSimpArgs false
set_option linter.unnecessarySimpa false
namespace Go.Proofs
open Go.Aw
set_option maxRecDepth 100000
set_option maxHeartbeats 8000000
/-- A thing's cells. -/
abbrev thH (p ln sc : Nat) : List Blk := [.cells [.pointer (some ⟨1, 0, none⟩), .int .u16 ln, .int .i64 sc] 104, .cells [.pointer (some ⟨2, 0, none⟩), .pointer (some ⟨3, 0, none⟩)] 125, .cells [.int .i64 (p % 4 : Nat), .int .i64 4] 120, .cells [.pointer (some ⟨4, 0, none⟩), .int .u8 45, .int .i64 40] 122, .cells [.int .u8 (mk (p / 4)), .int .i64 6, .int .i64 1] 127]
theorem th_new : ACalls Tryz.prog 18 [] [] fun v H => v = .pointer (some ⟨0, 0, none⟩) ∧ H = thH 0 0 255 := by
  refine ACalls.codeN tabOk h18 Tryz.func18 Tryz.call18 ok18 [4, 0, 1, 2, 3] ?_
  conv => whnf
  refine ACalls.useE (pl_begin) [] rfl (by (conv => whnf); try rfl) (by (conv => whnf); try rfl) ?_
  conv => whnf
  exact ⟨rfl, rfl⟩
theorem th_count (p ln sc : Nat) (hp : p < 160) : ACalls Tryz.prog 64 [.pointer (some ⟨0, 0, none⟩)] (thH p ln sc) fun v H => v = .int .i64 p ∧ H = thH p ln sc := by
  refine ACalls.code tabOk h64 Tryz.func64 Tryz.call64 ok64 ?_
  conv => whnf
  refine ACalls.useE (pl_count _ ?_) [1, 2, 3, 4] rfl (by (conv => whnf); try rfl) (by (conv => whnf); try rfl) ?_
  · omega
  conv => whnf
  exact ⟨rfl, rfl⟩
theorem th_put (p ln sc i : Nat) (hi : i < 160) : ACalls Tryz.prog 24 [.pointer (some ⟨0, 0, none⟩), .int .i64 i] (thH p ln sc) fun v H => v = .int .i64 0 ∧ H = thH i ln sc := by
  refine ACalls.code tabOk h24 Tryz.func24 Tryz.call24 ok24 ?_
  conv => whnf
  refine ACalls.useE (pl_set _ _ ?_) [1, 2, 3, 4] rfl (by (conv => whnf); try rfl) (by (conv => whnf); try rfl) ?_
  · omega
  conv => whnf
  exact ⟨rfl, rfl⟩
theorem th_put0 (p ln sc : Nat) : ACalls Tryz.prog 24 [.pointer (some ⟨0, 0, none⟩), .int .i64 0] (thH p ln sc) fun v H => v = .int .i64 0 ∧ H = thH 0 ln sc := th_put p ln sc 0 (by decide)
theorem pl_at0 (p : Nat) (hp : p < 160) : ACalls Tryz.prog 104 [.pointer (some ⟨0, 0, none⟩), .int .i64 0] (plH p) fun v H => v = .bool (decide (p = 0)) ∧ H = plH p := pl_at p 0 hp (by decide)
theorem pl_at16 (p : Nat) (hp : p < 160) : ACalls Tryz.prog 104 [.pointer (some ⟨0, 0, none⟩), .int .i64 16] (plH p) fun v H => v = .bool (decide (p = 16)) ∧ H = plH p := pl_at p 16 hp (by decide)
theorem pl_at32 (p : Nat) (hp : p < 160) : ACalls Tryz.prog 104 [.pointer (some ⟨0, 0, none⟩), .int .i64 32] (plH p) fun v H => v = .bool (decide (p = 32)) ∧ H = plH p := pl_at p 32 hp (by decide)
theorem pl_at64 (p : Nat) (hp : p < 160) : ACalls Tryz.prog 104 [.pointer (some ⟨0, 0, none⟩), .int .i64 64] (plH p) fun v H => v = .bool (decide (p = 64)) ∧ H = plH p := pl_at p 64 hp (by decide)
theorem th_starts0 (p ln sc : Nat) (hp : p < 160) (u : Int) (hu : u.tmod 8 = 0) : ACalls Tryz.prog 87 [.pointer (some ⟨0, 0, none⟩), .int .u8 u] (thH p ln sc) fun v H => v = .bool (decide (p = 0)) ∧ H = thH p ln sc := by
  refine ACalls.code tabOk h87 Tryz.func87 Tryz.call87 ok87 ?_
  conv => whnf
  refine ACalls.useE (starts0 u hu) [] rfl (by (conv => whnf); try rfl) (by (conv => whnf); try rfl) ?_
  conv => whnf
  refine ⟨rfl, ?_⟩
  conv => whnf
  refine ACalls.code tabOk h102 Tryz.func102 Tryz.call102 ok102 ?_
  conv => whnf
  refine ACalls.code tabOk h110 Tryz.func110 Tryz.call110 ok110 ?_
  conv => whnf
  refine ALoop.run 2 ?_
  conv => whnf
  refine ACalls.useE (pl_at0 _ ?_) [1, 2, 3, 4] rfl (by (conv => whnf); first | done | rfl | (refine renL_flatC zflat ?_; (conv => whnf); first | done | rfl)) (by (conv => whnf); try rfl) ?_
  · omega
  conv => whnf
  refine Bif.of (fun h0 => ?_) fun h0 => ?_
  · rw [h0]
    conv => whnf
    exact ⟨rfl, rfl⟩
  · rw [h0]
    conv => whnf
    exact ⟨rfl, rfl⟩
theorem th_starts1 (p ln sc : Nat) (hp : p < 160) (u : Int) (hu : u.tmod 8 = 1) : ACalls Tryz.prog 87 [.pointer (some ⟨0, 0, none⟩), .int .u8 u] (thH p ln sc) fun v H => v = .bool (decide (p = 0) || decide (p = 16)) ∧ H = thH p ln sc := by
  refine ACalls.code tabOk h87 Tryz.func87 Tryz.call87 ok87 ?_
  conv => whnf
  refine ACalls.useX (starts1 u hu) [] rfl (by (conv => whnf); try rfl) (by (conv => whnf); try rfl) ?_
  intro nc hnc
  conv => whnf
  refine renL_flatC zflat ?_
  conv => whnf
  refine ⟨rfl, ?_⟩
  conv => whnf
  refine ACalls.code tabOk h102 Tryz.func102 Tryz.call102 ok102 ?_
  conv => whnf
  refine ACalls.code tabOk h110 Tryz.func110 Tryz.call110 ok110 ?_
  conv => whnf
  refine ALoop.run 3 ?_
  conv => whnf
  refine ACalls.useE (pl_at0 _ ?_) [1, 2, 3, 4] rfl (by (conv => whnf); first | done | rfl | (refine renL_flatC zflat ?_; (conv => whnf); first | done | rfl)) (by (conv => whnf); try rfl) ?_
  · omega
  conv => whnf
  refine Bif.of (fun h0 => ?_) fun h0 => ?_
  · rw [h0]
    conv => whnf
    refine Req.of ?_ ?_
    · exact zall fun _ => rfl
    conv => whnf
    refine Req.of ?_ ?_
    · exact zall fun _ => rfl
    conv => whnf
    exact ⟨rfl, rfl⟩
  · rw [h0]
    conv => whnf
    refine ACalls.useE (pl_at16 _ ?_) [1, 2, 3, 4] rfl (by (conv => whnf); first | done | rfl | (refine renL_flatC zflat ?_; (conv => whnf); first | done | rfl)) (by (conv => whnf); try rfl) ?_
    · omega
    conv => whnf
    refine Bif.of (fun h1 => ?_) fun h1 => ?_
    · rw [h1]
      conv => whnf
      refine Req.of ?_ ?_
      · exact zall fun _ => rfl
      conv => whnf
      refine Req.of ?_ ?_
      · exact zall fun _ => rfl
      conv => whnf
      exact ⟨rfl, rfl⟩
    · rw [h1]
      conv => whnf
      refine Req.of ?_ ?_
      · exact zall fun _ => rfl
      conv => whnf
      refine Req.of ?_ ?_
      · exact zall fun _ => rfl
      conv => whnf
      exact ⟨rfl, rfl⟩
theorem th_starts2 (p ln sc : Nat) (hp : p < 160) (u : Int) (hu : u.tmod 8 = 2) : ACalls Tryz.prog 87 [.pointer (some ⟨0, 0, none⟩), .int .u8 u] (thH p ln sc) fun v H => v = .bool (decide (p = 0) || decide (p = 32)) ∧ H = thH p ln sc := by
  refine ACalls.code tabOk h87 Tryz.func87 Tryz.call87 ok87 ?_
  conv => whnf
  refine ACalls.useX (starts2 u hu) [] rfl (by (conv => whnf); try rfl) (by (conv => whnf); try rfl) ?_
  intro nc hnc
  conv => whnf
  refine renL_flatC zflat ?_
  conv => whnf
  refine ⟨rfl, ?_⟩
  conv => whnf
  refine ACalls.code tabOk h102 Tryz.func102 Tryz.call102 ok102 ?_
  conv => whnf
  refine ACalls.code tabOk h110 Tryz.func110 Tryz.call110 ok110 ?_
  conv => whnf
  refine ALoop.run 3 ?_
  conv => whnf
  refine ACalls.useE (pl_at0 _ ?_) [1, 2, 3, 4] rfl (by (conv => whnf); first | done | rfl | (refine renL_flatC zflat ?_; (conv => whnf); first | done | rfl)) (by (conv => whnf); try rfl) ?_
  · omega
  conv => whnf
  refine Bif.of (fun h0 => ?_) fun h0 => ?_
  · rw [h0]
    conv => whnf
    refine Req.of ?_ ?_
    · exact zall fun _ => rfl
    conv => whnf
    refine Req.of ?_ ?_
    · exact zall fun _ => rfl
    conv => whnf
    exact ⟨rfl, rfl⟩
  · rw [h0]
    conv => whnf
    refine ACalls.useE (pl_at32 _ ?_) [1, 2, 3, 4] rfl (by (conv => whnf); first | done | rfl | (refine renL_flatC zflat ?_; (conv => whnf); first | done | rfl)) (by (conv => whnf); try rfl) ?_
    · omega
    conv => whnf
    refine Bif.of (fun h1 => ?_) fun h1 => ?_
    · rw [h1]
      conv => whnf
      refine Req.of ?_ ?_
      · exact zall fun _ => rfl
      conv => whnf
      refine Req.of ?_ ?_
      · exact zall fun _ => rfl
      conv => whnf
      exact ⟨rfl, rfl⟩
    · rw [h1]
      conv => whnf
      refine Req.of ?_ ?_
      · exact zall fun _ => rfl
      conv => whnf
      refine Req.of ?_ ?_
      · exact zall fun _ => rfl
      conv => whnf
      exact ⟨rfl, rfl⟩
theorem th_starts3 (p ln sc : Nat) (hp : p < 160) (u : Int) (hu : u.tmod 8 = 3) : ACalls Tryz.prog 87 [.pointer (some ⟨0, 0, none⟩), .int .u8 u] (thH p ln sc) fun v H => v = .bool (decide (p = 0) || decide (p = 16) || decide (p = 32)) ∧ H = thH p ln sc := by
  refine ACalls.code tabOk h87 Tryz.func87 Tryz.call87 ok87 ?_
  conv => whnf
  refine ACalls.useX (starts3 u hu) [] rfl (by (conv => whnf); try rfl) (by (conv => whnf); try rfl) ?_
  intro nc hnc
  conv => whnf
  refine renL_flatC zflat ?_
  conv => whnf
  refine ⟨rfl, ?_⟩
  conv => whnf
  refine ACalls.code tabOk h102 Tryz.func102 Tryz.call102 ok102 ?_
  conv => whnf
  refine ACalls.code tabOk h110 Tryz.func110 Tryz.call110 ok110 ?_
  conv => whnf
  refine ALoop.run 4 ?_
  conv => whnf
  refine ACalls.useE (pl_at0 _ ?_) [1, 2, 3, 4] rfl (by (conv => whnf); first | done | rfl | (refine renL_flatC zflat ?_; (conv => whnf); first | done | rfl)) (by (conv => whnf); try rfl) ?_
  · omega
  conv => whnf
  refine Bif.of (fun h0 => ?_) fun h0 => ?_
  · rw [h0]
    conv => whnf
    refine Req.of ?_ ?_
    · exact zall fun _ => rfl
    conv => whnf
    refine Req.of ?_ ?_
    · exact zall fun _ => rfl
    conv => whnf
    exact ⟨rfl, rfl⟩
  · rw [h0]
    conv => whnf
    refine ACalls.useE (pl_at16 _ ?_) [1, 2, 3, 4] rfl (by (conv => whnf); first | done | rfl | (refine renL_flatC zflat ?_; (conv => whnf); first | done | rfl)) (by (conv => whnf); try rfl) ?_
    · omega
    conv => whnf
    refine Bif.of (fun h1 => ?_) fun h1 => ?_
    · rw [h1]
      conv => whnf
      refine Req.of ?_ ?_
      · exact zall fun _ => rfl
      conv => whnf
      refine Req.of ?_ ?_
      · exact zall fun _ => rfl
      conv => whnf
      exact ⟨rfl, rfl⟩
    · rw [h1]
      conv => whnf
      refine ACalls.useE (pl_at32 _ ?_) [1, 2, 3, 4] rfl (by (conv => whnf); first | done | rfl | (refine renL_flatC zflat ?_; (conv => whnf); first | done | rfl)) (by (conv => whnf); try rfl) ?_
      · omega
      conv => whnf
      refine Bif.of (fun h2 => ?_) fun h2 => ?_
      · rw [h2]
        conv => whnf
        refine Req.of ?_ ?_
        · exact zall fun _ => rfl
        conv => whnf
        refine Req.of ?_ ?_
        · exact zall fun _ => rfl
        conv => whnf
        exact ⟨rfl, rfl⟩
      · rw [h2]
        conv => whnf
        refine Req.of ?_ ?_
        · exact zall fun _ => rfl
        conv => whnf
        refine Req.of ?_ ?_
        · exact zall fun _ => rfl
        conv => whnf
        exact ⟨rfl, rfl⟩
theorem th_starts4 (p ln sc : Nat) (hp : p < 160) (u : Int) (hu : u.tmod 8 = 4) : ACalls Tryz.prog 87 [.pointer (some ⟨0, 0, none⟩), .int .u8 u] (thH p ln sc) fun v H => v = .bool (decide (p = 0) || decide (p = 64)) ∧ H = thH p ln sc := by
  refine ACalls.code tabOk h87 Tryz.func87 Tryz.call87 ok87 ?_
  conv => whnf
  refine ACalls.useX (starts4 u hu) [] rfl (by (conv => whnf); try rfl) (by (conv => whnf); try rfl) ?_
  intro nc hnc
  conv => whnf
  refine renL_flatC zflat ?_
  conv => whnf
  refine ⟨rfl, ?_⟩
  conv => whnf
  refine ACalls.code tabOk h102 Tryz.func102 Tryz.call102 ok102 ?_
  conv => whnf
  refine ACalls.code tabOk h110 Tryz.func110 Tryz.call110 ok110 ?_
  conv => whnf
  refine ALoop.run 3 ?_
  conv => whnf
  refine ACalls.useE (pl_at0 _ ?_) [1, 2, 3, 4] rfl (by (conv => whnf); first | done | rfl | (refine renL_flatC zflat ?_; (conv => whnf); first | done | rfl)) (by (conv => whnf); try rfl) ?_
  · omega
  conv => whnf
  refine Bif.of (fun h0 => ?_) fun h0 => ?_
  · rw [h0]
    conv => whnf
    refine Req.of ?_ ?_
    · exact zall fun _ => rfl
    conv => whnf
    refine Req.of ?_ ?_
    · exact zall fun _ => rfl
    conv => whnf
    exact ⟨rfl, rfl⟩
  · rw [h0]
    conv => whnf
    refine ACalls.useE (pl_at64 _ ?_) [1, 2, 3, 4] rfl (by (conv => whnf); first | done | rfl | (refine renL_flatC zflat ?_; (conv => whnf); first | done | rfl)) (by (conv => whnf); try rfl) ?_
    · omega
    conv => whnf
    refine Bif.of (fun h1 => ?_) fun h1 => ?_
    · rw [h1]
      conv => whnf
      refine Req.of ?_ ?_
      · exact zall fun _ => rfl
      conv => whnf
      refine Req.of ?_ ?_
      · exact zall fun _ => rfl
      conv => whnf
      exact ⟨rfl, rfl⟩
    · rw [h1]
      conv => whnf
      refine Req.of ?_ ?_
      · exact zall fun _ => rfl
      conv => whnf
      refine Req.of ?_ ?_
      · exact zall fun _ => rfl
      conv => whnf
      exact ⟨rfl, rfl⟩
theorem th_starts5 (p ln sc : Nat) (hp : p < 160) (u : Int) (hu : u.tmod 8 = 5) : ACalls Tryz.prog 87 [.pointer (some ⟨0, 0, none⟩), .int .u8 u] (thH p ln sc) fun v H => v = .bool (decide (p = 0)) ∧ H = thH p ln sc := by
  refine ACalls.code tabOk h87 Tryz.func87 Tryz.call87 ok87 ?_
  conv => whnf
  refine ACalls.useE (starts5 u hu) [] rfl (by (conv => whnf); try rfl) (by (conv => whnf); try rfl) ?_
  conv => whnf
  refine ⟨rfl, ?_⟩
  conv => whnf
  refine ACalls.code tabOk h102 Tryz.func102 Tryz.call102 ok102 ?_
  conv => whnf
  refine ACalls.code tabOk h110 Tryz.func110 Tryz.call110 ok110 ?_
  conv => whnf
  refine ALoop.run 2 ?_
  conv => whnf
  refine ACalls.useE (pl_at0 _ ?_) [1, 2, 3, 4] rfl (by (conv => whnf); first | done | rfl | (refine renL_flatC zflat ?_; (conv => whnf); first | done | rfl)) (by (conv => whnf); try rfl) ?_
  · omega
  conv => whnf
  refine Bif.of (fun h0 => ?_) fun h0 => ?_
  · rw [h0]
    conv => whnf
    exact ⟨rfl, rfl⟩
  · rw [h0]
    conv => whnf
    exact ⟨rfl, rfl⟩
theorem th_starts6 (p ln sc : Nat) (hp : p < 160) (u : Int) (hu : u.tmod 8 = 6) : ACalls Tryz.prog 87 [.pointer (some ⟨0, 0, none⟩), .int .u8 u] (thH p ln sc) fun v H => v = .bool (decide (p = 0) || decide (p = 32) || decide (p = 64)) ∧ H = thH p ln sc := by
  refine ACalls.code tabOk h87 Tryz.func87 Tryz.call87 ok87 ?_
  conv => whnf
  refine ACalls.useX (starts6 u hu) [] rfl (by (conv => whnf); try rfl) (by (conv => whnf); try rfl) ?_
  intro nc hnc
  conv => whnf
  refine renL_flatC zflat ?_
  conv => whnf
  refine ⟨rfl, ?_⟩
  conv => whnf
  refine ACalls.code tabOk h102 Tryz.func102 Tryz.call102 ok102 ?_
  conv => whnf
  refine ACalls.code tabOk h110 Tryz.func110 Tryz.call110 ok110 ?_
  conv => whnf
  refine ALoop.run 4 ?_
  conv => whnf
  refine ACalls.useE (pl_at0 _ ?_) [1, 2, 3, 4] rfl (by (conv => whnf); first | done | rfl | (refine renL_flatC zflat ?_; (conv => whnf); first | done | rfl)) (by (conv => whnf); try rfl) ?_
  · omega
  conv => whnf
  refine Bif.of (fun h0 => ?_) fun h0 => ?_
  · rw [h0]
    conv => whnf
    refine Req.of ?_ ?_
    · exact zall fun _ => rfl
    conv => whnf
    refine Req.of ?_ ?_
    · exact zall fun _ => rfl
    conv => whnf
    exact ⟨rfl, rfl⟩
  · rw [h0]
    conv => whnf
    refine ACalls.useE (pl_at32 _ ?_) [1, 2, 3, 4] rfl (by (conv => whnf); first | done | rfl | (refine renL_flatC zflat ?_; (conv => whnf); first | done | rfl)) (by (conv => whnf); try rfl) ?_
    · omega
    conv => whnf
    refine Bif.of (fun h1 => ?_) fun h1 => ?_
    · rw [h1]
      conv => whnf
      refine Req.of ?_ ?_
      · exact zall fun _ => rfl
      conv => whnf
      refine Req.of ?_ ?_
      · exact zall fun _ => rfl
      conv => whnf
      exact ⟨rfl, rfl⟩
    · rw [h1]
      conv => whnf
      refine ACalls.useE (pl_at64 _ ?_) [1, 2, 3, 4] rfl (by (conv => whnf); first | done | rfl | (refine renL_flatC zflat ?_; (conv => whnf); first | done | rfl)) (by (conv => whnf); try rfl) ?_
      · omega
      conv => whnf
      refine Bif.of (fun h2 => ?_) fun h2 => ?_
      · rw [h2]
        conv => whnf
        refine Req.of ?_ ?_
        · exact zall fun _ => rfl
        conv => whnf
        refine Req.of ?_ ?_
        · exact zall fun _ => rfl
        conv => whnf
        exact ⟨rfl, rfl⟩
      · rw [h2]
        conv => whnf
        refine Req.of ?_ ?_
        · exact zall fun _ => rfl
        conv => whnf
        refine Req.of ?_ ?_
        · exact zall fun _ => rfl
        conv => whnf
        exact ⟨rfl, rfl⟩
theorem th_starts7 (p ln sc : Nat) (hp : p < 160) (u : Int) (hu : u.tmod 8 = 7) : ACalls Tryz.prog 87 [.pointer (some ⟨0, 0, none⟩), .int .u8 u] (thH p ln sc) fun v H => v = .bool (decide (p = 0)) ∧ H = thH p ln sc := by
  refine ACalls.code tabOk h87 Tryz.func87 Tryz.call87 ok87 ?_
  conv => whnf
  refine ACalls.useE (starts7 u hu) [] rfl (by (conv => whnf); try rfl) (by (conv => whnf); try rfl) ?_
  conv => whnf
  refine ⟨rfl, ?_⟩
  conv => whnf
  refine ACalls.code tabOk h102 Tryz.func102 Tryz.call102 ok102 ?_
  conv => whnf
  refine ACalls.code tabOk h110 Tryz.func110 Tryz.call110 ok110 ?_
  conv => whnf
  refine ALoop.run 2 ?_
  conv => whnf
  refine ACalls.useE (pl_at0 _ ?_) [1, 2, 3, 4] rfl (by (conv => whnf); first | done | rfl | (refine renL_flatC zflat ?_; (conv => whnf); first | done | rfl)) (by (conv => whnf); try rfl) ?_
  · omega
  conv => whnf
  refine Bif.of (fun h0 => ?_) fun h0 => ?_
  · rw [h0]
    conv => whnf
    exact ⟨rfl, rfl⟩
  · rw [h0]
    conv => whnf
    exact ⟨rfl, rfl⟩
/-- Is a place at one of the starts of so many copies? -/
def stB (k : Int) (p : Nat) : Bool :=
  if k = 1 then decide (p = 0) || decide (p = 16) else if k = 2 then decide (p = 0) || decide (p = 32) else if k = 3 then decide (p = 0) || decide (p = 16) || decide (p = 32)
  else if k = 4 then decide (p = 0) || decide (p = 64) else if k = 6 then decide (p = 0) || decide (p = 32) || decide (p = 64) else decide (p = 0)
theorem th_starts (p ln sc : Nat) (hp : p < 160) (u : Int) (hu : 0 ≤ u) : ACalls Tryz.prog 87 [.pointer (some ⟨0, 0, none⟩), .int .u8 u] (thH p ln sc) fun v H => v = .bool (stB (u % 8) p) ∧ H = thH p ln sc := by
  have e : u.tmod 8 = u % 8 := Int.tmod_eq_emod_of_nonneg hu
  have hk : u % 8 = 0 ∨ u % 8 = 1 ∨ u % 8 = 2 ∨ u % 8 = 3 ∨ u % 8 = 4 ∨ u % 8 = 5 ∨ u % 8 = 6 ∨ u % 8 = 7 := by omega
  rcases hk with h | h | h | h | h | h | h | h
  · rw [h]; exact th_starts0 p ln sc hp u (by rw [e, h])
  · rw [h]; exact th_starts1 p ln sc hp u (by rw [e, h])
  · rw [h]; exact th_starts2 p ln sc hp u (by rw [e, h])
  · rw [h]; exact th_starts3 p ln sc hp u (by rw [e, h])
  · rw [h]; exact th_starts4 p ln sc hp u (by rw [e, h])
  · rw [h]; exact th_starts5 p ln sc hp u (by rw [e, h])
  · rw [h]; exact th_starts6 p ln sc hp u (by rw [e, h])
  · rw [h]; exact th_starts7 p ln sc hp u (by rw [e, h])
/-- The delay line behind a tick. -/
@[irreducible] def tkLn (ln : Nat) (s : Bool) : Nat := 2 * ln % 256 + if s then 1 else 0
@[irreducible] def tkSc (ln sc : Nat) : Nat := if 128 ≤ ln then 8 else min (sc + 1) 255
theorem tkLn_lt (ln : Nat) (s : Bool) : tkLn ln s < 256 := by unfold tkLn; split <;> omega
theorem tkSc_le (ln : Nat) {sc : Nat} : tkSc ln sc ≤ 255 := by unfold tkSc; split <;> omega
theorem shl16 {ln : Nat} (h : ln < 256) : IntKind.u16.wrap ((ln : Int) * 2 ^ min (1 : Int).toNat IntKind.u16.bits) = ((2 * ln : Nat) : Int) := by
  rw [show (2 : Int) ^ min (1 : Int).toNat IntKind.u16.bits = 2 from by decide, wrap16 (by omega) (by omega)]; omega
theorem shr8 {ln : Nat} : (((2 * ln : Nat) : Int).fdiv (2 ^ min (8 : Int).toNat IntKind.u16.bits) != 0) = decide (128 ≤ ln) := by
  rw [show (2 : Int) ^ min (8 : Int).toNat IntKind.u16.bits = 256 from by decide, Int.fdiv_eq_ediv_of_nonneg _ (by decide)]
  by_cases h : 128 ≤ ln
  · rw [decide_eq_true h]; simp; omega
  · rw [decide_eq_false h]; simp; omega
theorem nand256 {ln : Nat} (h : ln < 256) (h2 : 128 ≤ ln) : bits .andNot .u16 ((2 * ln : Nat) : Int) 256 = ((2 * ln % 256 : Nat) : Int) := by
  have key : ∀ n : Fin 256, 128 ≤ n.val → bits .andNot .u16 ((2 * n.val : Nat) : Int) 256 = ((2 * n.val % 256 : Nat) : Int) := by decide +kernel
  exact key ⟨ln, h⟩ h2
theorem or1 {ln : Nat} : bits .or .u16 ((2 * ln % 256 : Nat) : Int) 1 = ((2 * ln % 256 + 1 : Nat) : Int) := by
  have key : ∀ n : Fin 256, bits .or .u16 ((2 * n.val % 256 : Nat) : Int) 1 = ((2 * n.val % 256 + 1 : Nat) : Int) := by decide +kernel
  have := key ⟨ln % 256, Nat.mod_lt _ (by decide)⟩
  simp only at this
  rw [show 2 * (ln % 256) % 256 = 2 * ln % 256 by omega] at this
  exact this
theorem th_tick (p ln sc : Nat) (hp : p < 160) (hln : ln < 256) (hsc : sc ≤ 255) (u : Int) (hu : 0 ≤ u) : ACalls Tryz.prog 71 [.pointer (some ⟨0, 0, none⟩), .int .u8 u] (thH p ln sc) fun v H => v = .tuple #[] ∧ H = thH ((p + 1) % 160) (tkLn ln (stB (u % 8) ((p + 1) % 160))) (tkSc ln sc) := by
  have hp1 : (p + 1) % 160 < 160 := Nat.mod_lt _ (by decide)
  have e1 := shl16 hln
  have e2 := shr8 (ln := ln)
  have emin : (if (255 : Int) < IntKind.i64.wrap ((sc : Int) + 1) then (255 : Int) else IntKind.i64.wrap ((sc : Int) + 1)) = ((min (sc + 1) 255 : Nat) : Int) := by
    rw [wrap64 (by omega) (by omega)]; split <;> omega
  generalize hP : (p + 1) % 160 = P at hp1
  by_cases h1 : 128 ≤ ln
  · have e3 : decide (128 ≤ ln) = true := decide_eq_true h1
    have e4 := nand256 hln h1
    have esc : tkSc ln sc = 8 := by unfold tkSc; rw [if_pos h1]
    rw [esc]
    cases hs : stB (u % 8) P with
    | true =>
      have el : tkLn ln true = 2 * ln % 256 + 1 := by unfold tkLn; rfl
      rw [el]
      refine ACalls.code tabOk h71 Tryz.func71 Tryz.call71 ok71 ?_
      conv => whnf
      rw [e1]
      conv => whnf
      rw [e2]
      conv => whnf
      rw [e3]
      conv => whnf
      rw [e4]
      refine ACalls.useE (pl_tick _ ?_) [1, 2, 3, 4] rfl (by (conv => whnf); try rfl) (by (conv => whnf); try rfl) ?_
      · omega
      conv => whnf
      refine ACalls.useE (th_starts _ _ _ ?_ _ ?_) [0, 1, 2, 3, 4] rfl (by (conv => whnf); try rfl) (by (conv => whnf); try rfl) ?_
      · omega
      · omega
      conv => whnf
      rw [hP]
      conv => whnf
      rw [hs]
      conv => whnf
      rw [or1]
      conv => whnf
      exact ⟨rfl, rfl⟩
    | false =>
      have el : tkLn ln false = 2 * ln % 256 := by unfold tkLn; rfl
      rw [el]
      refine ACalls.code tabOk h71 Tryz.func71 Tryz.call71 ok71 ?_
      conv => whnf
      rw [e1]
      conv => whnf
      rw [e2]
      conv => whnf
      rw [e3]
      conv => whnf
      rw [e4]
      refine ACalls.useE (pl_tick _ ?_) [1, 2, 3, 4] rfl (by (conv => whnf); try rfl) (by (conv => whnf); try rfl) ?_
      · omega
      conv => whnf
      refine ACalls.useE (th_starts _ _ _ ?_ _ ?_) [0, 1, 2, 3, 4] rfl (by (conv => whnf); try rfl) (by (conv => whnf); try rfl) ?_
      · omega
      · omega
      conv => whnf
      rw [hP]
      conv => whnf
      rw [hs]
      conv => whnf
      exact ⟨rfl, rfl⟩
  · have e3 : decide (128 ≤ ln) = false := decide_eq_false h1
    have esc : tkSc ln sc = min (sc + 1) 255 := by unfold tkSc; rw [if_neg h1]
    have e5 : 2 * ln = 2 * ln % 256 := by omega
    rw [esc]
    cases hs : stB (u % 8) P with
    | true =>
      have el : tkLn ln true = 2 * ln % 256 + 1 := by unfold tkLn; rfl
      have or1' : bits .or .u16 ((2 * ln : Nat) : Int) 1 = ((2 * ln % 256 + 1 : Nat) : Int) := by have h := or1 (ln := ln); rw [← e5] at h ⊢; exact h
      rw [el]
      refine ACalls.code tabOk h71 Tryz.func71 Tryz.call71 ok71 ?_
      conv => whnf
      rw [e1]
      conv => whnf
      rw [e2]
      conv => whnf
      rw [e3]
      conv => whnf
      refine ACalls.useE (pl_tick _ ?_) [1, 2, 3, 4] rfl (by (conv => whnf); try rfl) (by (conv => whnf); try rfl) ?_
      · omega
      conv => whnf
      dsimp only
      rw [emin]
      refine ACalls.useE (th_starts _ _ _ ?_ _ ?_) [0, 1, 2, 3, 4] rfl (by (conv => whnf); try rfl) (by (conv => whnf); try rfl) ?_
      · omega
      · omega
      conv => whnf
      rw [hP]
      conv => whnf
      rw [hs]
      conv => whnf
      rw [or1']
      conv => whnf
      exact ⟨rfl, rfl⟩
    | false =>
      have el : tkLn ln false = 2 * ln := by unfold tkLn; simp; omega
      rw [el]
      refine ACalls.code tabOk h71 Tryz.func71 Tryz.call71 ok71 ?_
      conv => whnf
      rw [e1]
      conv => whnf
      rw [e2]
      conv => whnf
      rw [e3]
      conv => whnf
      refine ACalls.useE (pl_tick _ ?_) [1, 2, 3, 4] rfl (by (conv => whnf); try rfl) (by (conv => whnf); try rfl) ?_
      · omega
      conv => whnf
      dsimp only
      rw [emin]
      refine ACalls.useE (th_starts _ _ _ ?_ _ ?_) [0, 1, 2, 3, 4] rfl (by (conv => whnf); try rfl) (by (conv => whnf); try rfl) ?_
      · omega
      · omega
      conv => whnf
      rw [hP]
      conv => whnf
      rw [hs]
      conv => whnf
      exact ⟨rfl, rfl⟩
end Go.Proofs
