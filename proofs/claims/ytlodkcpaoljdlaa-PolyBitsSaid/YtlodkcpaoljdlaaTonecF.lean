/-
  Walks through the functions of the program, by contract.
-/
import Derived.Test.YtlodkcpaoljdlaaTonebF
set_option linter.all false
set_option linter.unusedVariables false
set_option linter.unusedSimpArgs false
set_option linter.unnecessarySimpa false
namespace Go.Proofs
open Go.Aw
set_option maxRecDepth 100000
set_option maxHeartbeats 4000000

/-! A poly's next state -/
@[irreducible] def nx8 (n t s : Int) : Int := bits .or .u8 (s.fdiv (2 ^ min (1 : Int).toNat IntKind.u8.bits)) (IntKind.u8.wrap (bits .and .u8 (bits .xor .u8 (bits .xor .u8 s (s.fdiv (2 ^ min t.toNat IntKind.u8.bits))) 1) 1 * 2 ^ min (IntKind.i64.wrap (n - 1)).toNat IntKind.u8.bits))
@[irreducible] def nx16 (n t s : Int) : Int := bits .or .u16 (s.fdiv (2 ^ min (1 : Int).toNat IntKind.u16.bits)) (IntKind.u16.wrap (bits .and .u16 (bits .xor .u16 (bits .xor .u16 s (s.fdiv (2 ^ min t.toNat IntKind.u16.bits))) 1) 1 * 2 ^ min (IntKind.i64.wrap (n - 1)).toNat IntKind.u16.bits))
def lo8 (s : Int) : Int := bits .and .u8 s 1
def lo16 (s : Int) : Int := IntKind.u8.wrap (bits .and .u16 s 1)
def lb8 (s : Int) : Bool := lo8 s != 0
def lb16 (s : Int) : Bool := lo16 s != 0

theorem poly8_next (s0 n t s : Int) (h : 1 ≤ n ∧ n ≤ 16 ∧ 0 ≤ t) : ACalls Try.prog 47 [.pointer (some ⟨0, 0, none⟩), .int .u8 s] [.cells [.int .u8 s0, .int .i64 n, .int .i64 t] 76] fun v H => v = .int .u8 (nx8 n t s) ∧ H = [.cells [.int .u8 s0, .int .i64 n, .int .i64 t] 76] := by
  have hw : IntKind.i64.wrap (n - 1) = n - 1 := wrap64 (by omega) (by omega)
  refine ACalls.code tabOk h47 Try.func47 Try.call47 ok47 ?_
  conv => whnf
  refine Req.of ?_ ?_
  · (simp; omega)
  conv => whnf
  refine Req.of ?_ ?_
  · (simp; omega)
  conv => whnf
  (exact ⟨by unfold nx8; rfl, rfl⟩)
theorem poly8_step (s n t : Int) (h : 1 ≤ n ∧ n ≤ 16 ∧ 0 ≤ t) : ACalls Try.prog 16 [.pointer (some ⟨0, 0, none⟩)] [.cells [.int .u8 s, .int .i64 n, .int .i64 t] 76] fun v H => v = .int .u8 (lo8 s) ∧ H = [.cells [.int .u8 (nx8 n t s), .int .i64 n, .int .i64 t] 76] := by
  refine ACalls.code tabOk h16 Try.func16 Try.call16 ok16 ?_
  conv => whnf
  refine ACalls.useE (poly8_next _ _ _ _ ?_) [0] rfl (by (conv => whnf); try rfl) (by (conv => whnf); try rfl) ?_
  · omega
  conv => whnf
  exact ⟨rfl, rfl⟩
theorem falls8 (s n t : Int) (h : 1 ≤ n ∧ n ≤ 16 ∧ 0 ≤ t) : ACalls Try.prog 68 [.pointer (some ⟨0, 0, none⟩)] [.cells [.int .u8 s, .int .i64 n, .int .i64 t] 76] fun v H => v = .bool (lb8 s) ∧ H = [.cells [.int .u8 (nx8 n t s), .int .i64 n, .int .i64 t] 76] := by
  have e : (lo8 s != 0) = lb8 s := rfl
  refine ACalls.code tabOk h68 Try.func68 Try.call68 ok68 ?_
  conv => whnf
  refine ACalls.useE (poly8_step _ _ _ ?_) [0] rfl (by (conv => whnf); try rfl) (by (conv => whnf); try rfl) ?_
  · omega
  conv => whnf
  exact ⟨rfl, rfl⟩
theorem poly16_next (s0 n t s : Int) (h : 1 ≤ n ∧ n ≤ 16 ∧ 0 ≤ t) : ACalls Try.prog 54 [.pointer (some ⟨0, 0, none⟩), .int .u16 s] [.cells [.int .u16 s0, .int .i64 n, .int .i64 t] 81] fun v H => v = .int .u16 (nx16 n t s) ∧ H = [.cells [.int .u16 s0, .int .i64 n, .int .i64 t] 81] := by
  have hw : IntKind.i64.wrap (n - 1) = n - 1 := wrap64 (by omega) (by omega)
  refine ACalls.code tabOk h54 Try.func54 Try.call54 ok54 ?_
  conv => whnf
  refine Req.of ?_ ?_
  · (simp; omega)
  conv => whnf
  refine Req.of ?_ ?_
  · (simp; omega)
  conv => whnf
  (exact ⟨by unfold nx16; rfl, rfl⟩)
theorem poly16_step (s n t : Int) (h : 1 ≤ n ∧ n ≤ 16 ∧ 0 ≤ t) : ACalls Try.prog 31 [.pointer (some ⟨0, 0, none⟩)] [.cells [.int .u16 s, .int .i64 n, .int .i64 t] 81] fun v H => v = .int .u8 (lo16 s) ∧ H = [.cells [.int .u16 (nx16 n t s), .int .i64 n, .int .i64 t] 81] := by
  refine ACalls.code tabOk h31 Try.func31 Try.call31 ok31 ?_
  conv => whnf
  refine ACalls.useE (poly16_next _ _ _ _ ?_) [0] rfl (by (conv => whnf); try rfl) (by (conv => whnf); try rfl) ?_
  · omega
  conv => whnf
  exact ⟨rfl, rfl⟩
theorem falls16 (s n t : Int) (h : 1 ≤ n ∧ n ≤ 16 ∧ 0 ≤ t) : ACalls Try.prog 70 [.pointer (some ⟨0, 0, none⟩)] [.cells [.int .u16 s, .int .i64 n, .int .i64 t] 81] fun v H => v = .bool (lb16 s) ∧ H = [.cells [.int .u16 (nx16 n t s), .int .i64 n, .int .i64 t] 81] := by
  have e : (lo16 s != 0) = lb16 s := rfl
  refine ACalls.code tabOk h70 Try.func70 Try.call70 ok70 ?_
  conv => whnf
  refine ACalls.useE (poly16_step _ _ _ ?_) [0] rfl (by (conv => whnf); try rfl) (by (conv => whnf); try rfl) ?_
  · omega
  conv => whnf
  exact ⟨rfl, rfl⟩

/-- A voice's inner state. -/
structure VT where
  a : Int
  b : Int
  d : Int
  k : Int
  h : Bool

def VT.beat4 (s : VT) : VT := ⟨s.a, nx8 5 2 s.b, s.d, 0, !s.h⟩
def VT.tick4 (L : Int) (s : VT) : VT := if L ≤ s.k + 1 then s.beat4 else { s with k := s.k + 1 }
def VT.ticks4 (L : Int) : Nat → VT → VT
  | 0, s => s
  | n + 1, s => (VT.ticks4 L n s).tick4 L
def VT.heap4 (r w : Int) (s : VT) : List Blk := [.cells [.int .u8 4, .int .u8 r, .int .u8 w, .pointer (some ⟨1, 0, none⟩), .pointer (some ⟨2, 0, none⟩), .pointer (some ⟨3, 0, none⟩), .int .i64 s.k, .bool s.h] 87, .cells [.int .u8 s.a, .int .i64 4, .int .i64 1] 76, .cells [.int .u8 s.b, .int .i64 5, .int .i64 2] 76, .cells [.int .u16 s.d, .int .i64 9, .int .i64 4] 81]
theorem tone_tick4 (r w a b d k : Int) (h : Bool) (hr : 0 ≤ r ∧ r ≤ 31) (hk : 0 ≤ k ∧ k ≤ 31) : ACalls Try.prog 45 [.pointer (some ⟨0, 0, none⟩)] [.cells [.int .u8 4, .int .u8 r, .int .u8 w, .pointer (some ⟨1, 0, none⟩), .pointer (some ⟨2, 0, none⟩), .pointer (some ⟨3, 0, none⟩), .int .i64 k, .bool h] 87, .cells [.int .u8 a, .int .i64 4, .int .i64 1] 76, .cells [.int .u8 b, .int .i64 5, .int .i64 2] 76, .cells [.int .u16 d, .int .i64 9, .int .i64 4] 81] fun v H => v = .tuple #[] ∧ H = VT.heap4 r w (VT.tick4 (r + 1) ⟨a, b, d, k, h⟩) := by
  have ek : IntKind.i64.wrap (k + 1) = k + 1 := wrap64 (by omega) (by omega)
  have er : IntKind.i64.wrap (IntKind.i64.wrap r + 1) = r + 1 := by rw [wrap64 (n := r) (by omega) (by omega), wrap64 (by omega) (by omega)]
  by_cases hc : r + 1 ≤ k + 1
  · have e : VT.tick4 (r + 1) ⟨a, b, d, k, h⟩ = VT.beat4 ⟨a, b, d, k, h⟩ := by unfold VT.tick4; rw [if_pos hc]
    rw [e]
    refine ACalls.code tabOk h45 Try.func45 Try.call45 ok45 ?_
    conv => whnf
    refine ACalls.code tabOk h62 Try.func62 Try.call62 ok62 ?_
    conv => whnf
    rw [ek]
    conv => whnf
    rw [er]
    conv => whnf
    refine ⟨rfl, ?_⟩
    conv => whnf
    refine Bif.knT ?_ fun h0 => ?_
    · (simp; omega)
    rw [h0]
    conv => whnf
    refine ACalls.code tabOk h63 Try.func63 Try.call63 ok63 ?_
    conv => whnf
    refine ACalls.useE (falls8 _ _ _ ?_) [2] rfl (by (conv => whnf); try rfl) (by (conv => whnf); try rfl) ?_
    · decide
    conv => whnf
    exact ⟨rfl, rfl⟩
  · have e : VT.tick4 (r + 1) ⟨a, b, d, k, h⟩ = ⟨a, b, d, k + 1, h⟩ := by unfold VT.tick4; rw [if_neg hc]
    rw [e]
    refine ACalls.code tabOk h45 Try.func45 Try.call45 ok45 ?_
    conv => whnf
    refine ACalls.code tabOk h62 Try.func62 Try.call62 ok62 ?_
    conv => whnf
    rw [ek]
    conv => whnf
    rw [er]
    conv => whnf
    refine ⟨rfl, ?_⟩
    conv => whnf
    refine Bif.knF ?_ fun h0 => ?_
    · (simp; omega)
    rw [h0]
    conv => whnf
    exact ⟨rfl, rfl⟩
theorem VT.ok4 {L : Int} (hL : 1 ≤ L) {s : VT} (h : 0 ≤ s.k ∧ s.k < L) : 0 ≤ (s.tick4 L).k ∧ (s.tick4 L).k < L := by
  unfold VT.tick4
  split
  · exact ⟨Int.le_refl _, by show (0 : Int) < L; omega⟩
  · exact ⟨by show 0 ≤ s.k + 1; omega, by show s.k + 1 < L; omega⟩
theorem VT.oks4 {L : Int} (hL : 1 ≤ L) {s : VT} (h : 0 ≤ s.k ∧ s.k < L) : ∀ n, 0 ≤ (VT.ticks4 L n s).k ∧ (VT.ticks4 L n s).k < L
  | 0 => h
  | n + 1 => VT.ok4 hL (VT.oks4 hL h n)
theorem tone_ticked4 (r w a b d k : Int) (h : Bool) (n : Int) (hr : 0 ≤ r ∧ r ≤ 31) (hk : 0 ≤ k ∧ k < r + 1) (hn : n ≤ 100000) : ACalls Try.prog 36 [.pointer (some ⟨0, 0, none⟩), .int .i64 n] [.cells [.int .u8 4, .int .u8 r, .int .u8 w, .pointer (some ⟨1, 0, none⟩), .pointer (some ⟨2, 0, none⟩), .pointer (some ⟨3, 0, none⟩), .int .i64 k, .bool h] 87, .cells [.int .u8 a, .int .i64 4, .int .i64 1] 76, .cells [.int .u8 b, .int .i64 5, .int .i64 2] 76, .cells [.int .u16 d, .int .i64 9, .int .i64 4] 81] fun v H => v = .tuple #[] ∧ H = VT.heap4 r w (VT.ticks4 (r + 1) n.toNat ⟨a, b, d, k, h⟩) := by
  refine ACalls.code tabOk h36 Try.func36 Try.call36 ok36 ?_
  conv => whnf

  refine ALoop.fd (σ := Nat) (fun i => [.pointer (some ⟨0, 0, none⟩), .int .i64 n, .chan none, .chan none, .int .i64 i, .chan none, .chan none, .chan none, .chan none, .chan none, .chan none, .chan none]) (fun i => VT.heap4 r w (VT.ticks4 (r + 1) i ⟨a, b, d, k, h⟩)) (fun i => i ≤ n.toNat) (fun i => n.toNat - i) 0 [] rfl rfl (Nat.zero_le _) (fun _ => ⟨rfl, rfl, rfl, rfl⟩) ?_
  intro i hi R hR
  have ei : IntKind.i64.wrap ((i : Int) + 1) = ((i + 1 : Nat) : Int) := by rw [wrap64 (by omega) (by omega)]; rfl
  have ok := VT.oks4 (L := r + 1) (by omega) (s := ⟨a, b, d, k, h⟩) hk i
  have ok2 : 0 ≤ (VT.ticks4 (r + 1) i ⟨a, b, d, k, h⟩).k ∧ (VT.ticks4 (r + 1) i ⟨a, b, d, k, h⟩).k ≤ 31 := by omega
  conv => whnf
  refine Bif.of (fun h0 => ?_) fun h0 => ?_
  · have hlt : (i : Int) < n := by simpa using h0
    conv => whnf
    refine ACalls.useE (tone_tick4 _ _ _ _ _ _ _ hr ok2) [0, 1, 2, 3] rfl (by (conv => whnf); try rfl) (by (conv => whnf); try rfl) ?_
    conv => whnf
    (rw [ei]; exact hR (i + 1) _ _ [] rfl rfl (by omega) (by omega))
  · have hlt : ¬ (i : Int) < n := by simpa using h0
    have hn2 : n.toNat = i := by omega
    clear hR
    rw [hn2]
    conv => whnf
    exact ⟨rfl, rfl⟩
/-- So many ticks as a beat has: one beat, the count as it was. -/
theorem VT.round4_part {L : Int} {s : VT} (h : 0 ≤ s.k) : ∀ j : Nat, s.k + j < L → VT.ticks4 L j s = ⟨s.a, s.b, s.d, s.k + j, s.h⟩
  | 0, _ => by show s = _; simp
  | j + 1, hj => by
    show (VT.ticks4 L j s).tick4 L = _
    rw [VT.round4_part h j (by omega)]
    unfold VT.tick4
    dsimp only
    rw [if_neg (by omega)]
    simp only [VT.mk.injEq]
    refine ⟨trivial, trivial, trivial, by omega, trivial⟩
theorem VT.ticks4_add (L : Int) (s : VT) (m : Nat) : ∀ n, VT.ticks4 L (m + n) s = VT.ticks4 L n (VT.ticks4 L m s)
  | 0 => rfl
  | n + 1 => by show (VT.ticks4 L (m + n) s).tick4 L = _; rw [VT.ticks4_add L s m n]; rfl
theorem VT.round4 {L : Int} (hL : 1 ≤ L) {s : VT} (h : 0 ≤ s.k ∧ s.k < L) : VT.ticks4 L L.toNat s = { s.beat4 with k := s.k } := by
  have e : L.toNat = (L - 1 - s.k).toNat + 1 + s.k.toNat := by omega
  rw [e, VT.ticks4_add, VT.ticks4_add, VT.round4_part h.1 _ (by omega)]
  have e2 : VT.ticks4 L 1 ⟨s.a, s.b, s.d, s.k + ((L - 1 - s.k).toNat : Int), s.h⟩ = s.beat4 := by
    show VT.tick4 L ⟨s.a, s.b, s.d, s.k + ((L - 1 - s.k).toNat : Int), s.h⟩ = _
    unfold VT.tick4
    dsimp only
    rw [if_pos (by omega)]; rfl
  rw [e2, VT.round4_part (s := s.beat4) (Int.le_refl _) _ (by show (0 : Int) + _ < L; omega)]
  show VT.mk _ _ _ (0 + _) _ = _
  rw [Int.toNat_of_nonneg h.1, Int.zero_add]
def VT.beats4 : Nat → VT → VT
  | 0, s => s
  | n + 1, s => { (VT.beats4 n s).beat4 with k := s.k }
theorem VT.rounds4 {L : Int} (hL : 1 ≤ L) {s : VT} (h : 0 ≤ s.k ∧ s.k < L) : ∀ m : Nat, VT.ticks4 L (m * L.toNat) s = VT.beats4 m s ∧ (VT.beats4 m s).k = s.k
  | 0 => ⟨by rw [Nat.zero_mul]; rfl, rfl⟩
  | m + 1 => by
    obtain ⟨h1, h2⟩ := VT.rounds4 hL h m
    refine ⟨?_, rfl⟩
    rw [Nat.succ_mul, VT.ticks4_add, h1, VT.round4 hL (by rw [h2]; exact h), h2]
    rfl

def VT.beat5 (s : VT) : VT := ⟨s.a, nx8 5 2 s.b, s.d, 0, !s.h⟩
def VT.tick5 (L : Int) (s : VT) : VT := if L ≤ s.k + 1 then s.beat5 else { s with k := s.k + 1 }
def VT.ticks5 (L : Int) : Nat → VT → VT
  | 0, s => s
  | n + 1, s => (VT.ticks5 L n s).tick5 L
def VT.heap5 (r w : Int) (s : VT) : List Blk := [.cells [.int .u8 5, .int .u8 r, .int .u8 w, .pointer (some ⟨1, 0, none⟩), .pointer (some ⟨2, 0, none⟩), .pointer (some ⟨3, 0, none⟩), .int .i64 s.k, .bool s.h] 87, .cells [.int .u8 s.a, .int .i64 4, .int .i64 1] 76, .cells [.int .u8 s.b, .int .i64 5, .int .i64 2] 76, .cells [.int .u16 s.d, .int .i64 9, .int .i64 4] 81]
theorem tone_tick5 (r w a b d k : Int) (h : Bool) (hr : 0 ≤ r ∧ r ≤ 31) (hk : 0 ≤ k ∧ k ≤ 31) : ACalls Try.prog 45 [.pointer (some ⟨0, 0, none⟩)] [.cells [.int .u8 5, .int .u8 r, .int .u8 w, .pointer (some ⟨1, 0, none⟩), .pointer (some ⟨2, 0, none⟩), .pointer (some ⟨3, 0, none⟩), .int .i64 k, .bool h] 87, .cells [.int .u8 a, .int .i64 4, .int .i64 1] 76, .cells [.int .u8 b, .int .i64 5, .int .i64 2] 76, .cells [.int .u16 d, .int .i64 9, .int .i64 4] 81] fun v H => v = .tuple #[] ∧ H = VT.heap5 r w (VT.tick5 (r + 1) ⟨a, b, d, k, h⟩) := by
  have ek : IntKind.i64.wrap (k + 1) = k + 1 := wrap64 (by omega) (by omega)
  have er : IntKind.i64.wrap (IntKind.i64.wrap r + 1) = r + 1 := by rw [wrap64 (n := r) (by omega) (by omega), wrap64 (by omega) (by omega)]
  by_cases hc : r + 1 ≤ k + 1
  · have e : VT.tick5 (r + 1) ⟨a, b, d, k, h⟩ = VT.beat5 ⟨a, b, d, k, h⟩ := by unfold VT.tick5; rw [if_pos hc]
    rw [e]
    refine ACalls.code tabOk h45 Try.func45 Try.call45 ok45 ?_
    conv => whnf
    refine ACalls.code tabOk h62 Try.func62 Try.call62 ok62 ?_
    conv => whnf
    rw [ek]
    conv => whnf
    rw [er]
    conv => whnf
    refine ⟨rfl, ?_⟩
    conv => whnf
    refine Bif.knT ?_ fun h0 => ?_
    · (simp; omega)
    rw [h0]
    conv => whnf
    refine ACalls.code tabOk h63 Try.func63 Try.call63 ok63 ?_
    conv => whnf
    refine ACalls.useE (falls8 _ _ _ ?_) [2] rfl (by (conv => whnf); try rfl) (by (conv => whnf); try rfl) ?_
    · decide
    conv => whnf
    exact ⟨rfl, rfl⟩
  · have e : VT.tick5 (r + 1) ⟨a, b, d, k, h⟩ = ⟨a, b, d, k + 1, h⟩ := by unfold VT.tick5; rw [if_neg hc]
    rw [e]
    refine ACalls.code tabOk h45 Try.func45 Try.call45 ok45 ?_
    conv => whnf
    refine ACalls.code tabOk h62 Try.func62 Try.call62 ok62 ?_
    conv => whnf
    rw [ek]
    conv => whnf
    rw [er]
    conv => whnf
    refine ⟨rfl, ?_⟩
    conv => whnf
    refine Bif.knF ?_ fun h0 => ?_
    · (simp; omega)
    rw [h0]
    conv => whnf
    exact ⟨rfl, rfl⟩
theorem VT.ok5 {L : Int} (hL : 1 ≤ L) {s : VT} (h : 0 ≤ s.k ∧ s.k < L) : 0 ≤ (s.tick5 L).k ∧ (s.tick5 L).k < L := by
  unfold VT.tick5
  split
  · exact ⟨Int.le_refl _, by show (0 : Int) < L; omega⟩
  · exact ⟨by show 0 ≤ s.k + 1; omega, by show s.k + 1 < L; omega⟩
theorem VT.oks5 {L : Int} (hL : 1 ≤ L) {s : VT} (h : 0 ≤ s.k ∧ s.k < L) : ∀ n, 0 ≤ (VT.ticks5 L n s).k ∧ (VT.ticks5 L n s).k < L
  | 0 => h
  | n + 1 => VT.ok5 hL (VT.oks5 hL h n)
theorem tone_ticked5 (r w a b d k : Int) (h : Bool) (n : Int) (hr : 0 ≤ r ∧ r ≤ 31) (hk : 0 ≤ k ∧ k < r + 1) (hn : n ≤ 100000) : ACalls Try.prog 36 [.pointer (some ⟨0, 0, none⟩), .int .i64 n] [.cells [.int .u8 5, .int .u8 r, .int .u8 w, .pointer (some ⟨1, 0, none⟩), .pointer (some ⟨2, 0, none⟩), .pointer (some ⟨3, 0, none⟩), .int .i64 k, .bool h] 87, .cells [.int .u8 a, .int .i64 4, .int .i64 1] 76, .cells [.int .u8 b, .int .i64 5, .int .i64 2] 76, .cells [.int .u16 d, .int .i64 9, .int .i64 4] 81] fun v H => v = .tuple #[] ∧ H = VT.heap5 r w (VT.ticks5 (r + 1) n.toNat ⟨a, b, d, k, h⟩) := by
  refine ACalls.code tabOk h36 Try.func36 Try.call36 ok36 ?_
  conv => whnf

  refine ALoop.fd (σ := Nat) (fun i => [.pointer (some ⟨0, 0, none⟩), .int .i64 n, .chan none, .chan none, .int .i64 i, .chan none, .chan none, .chan none, .chan none, .chan none, .chan none, .chan none]) (fun i => VT.heap5 r w (VT.ticks5 (r + 1) i ⟨a, b, d, k, h⟩)) (fun i => i ≤ n.toNat) (fun i => n.toNat - i) 0 [] rfl rfl (Nat.zero_le _) (fun _ => ⟨rfl, rfl, rfl, rfl⟩) ?_
  intro i hi R hR
  have ei : IntKind.i64.wrap ((i : Int) + 1) = ((i + 1 : Nat) : Int) := by rw [wrap64 (by omega) (by omega)]; rfl
  have ok := VT.oks5 (L := r + 1) (by omega) (s := ⟨a, b, d, k, h⟩) hk i
  have ok2 : 0 ≤ (VT.ticks5 (r + 1) i ⟨a, b, d, k, h⟩).k ∧ (VT.ticks5 (r + 1) i ⟨a, b, d, k, h⟩).k ≤ 31 := by omega
  conv => whnf
  refine Bif.of (fun h0 => ?_) fun h0 => ?_
  · have hlt : (i : Int) < n := by simpa using h0
    conv => whnf
    refine ACalls.useE (tone_tick5 _ _ _ _ _ _ _ hr ok2) [0, 1, 2, 3] rfl (by (conv => whnf); try rfl) (by (conv => whnf); try rfl) ?_
    conv => whnf
    (rw [ei]; exact hR (i + 1) _ _ [] rfl rfl (by omega) (by omega))
  · have hlt : ¬ (i : Int) < n := by simpa using h0
    have hn2 : n.toNat = i := by omega
    clear hR
    rw [hn2]
    conv => whnf
    exact ⟨rfl, rfl⟩
/-- So many ticks as a beat has: one beat, the count as it was. -/
theorem VT.round5_part {L : Int} {s : VT} (h : 0 ≤ s.k) : ∀ j : Nat, s.k + j < L → VT.ticks5 L j s = ⟨s.a, s.b, s.d, s.k + j, s.h⟩
  | 0, _ => by show s = _; simp
  | j + 1, hj => by
    show (VT.ticks5 L j s).tick5 L = _
    rw [VT.round5_part h j (by omega)]
    unfold VT.tick5
    dsimp only
    rw [if_neg (by omega)]
    simp only [VT.mk.injEq]
    refine ⟨trivial, trivial, trivial, by omega, trivial⟩
theorem VT.ticks5_add (L : Int) (s : VT) (m : Nat) : ∀ n, VT.ticks5 L (m + n) s = VT.ticks5 L n (VT.ticks5 L m s)
  | 0 => rfl
  | n + 1 => by show (VT.ticks5 L (m + n) s).tick5 L = _; rw [VT.ticks5_add L s m n]; rfl
theorem VT.round5 {L : Int} (hL : 1 ≤ L) {s : VT} (h : 0 ≤ s.k ∧ s.k < L) : VT.ticks5 L L.toNat s = { s.beat5 with k := s.k } := by
  have e : L.toNat = (L - 1 - s.k).toNat + 1 + s.k.toNat := by omega
  rw [e, VT.ticks5_add, VT.ticks5_add, VT.round5_part h.1 _ (by omega)]
  have e2 : VT.ticks5 L 1 ⟨s.a, s.b, s.d, s.k + ((L - 1 - s.k).toNat : Int), s.h⟩ = s.beat5 := by
    show VT.tick5 L ⟨s.a, s.b, s.d, s.k + ((L - 1 - s.k).toNat : Int), s.h⟩ = _
    unfold VT.tick5
    dsimp only
    rw [if_pos (by omega)]; rfl
  rw [e2, VT.round5_part (s := s.beat5) (Int.le_refl _) _ (by show (0 : Int) + _ < L; omega)]
  show VT.mk _ _ _ (0 + _) _ = _
  rw [Int.toNat_of_nonneg h.1, Int.zero_add]
def VT.beats5 : Nat → VT → VT
  | 0, s => s
  | n + 1, s => { (VT.beats5 n s).beat5 with k := s.k }
theorem VT.rounds5 {L : Int} (hL : 1 ≤ L) {s : VT} (h : 0 ≤ s.k ∧ s.k < L) : ∀ m : Nat, VT.ticks5 L (m * L.toNat) s = VT.beats5 m s ∧ (VT.beats5 m s).k = s.k
  | 0 => ⟨by rw [Nat.zero_mul]; rfl, rfl⟩
  | m + 1 => by
    obtain ⟨h1, h2⟩ := VT.rounds5 hL h m
    refine ⟨?_, rfl⟩
    rw [Nat.succ_mul, VT.ticks5_add, h1, VT.round5 hL (by rw [h2]; exact h), h2]
    rfl

def VT.beat1 (s : VT) : VT := ⟨nx8 4 1 s.a, nx8 5 2 s.b, s.d, 0, lb8 s.a⟩
def VT.tick1 (L : Int) (s : VT) : VT := if L ≤ s.k + 1 then s.beat1 else { s with k := s.k + 1 }
def VT.ticks1 (L : Int) : Nat → VT → VT
  | 0, s => s
  | n + 1, s => (VT.ticks1 L n s).tick1 L
def VT.heap1 (r w : Int) (s : VT) : List Blk := [.cells [.int .u8 1, .int .u8 r, .int .u8 w, .pointer (some ⟨1, 0, none⟩), .pointer (some ⟨2, 0, none⟩), .pointer (some ⟨3, 0, none⟩), .int .i64 s.k, .bool s.h] 87, .cells [.int .u8 s.a, .int .i64 4, .int .i64 1] 76, .cells [.int .u8 s.b, .int .i64 5, .int .i64 2] 76, .cells [.int .u16 s.d, .int .i64 9, .int .i64 4] 81]
theorem tone_tick1 (r w a b d k : Int) (h : Bool) (hr : 0 ≤ r ∧ r ≤ 31) (hk : 0 ≤ k ∧ k ≤ 31) : ACalls Try.prog 45 [.pointer (some ⟨0, 0, none⟩)] [.cells [.int .u8 1, .int .u8 r, .int .u8 w, .pointer (some ⟨1, 0, none⟩), .pointer (some ⟨2, 0, none⟩), .pointer (some ⟨3, 0, none⟩), .int .i64 k, .bool h] 87, .cells [.int .u8 a, .int .i64 4, .int .i64 1] 76, .cells [.int .u8 b, .int .i64 5, .int .i64 2] 76, .cells [.int .u16 d, .int .i64 9, .int .i64 4] 81] fun v H => v = .tuple #[] ∧ H = VT.heap1 r w (VT.tick1 (r + 1) ⟨a, b, d, k, h⟩) := by
  have ek : IntKind.i64.wrap (k + 1) = k + 1 := wrap64 (by omega) (by omega)
  have er : IntKind.i64.wrap (IntKind.i64.wrap r + 1) = r + 1 := by rw [wrap64 (n := r) (by omega) (by omega), wrap64 (by omega) (by omega)]
  by_cases hc : r + 1 ≤ k + 1
  · have e : VT.tick1 (r + 1) ⟨a, b, d, k, h⟩ = VT.beat1 ⟨a, b, d, k, h⟩ := by unfold VT.tick1; rw [if_pos hc]
    rw [e]
    refine ACalls.code tabOk h45 Try.func45 Try.call45 ok45 ?_
    conv => whnf
    refine ACalls.code tabOk h62 Try.func62 Try.call62 ok62 ?_
    conv => whnf
    rw [ek]
    conv => whnf
    rw [er]
    conv => whnf
    refine ⟨rfl, ?_⟩
    conv => whnf
    refine Bif.knT ?_ fun h0 => ?_
    · (simp; omega)
    rw [h0]
    conv => whnf
    refine ACalls.code tabOk h63 Try.func63 Try.call63 ok63 ?_
    conv => whnf
    refine ACalls.useE (falls8 _ _ _ ?_) [2] rfl (by (conv => whnf); try rfl) (by (conv => whnf); try rfl) ?_
    · decide
    conv => whnf
    refine ACalls.useE (falls8 _ _ _ ?_) [1] rfl (by (conv => whnf); try rfl) (by (conv => whnf); try rfl) ?_
    · decide
    conv => whnf
    exact ⟨rfl, rfl⟩
  · have e : VT.tick1 (r + 1) ⟨a, b, d, k, h⟩ = ⟨a, b, d, k + 1, h⟩ := by unfold VT.tick1; rw [if_neg hc]
    rw [e]
    refine ACalls.code tabOk h45 Try.func45 Try.call45 ok45 ?_
    conv => whnf
    refine ACalls.code tabOk h62 Try.func62 Try.call62 ok62 ?_
    conv => whnf
    rw [ek]
    conv => whnf
    rw [er]
    conv => whnf
    refine ⟨rfl, ?_⟩
    conv => whnf
    refine Bif.knF ?_ fun h0 => ?_
    · (simp; omega)
    rw [h0]
    conv => whnf
    exact ⟨rfl, rfl⟩
theorem VT.ok1 {L : Int} (hL : 1 ≤ L) {s : VT} (h : 0 ≤ s.k ∧ s.k < L) : 0 ≤ (s.tick1 L).k ∧ (s.tick1 L).k < L := by
  unfold VT.tick1
  split
  · exact ⟨Int.le_refl _, by show (0 : Int) < L; omega⟩
  · exact ⟨by show 0 ≤ s.k + 1; omega, by show s.k + 1 < L; omega⟩
theorem VT.oks1 {L : Int} (hL : 1 ≤ L) {s : VT} (h : 0 ≤ s.k ∧ s.k < L) : ∀ n, 0 ≤ (VT.ticks1 L n s).k ∧ (VT.ticks1 L n s).k < L
  | 0 => h
  | n + 1 => VT.ok1 hL (VT.oks1 hL h n)
theorem tone_ticked1 (r w a b d k : Int) (h : Bool) (n : Int) (hr : 0 ≤ r ∧ r ≤ 31) (hk : 0 ≤ k ∧ k < r + 1) (hn : n ≤ 100000) : ACalls Try.prog 36 [.pointer (some ⟨0, 0, none⟩), .int .i64 n] [.cells [.int .u8 1, .int .u8 r, .int .u8 w, .pointer (some ⟨1, 0, none⟩), .pointer (some ⟨2, 0, none⟩), .pointer (some ⟨3, 0, none⟩), .int .i64 k, .bool h] 87, .cells [.int .u8 a, .int .i64 4, .int .i64 1] 76, .cells [.int .u8 b, .int .i64 5, .int .i64 2] 76, .cells [.int .u16 d, .int .i64 9, .int .i64 4] 81] fun v H => v = .tuple #[] ∧ H = VT.heap1 r w (VT.ticks1 (r + 1) n.toNat ⟨a, b, d, k, h⟩) := by
  refine ACalls.code tabOk h36 Try.func36 Try.call36 ok36 ?_
  conv => whnf

  refine ALoop.fd (σ := Nat) (fun i => [.pointer (some ⟨0, 0, none⟩), .int .i64 n, .chan none, .chan none, .int .i64 i, .chan none, .chan none, .chan none, .chan none, .chan none, .chan none, .chan none]) (fun i => VT.heap1 r w (VT.ticks1 (r + 1) i ⟨a, b, d, k, h⟩)) (fun i => i ≤ n.toNat) (fun i => n.toNat - i) 0 [] rfl rfl (Nat.zero_le _) (fun _ => ⟨rfl, rfl, rfl, rfl⟩) ?_
  intro i hi R hR
  have ei : IntKind.i64.wrap ((i : Int) + 1) = ((i + 1 : Nat) : Int) := by rw [wrap64 (by omega) (by omega)]; rfl
  have ok := VT.oks1 (L := r + 1) (by omega) (s := ⟨a, b, d, k, h⟩) hk i
  have ok2 : 0 ≤ (VT.ticks1 (r + 1) i ⟨a, b, d, k, h⟩).k ∧ (VT.ticks1 (r + 1) i ⟨a, b, d, k, h⟩).k ≤ 31 := by omega
  conv => whnf
  refine Bif.of (fun h0 => ?_) fun h0 => ?_
  · have hlt : (i : Int) < n := by simpa using h0
    conv => whnf
    refine ACalls.useE (tone_tick1 _ _ _ _ _ _ _ hr ok2) [0, 1, 2, 3] rfl (by (conv => whnf); try rfl) (by (conv => whnf); try rfl) ?_
    conv => whnf
    (rw [ei]; exact hR (i + 1) _ _ [] rfl rfl (by omega) (by omega))
  · have hlt : ¬ (i : Int) < n := by simpa using h0
    have hn2 : n.toNat = i := by omega
    clear hR
    rw [hn2]
    conv => whnf
    exact ⟨rfl, rfl⟩
/-- So many ticks as a beat has: one beat, the count as it was. -/
theorem VT.round1_part {L : Int} {s : VT} (h : 0 ≤ s.k) : ∀ j : Nat, s.k + j < L → VT.ticks1 L j s = ⟨s.a, s.b, s.d, s.k + j, s.h⟩
  | 0, _ => by show s = _; simp
  | j + 1, hj => by
    show (VT.ticks1 L j s).tick1 L = _
    rw [VT.round1_part h j (by omega)]
    unfold VT.tick1
    dsimp only
    rw [if_neg (by omega)]
    simp only [VT.mk.injEq]
    refine ⟨trivial, trivial, trivial, by omega, trivial⟩
theorem VT.ticks1_add (L : Int) (s : VT) (m : Nat) : ∀ n, VT.ticks1 L (m + n) s = VT.ticks1 L n (VT.ticks1 L m s)
  | 0 => rfl
  | n + 1 => by show (VT.ticks1 L (m + n) s).tick1 L = _; rw [VT.ticks1_add L s m n]; rfl
theorem VT.round1 {L : Int} (hL : 1 ≤ L) {s : VT} (h : 0 ≤ s.k ∧ s.k < L) : VT.ticks1 L L.toNat s = { s.beat1 with k := s.k } := by
  have e : L.toNat = (L - 1 - s.k).toNat + 1 + s.k.toNat := by omega
  rw [e, VT.ticks1_add, VT.ticks1_add, VT.round1_part h.1 _ (by omega)]
  have e2 : VT.ticks1 L 1 ⟨s.a, s.b, s.d, s.k + ((L - 1 - s.k).toNat : Int), s.h⟩ = s.beat1 := by
    show VT.tick1 L ⟨s.a, s.b, s.d, s.k + ((L - 1 - s.k).toNat : Int), s.h⟩ = _
    unfold VT.tick1
    dsimp only
    rw [if_pos (by omega)]; rfl
  rw [e2, VT.round1_part (s := s.beat1) (Int.le_refl _) _ (by show (0 : Int) + _ < L; omega)]
  show VT.mk _ _ _ (0 + _) _ = _
  rw [Int.toNat_of_nonneg h.1, Int.zero_add]
def VT.beats1 : Nat → VT → VT
  | 0, s => s
  | n + 1, s => { (VT.beats1 n s).beat1 with k := s.k }
theorem VT.rounds1 {L : Int} (hL : 1 ≤ L) {s : VT} (h : 0 ≤ s.k ∧ s.k < L) : ∀ m : Nat, VT.ticks1 L (m * L.toNat) s = VT.beats1 m s ∧ (VT.beats1 m s).k = s.k
  | 0 => ⟨by rw [Nat.zero_mul]; rfl, rfl⟩
  | m + 1 => by
    obtain ⟨h1, h2⟩ := VT.rounds1 hL h m
    refine ⟨?_, rfl⟩
    rw [Nat.succ_mul, VT.ticks1_add, h1, VT.round1 hL (by rw [h2]; exact h), h2]
    rfl

def VT.beat8 (s : VT) : VT := ⟨s.a, nx8 5 2 s.b, nx16 9 4 s.d, 0, lb16 s.d⟩
def VT.tick8 (L : Int) (s : VT) : VT := if L ≤ s.k + 1 then s.beat8 else { s with k := s.k + 1 }
def VT.ticks8 (L : Int) : Nat → VT → VT
  | 0, s => s
  | n + 1, s => (VT.ticks8 L n s).tick8 L
def VT.heap8 (r w : Int) (s : VT) : List Blk := [.cells [.int .u8 8, .int .u8 r, .int .u8 w, .pointer (some ⟨1, 0, none⟩), .pointer (some ⟨2, 0, none⟩), .pointer (some ⟨3, 0, none⟩), .int .i64 s.k, .bool s.h] 87, .cells [.int .u8 s.a, .int .i64 4, .int .i64 1] 76, .cells [.int .u8 s.b, .int .i64 5, .int .i64 2] 76, .cells [.int .u16 s.d, .int .i64 9, .int .i64 4] 81]
theorem tone_tick8 (r w a b d k : Int) (h : Bool) (hr : 0 ≤ r ∧ r ≤ 31) (hk : 0 ≤ k ∧ k ≤ 31) : ACalls Try.prog 45 [.pointer (some ⟨0, 0, none⟩)] [.cells [.int .u8 8, .int .u8 r, .int .u8 w, .pointer (some ⟨1, 0, none⟩), .pointer (some ⟨2, 0, none⟩), .pointer (some ⟨3, 0, none⟩), .int .i64 k, .bool h] 87, .cells [.int .u8 a, .int .i64 4, .int .i64 1] 76, .cells [.int .u8 b, .int .i64 5, .int .i64 2] 76, .cells [.int .u16 d, .int .i64 9, .int .i64 4] 81] fun v H => v = .tuple #[] ∧ H = VT.heap8 r w (VT.tick8 (r + 1) ⟨a, b, d, k, h⟩) := by
  have ek : IntKind.i64.wrap (k + 1) = k + 1 := wrap64 (by omega) (by omega)
  have er : IntKind.i64.wrap (IntKind.i64.wrap r + 1) = r + 1 := by rw [wrap64 (n := r) (by omega) (by omega), wrap64 (by omega) (by omega)]
  by_cases hc : r + 1 ≤ k + 1
  · have e : VT.tick8 (r + 1) ⟨a, b, d, k, h⟩ = VT.beat8 ⟨a, b, d, k, h⟩ := by unfold VT.tick8; rw [if_pos hc]
    rw [e]
    refine ACalls.code tabOk h45 Try.func45 Try.call45 ok45 ?_
    conv => whnf
    refine ACalls.code tabOk h62 Try.func62 Try.call62 ok62 ?_
    conv => whnf
    rw [ek]
    conv => whnf
    rw [er]
    conv => whnf
    refine ⟨rfl, ?_⟩
    conv => whnf
    refine Bif.knT ?_ fun h0 => ?_
    · (simp; omega)
    rw [h0]
    conv => whnf
    refine ACalls.code tabOk h63 Try.func63 Try.call63 ok63 ?_
    conv => whnf
    refine ACalls.useE (falls8 _ _ _ ?_) [2] rfl (by (conv => whnf); try rfl) (by (conv => whnf); try rfl) ?_
    · decide
    conv => whnf
    refine ACalls.useE (falls16 _ _ _ ?_) [3] rfl (by (conv => whnf); try rfl) (by (conv => whnf); try rfl) ?_
    · decide
    conv => whnf
    exact ⟨rfl, rfl⟩
  · have e : VT.tick8 (r + 1) ⟨a, b, d, k, h⟩ = ⟨a, b, d, k + 1, h⟩ := by unfold VT.tick8; rw [if_neg hc]
    rw [e]
    refine ACalls.code tabOk h45 Try.func45 Try.call45 ok45 ?_
    conv => whnf
    refine ACalls.code tabOk h62 Try.func62 Try.call62 ok62 ?_
    conv => whnf
    rw [ek]
    conv => whnf
    rw [er]
    conv => whnf
    refine ⟨rfl, ?_⟩
    conv => whnf
    refine Bif.knF ?_ fun h0 => ?_
    · (simp; omega)
    rw [h0]
    conv => whnf
    exact ⟨rfl, rfl⟩
theorem VT.ok8 {L : Int} (hL : 1 ≤ L) {s : VT} (h : 0 ≤ s.k ∧ s.k < L) : 0 ≤ (s.tick8 L).k ∧ (s.tick8 L).k < L := by
  unfold VT.tick8
  split
  · exact ⟨Int.le_refl _, by show (0 : Int) < L; omega⟩
  · exact ⟨by show 0 ≤ s.k + 1; omega, by show s.k + 1 < L; omega⟩
theorem VT.oks8 {L : Int} (hL : 1 ≤ L) {s : VT} (h : 0 ≤ s.k ∧ s.k < L) : ∀ n, 0 ≤ (VT.ticks8 L n s).k ∧ (VT.ticks8 L n s).k < L
  | 0 => h
  | n + 1 => VT.ok8 hL (VT.oks8 hL h n)
theorem tone_ticked8 (r w a b d k : Int) (h : Bool) (n : Int) (hr : 0 ≤ r ∧ r ≤ 31) (hk : 0 ≤ k ∧ k < r + 1) (hn : n ≤ 100000) : ACalls Try.prog 36 [.pointer (some ⟨0, 0, none⟩), .int .i64 n] [.cells [.int .u8 8, .int .u8 r, .int .u8 w, .pointer (some ⟨1, 0, none⟩), .pointer (some ⟨2, 0, none⟩), .pointer (some ⟨3, 0, none⟩), .int .i64 k, .bool h] 87, .cells [.int .u8 a, .int .i64 4, .int .i64 1] 76, .cells [.int .u8 b, .int .i64 5, .int .i64 2] 76, .cells [.int .u16 d, .int .i64 9, .int .i64 4] 81] fun v H => v = .tuple #[] ∧ H = VT.heap8 r w (VT.ticks8 (r + 1) n.toNat ⟨a, b, d, k, h⟩) := by
  refine ACalls.code tabOk h36 Try.func36 Try.call36 ok36 ?_
  conv => whnf

  refine ALoop.fd (σ := Nat) (fun i => [.pointer (some ⟨0, 0, none⟩), .int .i64 n, .chan none, .chan none, .int .i64 i, .chan none, .chan none, .chan none, .chan none, .chan none, .chan none, .chan none]) (fun i => VT.heap8 r w (VT.ticks8 (r + 1) i ⟨a, b, d, k, h⟩)) (fun i => i ≤ n.toNat) (fun i => n.toNat - i) 0 [] rfl rfl (Nat.zero_le _) (fun _ => ⟨rfl, rfl, rfl, rfl⟩) ?_
  intro i hi R hR
  have ei : IntKind.i64.wrap ((i : Int) + 1) = ((i + 1 : Nat) : Int) := by rw [wrap64 (by omega) (by omega)]; rfl
  have ok := VT.oks8 (L := r + 1) (by omega) (s := ⟨a, b, d, k, h⟩) hk i
  have ok2 : 0 ≤ (VT.ticks8 (r + 1) i ⟨a, b, d, k, h⟩).k ∧ (VT.ticks8 (r + 1) i ⟨a, b, d, k, h⟩).k ≤ 31 := by omega
  conv => whnf
  refine Bif.of (fun h0 => ?_) fun h0 => ?_
  · have hlt : (i : Int) < n := by simpa using h0
    conv => whnf
    refine ACalls.useE (tone_tick8 _ _ _ _ _ _ _ hr ok2) [0, 1, 2, 3] rfl (by (conv => whnf); try rfl) (by (conv => whnf); try rfl) ?_
    conv => whnf
    (rw [ei]; exact hR (i + 1) _ _ [] rfl rfl (by omega) (by omega))
  · have hlt : ¬ (i : Int) < n := by simpa using h0
    have hn2 : n.toNat = i := by omega
    clear hR
    rw [hn2]
    conv => whnf
    exact ⟨rfl, rfl⟩
/-- So many ticks as a beat has: one beat, the count as it was. -/
theorem VT.round8_part {L : Int} {s : VT} (h : 0 ≤ s.k) : ∀ j : Nat, s.k + j < L → VT.ticks8 L j s = ⟨s.a, s.b, s.d, s.k + j, s.h⟩
  | 0, _ => by show s = _; simp
  | j + 1, hj => by
    show (VT.ticks8 L j s).tick8 L = _
    rw [VT.round8_part h j (by omega)]
    unfold VT.tick8
    dsimp only
    rw [if_neg (by omega)]
    simp only [VT.mk.injEq]
    refine ⟨trivial, trivial, trivial, by omega, trivial⟩
theorem VT.ticks8_add (L : Int) (s : VT) (m : Nat) : ∀ n, VT.ticks8 L (m + n) s = VT.ticks8 L n (VT.ticks8 L m s)
  | 0 => rfl
  | n + 1 => by show (VT.ticks8 L (m + n) s).tick8 L = _; rw [VT.ticks8_add L s m n]; rfl
theorem VT.round8 {L : Int} (hL : 1 ≤ L) {s : VT} (h : 0 ≤ s.k ∧ s.k < L) : VT.ticks8 L L.toNat s = { s.beat8 with k := s.k } := by
  have e : L.toNat = (L - 1 - s.k).toNat + 1 + s.k.toNat := by omega
  rw [e, VT.ticks8_add, VT.ticks8_add, VT.round8_part h.1 _ (by omega)]
  have e2 : VT.ticks8 L 1 ⟨s.a, s.b, s.d, s.k + ((L - 1 - s.k).toNat : Int), s.h⟩ = s.beat8 := by
    show VT.tick8 L ⟨s.a, s.b, s.d, s.k + ((L - 1 - s.k).toNat : Int), s.h⟩ = _
    unfold VT.tick8
    dsimp only
    rw [if_pos (by omega)]; rfl
  rw [e2, VT.round8_part (s := s.beat8) (Int.le_refl _) _ (by show (0 : Int) + _ < L; omega)]
  show VT.mk _ _ _ (0 + _) _ = _
  rw [Int.toNat_of_nonneg h.1, Int.zero_add]
def VT.beats8 : Nat → VT → VT
  | 0, s => s
  | n + 1, s => { (VT.beats8 n s).beat8 with k := s.k }
theorem VT.rounds8 {L : Int} (hL : 1 ≤ L) {s : VT} (h : 0 ≤ s.k ∧ s.k < L) : ∀ m : Nat, VT.ticks8 L (m * L.toNat) s = VT.beats8 m s ∧ (VT.beats8 m s).k = s.k
  | 0 => ⟨by rw [Nat.zero_mul]; rfl, rfl⟩
  | m + 1 => by
    obtain ⟨h1, h2⟩ := VT.rounds8 hL h m
    refine ⟨?_, rfl⟩
    rw [Nat.succ_mul, VT.ticks8_add, h1, VT.round8 hL (by rw [h2]; exact h), h2]
    rfl
end Go.Proofs
