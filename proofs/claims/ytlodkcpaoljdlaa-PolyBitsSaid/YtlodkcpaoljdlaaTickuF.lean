/-
  Walks through the functions of the program, by contract.
-/
import Derived.Test.YtlodkcpaoljdlaaTickgF
import Derived.Test.YtlodkcpaoljdlaaCore27
set_option linter.all false
set_option linter.unusedVariables false
set_option linter.unusedSimpArgs false
set_option linter.unnecessarySimpa false
namespace Go.Proofs
open Go.Aw
set_option maxRecDepth 100000
set_option maxHeartbeats 4000000
/-- After how many ticks a voice beats. -/
def lenG (c r : Int) : Int := if c < 12 then r + 1 else (r + 1) * 3
def VT.ticksG (c r : Int) : Nat → VT → VT
  | 0, s => s
  | n + 1, s => (VT.ticksG c r n s).tickG c (lenG c r)
@[irreducible] def tkA (c r a b d k : Int) (h : Bool) : Int := (VT.tickG c (lenG c r) ⟨a, b, d, k, h⟩).a
@[irreducible] def tsA (c r : Int) (n : Nat) (a b d k : Int) (h : Bool) : Int := (VT.ticksG c r n ⟨a, b, d, k, h⟩).a
@[irreducible] def tkB (c r a b d k : Int) (h : Bool) : Int := (VT.tickG c (lenG c r) ⟨a, b, d, k, h⟩).b
@[irreducible] def tsB (c r : Int) (n : Nat) (a b d k : Int) (h : Bool) : Int := (VT.ticksG c r n ⟨a, b, d, k, h⟩).b
@[irreducible] def tkD (c r a b d k : Int) (h : Bool) : Int := (VT.tickG c (lenG c r) ⟨a, b, d, k, h⟩).d
@[irreducible] def tsD (c r : Int) (n : Nat) (a b d k : Int) (h : Bool) : Int := (VT.ticksG c r n ⟨a, b, d, k, h⟩).d
@[irreducible] def tkK (c r a b d k : Int) (h : Bool) : Int := (VT.tickG c (lenG c r) ⟨a, b, d, k, h⟩).k
@[irreducible] def tsK (c r : Int) (n : Nat) (a b d k : Int) (h : Bool) : Int := (VT.ticksG c r n ⟨a, b, d, k, h⟩).k
@[irreducible] def tkH (c r a b d k : Int) (h : Bool) : Bool := (VT.tickG c (lenG c r) ⟨a, b, d, k, h⟩).h
@[irreducible] def tsH (c r : Int) (n : Nat) (a b d k : Int) (h : Bool) : Bool := (VT.ticksG c r n ⟨a, b, d, k, h⟩).h
theorem tone_tickU (c r w a b d k : Int) (h : Bool) (hc : 0 ≤ c ∧ c ≤ 15) (hr : 0 ≤ r ∧ r ≤ 31) (hk : 0 ≤ k ∧ k ≤ 95) : ACalls Try.prog 45 [.pointer (some ⟨0, 0, none⟩)] [.cells [.int .u8 c, .int .u8 r, .int .u8 w, .pointer (some ⟨1, 0, none⟩), .pointer (some ⟨2, 0, none⟩), .pointer (some ⟨3, 0, none⟩), .int .i64 k, .bool h] 87, .cells [.int .u8 a, .int .i64 4, .int .i64 1] 76, .cells [.int .u8 b, .int .i64 5, .int .i64 2] 76, .cells [.int .u16 d, .int .i64 9, .int .i64 4] 81] fun v H => v = .tuple #[] ∧ H = [.cells [.int .u8 c, .int .u8 r, .int .u8 w, .pointer (some ⟨1, 0, none⟩), .pointer (some ⟨2, 0, none⟩), .pointer (some ⟨3, 0, none⟩), .int .i64 (tkK c r a b d k h), .bool (tkH c r a b d k h)] 87, .cells [.int .u8 (tkA c r a b d k h), .int .i64 4, .int .i64 1] 76, .cells [.int .u8 (tkB c r a b d k h), .int .i64 5, .int .i64 2] 76, .cells [.int .u16 (tkD c r a b d k h), .int .i64 9, .int .i64 4] 81] := by
  have hc' : c = 0 ∨ c = 1 ∨ c = 2 ∨ c = 3 ∨ c = 4 ∨ c = 5 ∨ c = 6 ∨ c = 7 ∨ c = 8 ∨ c = 9 ∨ c = 10 ∨ c = 11 ∨ c = 12 ∨ c = 13 ∨ c = 14 ∨ c = 15 := by omega
  unfold tkA tkB tkD tkK tkH lenG
  rcases hc' with rfl | rfl | rfl | rfl | rfl | rfl | rfl | rfl | rfl | rfl | rfl | rfl | rfl | rfl | rfl | rfl
  · exact tone_tickG0 r w a b d k h hr hk
  · exact tone_tickG1 r w a b d k h hr hk
  · exact tone_tickG2 r w a b d k h hr hk
  · exact tone_tickG3 r w a b d k h hr hk
  · exact tone_tickG4 r w a b d k h hr hk
  · exact tone_tickG5 r w a b d k h hr hk
  · exact tone_tickG6 r w a b d k h hr hk
  · exact tone_tickG7 r w a b d k h hr hk
  · exact tone_tickG8 r w a b d k h hr hk
  · exact tone_tickG9 r w a b d k h hr hk
  · exact tone_tickG10 r w a b d k h hr hk
  · exact tone_tickG11 r w a b d k h hr hk
  · exact tone_tickG12 r w a b d k h hr hk
  · exact tone_tickG13 r w a b d k h hr hk
  · exact tone_tickG14 r w a b d k h hr hk
  · exact tone_tickG15 r w a b d k h hr hk
theorem VT.ok_tickG {c r : Int} (hr : 0 ≤ r ∧ r ≤ 31) {s : VT} (h : 0 ≤ s.k ∧ s.k ≤ 95) : 0 ≤ (s.tickG c (lenG c r)).k ∧ (s.tickG c (lenG c r)).k ≤ 95 := by
  have hL : lenG c r ≤ 96 := by unfold lenG; split <;> omega
  have hb : ∀ c : Int, ∀ s : VT, (VT.beatG c s).k = s.k := fun c s => by
    unfold VT.beatG VT.turn
    cases (c == 2 || c == 6 || c == 10 || c == 14) && !(slow5 (nx8 5 2 s.b)) <;> cases (c == 3 || c == 7 || c == 11 || c == 15) && !(lb8 s.b) <;> cases c == 9 || c == 10 || c == 11 <;> cases c == 4 || c == 5 || c == 6 || c == 7 || c == 12 || c == 13 || c == 14 || c == 15 <;> cases c == 8 <;> rfl
  unfold VT.tickG
  split
  · rw [hb]; exact ⟨Int.le_refl _, by show (0 : Int) ≤ 95; decide⟩
  · exact ⟨by show 0 ≤ s.k + 1; omega, by show s.k + 1 ≤ 95; omega⟩
theorem VT.ok_ticksG {c r : Int} (hr : 0 ≤ r ∧ r ≤ 31) {s : VT} (h : 0 ≤ s.k ∧ s.k ≤ 95) : ∀ n, 0 ≤ (VT.ticksG c r n s).k ∧ (VT.ticksG c r n s).k ≤ 95
  | 0 => h
  | n + 1 => VT.ok_tickG hr (VT.ok_ticksG hr h n)
theorem tsK_ok {c r : Int} (hr : 0 ≤ r ∧ r ≤ 31) (n : Nat) (a b d : Int) {k : Int} (h : Bool) (hk : 0 ≤ k ∧ k ≤ 95) : 0 ≤ tsK c r n a b d k h ∧ tsK c r n a b d k h ≤ 95 := by
  unfold tsK; exact VT.ok_ticksG hr hk n
theorem tsA_zero (c r a b d k : Int) (h : Bool) : tsA c r 0 a b d k h = a := by unfold tsA; rfl
theorem tsA_succ (c r : Int) (i : Nat) (a b d k : Int) (h : Bool) : tkA c r (tsA c r i a b d k h) (tsB c r i a b d k h) (tsD c r i a b d k h) (tsK c r i a b d k h) (tsH c r i a b d k h) = tsA c r (i + 1) a b d k h := by unfold tkA tsA tsB tsD tsK tsH; rfl
theorem tsB_zero (c r a b d k : Int) (h : Bool) : tsB c r 0 a b d k h = b := by unfold tsB; rfl
theorem tsB_succ (c r : Int) (i : Nat) (a b d k : Int) (h : Bool) : tkB c r (tsA c r i a b d k h) (tsB c r i a b d k h) (tsD c r i a b d k h) (tsK c r i a b d k h) (tsH c r i a b d k h) = tsB c r (i + 1) a b d k h := by unfold tkB tsA tsB tsD tsK tsH; rfl
theorem tsD_zero (c r a b d k : Int) (h : Bool) : tsD c r 0 a b d k h = d := by unfold tsD; rfl
theorem tsD_succ (c r : Int) (i : Nat) (a b d k : Int) (h : Bool) : tkD c r (tsA c r i a b d k h) (tsB c r i a b d k h) (tsD c r i a b d k h) (tsK c r i a b d k h) (tsH c r i a b d k h) = tsD c r (i + 1) a b d k h := by unfold tkD tsA tsB tsD tsK tsH; rfl
theorem tsK_zero (c r a b d k : Int) (h : Bool) : tsK c r 0 a b d k h = k := by unfold tsK; rfl
theorem tsK_succ (c r : Int) (i : Nat) (a b d k : Int) (h : Bool) : tkK c r (tsA c r i a b d k h) (tsB c r i a b d k h) (tsD c r i a b d k h) (tsK c r i a b d k h) (tsH c r i a b d k h) = tsK c r (i + 1) a b d k h := by unfold tkK tsA tsB tsD tsK tsH; rfl
theorem tsH_zero (c r a b d k : Int) (h : Bool) : tsH c r 0 a b d k h = h := by unfold tsH; rfl
theorem tsH_succ (c r : Int) (i : Nat) (a b d k : Int) (h : Bool) : tkH c r (tsA c r i a b d k h) (tsB c r i a b d k h) (tsD c r i a b d k h) (tsK c r i a b d k h) (tsH c r i a b d k h) = tsH c r (i + 1) a b d k h := by unfold tkH tsA tsB tsD tsK tsH; rfl
theorem tone_ticked (c r w a b d k : Int) (h : Bool) (n : Int) (hc : 0 ≤ c ∧ c ≤ 15) (hr : 0 ≤ r ∧ r ≤ 31) (hk : 0 ≤ k ∧ k ≤ 95) (hn : n ≤ 100000) : ACalls Try.prog 36 [.pointer (some ⟨0, 0, none⟩), .int .i64 n] [.cells [.int .u8 c, .int .u8 r, .int .u8 w, .pointer (some ⟨1, 0, none⟩), .pointer (some ⟨2, 0, none⟩), .pointer (some ⟨3, 0, none⟩), .int .i64 k, .bool h] 87, .cells [.int .u8 a, .int .i64 4, .int .i64 1] 76, .cells [.int .u8 b, .int .i64 5, .int .i64 2] 76, .cells [.int .u16 d, .int .i64 9, .int .i64 4] 81] fun v H => v = .tuple #[] ∧ H = [.cells [.int .u8 c, .int .u8 r, .int .u8 w, .pointer (some ⟨1, 0, none⟩), .pointer (some ⟨2, 0, none⟩), .pointer (some ⟨3, 0, none⟩), .int .i64 (tsK c r n.toNat a b d k h), .bool (tsH c r n.toNat a b d k h)] 87, .cells [.int .u8 (tsA c r n.toNat a b d k h), .int .i64 4, .int .i64 1] 76, .cells [.int .u8 (tsB c r n.toNat a b d k h), .int .i64 5, .int .i64 2] 76, .cells [.int .u16 (tsD c r n.toNat a b d k h), .int .i64 9, .int .i64 4] 81] := by
  refine ACalls.code tabOk h36 Try.func36 Try.call36 ok36 ?_
  conv => whnf

  refine ALoop.fd (σ := Nat) (fun i => [.pointer (some ⟨0, 0, none⟩), .int .i64 n, .chan none, .chan none, .int .i64 i, .chan none, .chan none, .chan none, .chan none, .chan none, .chan none, .chan none]) (fun i => [.cells [.int .u8 c, .int .u8 r, .int .u8 w, .pointer (some ⟨1, 0, none⟩), .pointer (some ⟨2, 0, none⟩), .pointer (some ⟨3, 0, none⟩), .int .i64 (tsK c r i a b d k h), .bool (tsH c r i a b d k h)] 87, .cells [.int .u8 (tsA c r i a b d k h), .int .i64 4, .int .i64 1] 76, .cells [.int .u8 (tsB c r i a b d k h), .int .i64 5, .int .i64 2] 76, .cells [.int .u16 (tsD c r i a b d k h), .int .i64 9, .int .i64 4] 81]) (fun i => i ≤ n.toNat) (fun i => n.toNat - i) 0 [] rfl (by rw [tsA_zero, tsB_zero, tsD_zero, tsK_zero, tsH_zero]; rfl) (Nat.zero_le _) (fun _ => ⟨rfl, rfl, rfl, rfl⟩) ?_
  intro i hi R hR
  have ei : IntKind.i64.wrap ((i : Int) + 1) = ((i + 1 : Nat) : Int) := by rw [wrap64 (by omega) (by omega)]; rfl
  have ok := tsK_ok (c := c) hr i a b d h hk
  conv => whnf
  refine Bif.of (fun h0 => ?_) fun h0 => ?_
  · have hlt : (i : Int) < n := by simpa using h0
    conv => whnf
    refine ACalls.useE (tone_tickU _ _ _ _ _ _ _ _ hc hr ok) [0, 1, 2, 3] rfl (by (conv => whnf); try rfl) (by (conv => whnf); try rfl) ?_
    conv => whnf
    rw [tsA_succ, tsB_succ, tsD_succ, tsK_succ, tsH_succ]
    (rw [ei]; exact hR (i + 1) _ _ [] rfl rfl (by omega) (by omega))
  · have hlt : ¬ (i : Int) < n := by simpa using h0
    have hn2 : n.toNat = i := by omega
    clear hR
    rw [hn2]
    conv => whnf
    exact ⟨rfl, rfl⟩
/-- What a voice tells. -/
@[irreducible] def levG (c w : Int) (h : Bool) : Int := if c = 0 ∨ c = 11 ∨ h = true then w else 0
theorem tone_levelU (c r w a b d k : Int) (h : Bool) : ACalls Try.prog 38 [.pointer (some ⟨0, 0, none⟩)] [.cells [.int .u8 c, .int .u8 r, .int .u8 w, .pointer (some ⟨1, 0, none⟩), .pointer (some ⟨2, 0, none⟩), .pointer (some ⟨3, 0, none⟩), .int .i64 k, .bool h] 87, .cells [.int .u8 a, .int .i64 4, .int .i64 1] 76, .cells [.int .u8 b, .int .i64 5, .int .i64 2] 76, .cells [.int .u16 d, .int .i64 9, .int .i64 4] 81] fun v H => v = .int .u8 (levG c w h) ∧ H = [.cells [.int .u8 c, .int .u8 r, .int .u8 w, .pointer (some ⟨1, 0, none⟩), .pointer (some ⟨2, 0, none⟩), .pointer (some ⟨3, 0, none⟩), .int .i64 k, .bool h] 87, .cells [.int .u8 a, .int .i64 4, .int .i64 1] 76, .cells [.int .u8 b, .int .i64 5, .int .i64 2] 76, .cells [.int .u16 d, .int .i64 9, .int .i64 4] 81] := by
  cases h with
  | true =>
    have e : levG c w true = w := by unfold levG; rw [if_pos (.inr (.inr rfl))]
    rw [e]
    refine ACalls.code tabOk h38 Try.func38 Try.call38 ok38 ?_
    conv => whnf
    exact ⟨rfl, rfl⟩
  | false =>
    by_cases h0 : c = 0
    · have e : levG c w false = w := by unfold levG; rw [if_pos (.inl h0)]
      rw [e]
      subst h0
      refine ACalls.code tabOk h38 Try.func38 Try.call38 ok38 ?_
      conv => whnf
      exact ⟨rfl, rfl⟩
    · by_cases h11 : c = 11
      · have e : levG c w false = w := by unfold levG; rw [if_pos (.inr (.inl h11))]
        rw [e]
        subst h11
        refine ACalls.code tabOk h38 Try.func38 Try.call38 ok38 ?_
        conv => whnf
        exact ⟨rfl, rfl⟩
      · have e : levG c w false = 0 := by unfold levG; rw [if_neg (by simp [h0, h11])]
        rw [e]
        refine ACalls.code tabOk h38 Try.func38 Try.call38 ok38 ?_
        conv => whnf
        refine Bif.knT ?_ fun h0 => ?_
        · (simp [h0]; done)
        rw [h0]
        conv => whnf
        refine Bif.knT ?_ fun h1 => ?_
        · (simp [h11]; done)
        rw [h1]
        conv => whnf
        exact ⟨rfl, rfl⟩

theorem poly8_state (s n t : Int) : ACalls Try.prog 17 [.pointer (some ⟨0, 0, none⟩)] [.cells [.int .u8 s, .int .i64 n, .int .i64 t] 76] fun v H => v = .int .u8 s ∧ H = [.cells [.int .u8 s, .int .i64 n, .int .i64 t] 76] := by
  refine ACalls.code tabOk h17 Try.func17 Try.call17 ok17 ?_
  conv => whnf
  exact ⟨rfl, rfl⟩
theorem poly8_set (s0 n t s : Int) (hn : 0 ≤ n ∧ n ≤ 16) (h : (0 ≤ s ∧ s < 2 ^ n.toNat)) (hs : s ≤ 65535) : ACalls Try.prog 18 [.pointer (some ⟨0, 0, none⟩), .int .u8 s] [.cells [.int .u8 s0, .int .i64 n, .int .i64 t] 76] fun v H => v = .int .i64 0 ∧ H = [.cells [.int .u8 s, .int .i64 n, .int .i64 t] 76] := by
  have ew : IntKind.i64.wrap s = s := wrap64 (by omega) (by omega)
  have em : min n.toNat IntKind.i64.bits = n.toNat := by show min n.toNat 64 = n.toNat; omega
  have e0 : s.fdiv (2 ^ n.toNat) = 0 := by rw [Int.fdiv_eq_ediv_of_nonneg _ (Int.le_of_lt (Int.pow_pos (by decide)))]; exact Int.ediv_eq_zero_of_lt h.1 h.2
  refine ACalls.code tabOk h18 Try.func18 Try.call18 ok18 ?_
  conv => whnf
  rw [ew]
  conv => whnf
  rw [em]
  conv => whnf
  rw [e0]
  conv => whnf
  refine Req.of ?_ ?_
  · (simp; omega)
  conv => whnf
  exact ⟨rfl, rfl⟩
theorem poly8_set_bad (s0 n t s : Int) (hn : 0 ≤ n ∧ n ≤ 16) (h : 2 ^ n.toNat ≤ s) (hs : 0 ≤ s ∧ s ≤ 65535) : ACalls Try.prog 18 [.pointer (some ⟨0, 0, none⟩), .int .u8 s] [.cells [.int .u8 s0, .int .i64 n, .int .i64 t] 76] fun v H => v = .int .i64 6 ∧ H = [.cells [.int .u8 s0, .int .i64 n, .int .i64 t] 76] := by
  have ew : IntKind.i64.wrap s = s := wrap64 (by omega) (by omega)
  have em : min n.toNat IntKind.i64.bits = n.toNat := by show min n.toNat 64 = n.toNat; omega
  have e0 : (s.fdiv (2 ^ n.toNat) != 0) = true := by
    rw [Int.fdiv_eq_ediv_of_nonneg _ (Int.le_of_lt (Int.pow_pos (by decide)))]
    have h1 : 1 ≤ s / 2 ^ n.toNat := (Int.le_ediv_iff_mul_le (Int.pow_pos (by decide))).2 (by omega)
    simp; omega
  refine ACalls.code tabOk h18 Try.func18 Try.call18 ok18 ?_
  conv => whnf
  rw [ew]
  conv => whnf
  rw [em]
  conv => whnf
  refine Req.of ?_ ?_
  · (simp; omega)
  conv => whnf
  rw [e0]
  conv => whnf
  exact ⟨rfl, rfl⟩
theorem poly16_state (s n t : Int) : ACalls Try.prog 27 [.pointer (some ⟨0, 0, none⟩)] [.cells [.int .u16 s, .int .i64 n, .int .i64 t] 81] fun v H => v = .int .u16 s ∧ H = [.cells [.int .u16 s, .int .i64 n, .int .i64 t] 81] := by
  refine ACalls.code tabOk h27 Try.func27 Try.call27 ok27 ?_
  conv => whnf
  exact ⟨rfl, rfl⟩
theorem poly16_set (s0 n t s : Int) (hn : 0 ≤ n ∧ n ≤ 16) (h : (0 ≤ s ∧ s < 2 ^ n.toNat)) (hs : s ≤ 65535) : ACalls Try.prog 26 [.pointer (some ⟨0, 0, none⟩), .int .u16 s] [.cells [.int .u16 s0, .int .i64 n, .int .i64 t] 81] fun v H => v = .int .i64 0 ∧ H = [.cells [.int .u16 s, .int .i64 n, .int .i64 t] 81] := by
  have ew : IntKind.i64.wrap s = s := wrap64 (by omega) (by omega)
  have em : min n.toNat IntKind.i64.bits = n.toNat := by show min n.toNat 64 = n.toNat; omega
  have e0 : s.fdiv (2 ^ n.toNat) = 0 := by rw [Int.fdiv_eq_ediv_of_nonneg _ (Int.le_of_lt (Int.pow_pos (by decide)))]; exact Int.ediv_eq_zero_of_lt h.1 h.2
  refine ACalls.code tabOk h26 Try.func26 Try.call26 ok26 ?_
  conv => whnf
  rw [ew]
  conv => whnf
  rw [em]
  conv => whnf
  rw [e0]
  conv => whnf
  refine Req.of ?_ ?_
  · (simp; omega)
  conv => whnf
  exact ⟨rfl, rfl⟩
theorem poly16_set_bad (s0 n t s : Int) (hn : 0 ≤ n ∧ n ≤ 16) (h : 2 ^ n.toNat ≤ s) (hs : 0 ≤ s ∧ s ≤ 65535) : ACalls Try.prog 26 [.pointer (some ⟨0, 0, none⟩), .int .u16 s] [.cells [.int .u16 s0, .int .i64 n, .int .i64 t] 81] fun v H => v = .int .i64 6 ∧ H = [.cells [.int .u16 s0, .int .i64 n, .int .i64 t] 81] := by
  have ew : IntKind.i64.wrap s = s := wrap64 (by omega) (by omega)
  have em : min n.toNat IntKind.i64.bits = n.toNat := by show min n.toNat 64 = n.toNat; omega
  have e0 : (s.fdiv (2 ^ n.toNat) != 0) = true := by
    rw [Int.fdiv_eq_ediv_of_nonneg _ (Int.le_of_lt (Int.pow_pos (by decide)))]
    have h1 : 1 ≤ s / 2 ^ n.toNat := (Int.le_ediv_iff_mul_le (Int.pow_pos (by decide))).2 (by omega)
    simp; omega
  refine ACalls.code tabOk h26 Try.func26 Try.call26 ok26 ?_
  conv => whnf
  rw [ew]
  conv => whnf
  rw [em]
  conv => whnf
  refine Req.of ?_ ?_
  · (simp; omega)
  conv => whnf
  rw [e0]
  conv => whnf
  exact ⟨rfl, rfl⟩
end Go.Proofs
