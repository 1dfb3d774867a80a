/-
  Walks through the functions of the program, by contract.
-/
import Derived.Test.YtmdiokmkokjpiaaGreatZhF
import Derived.Lib.Tables
set_option linter.all false
set_option linter.unusedVariables false
set_option linter.unusedSimpArgs false
set_option linter.unnecessarySimpa false
namespace Go.Proofs
open Go.Aw
set_option maxRecDepth 100000
set_option maxHeartbeats 8000000

/-- Five bits. -/
@[irreducible] def enc5 (a b c d e : Bool) : Int := (if a then 1 else 0) + (if b then 2 else 0) + (if c then 4 else 0) + (if d then 8 else 0) + (if e then 16 else 0)
theorem enc5_and0 (a b c d e : Bool) : (bits .and .u8 (enc5 a b c d e) 1 != 0) = a := by unfold enc5; cases a <;> cases b <;> cases c <;> cases d <;> cases e <;> rfl
theorem enc5_and1 (a b c d e : Bool) : (bits .and .u8 (enc5 a b c d e) 2 != 0) = b := by unfold enc5; cases a <;> cases b <;> cases c <;> cases d <;> cases e <;> rfl
theorem enc5_and2 (a b c d e : Bool) : (bits .and .u8 (enc5 a b c d e) 4 != 0) = c := by unfold enc5; cases a <;> cases b <;> cases c <;> cases d <;> cases e <;> rfl
theorem enc5_and3 (a b c d e : Bool) : (bits .and .u8 (enc5 a b c d e) 8 != 0) = d := by unfold enc5; cases a <;> cases b <;> cases c <;> cases d <;> cases e <;> rfl
theorem enc5_and4 (a b c d e : Bool) : (bits .and .u8 (enc5 a b c d e) 16 != 0) = e := by unfold enc5; cases a <;> cases b <;> cases c <;> cases d <;> cases e <;> rfl
theorem enc5_not0 (a b c d e : Bool) : bits .andNot .u8 (enc5 a b c d e) 1 = enc5 false b c d e := by unfold enc5; cases a <;> cases b <;> cases c <;> cases d <;> cases e <;> rfl
theorem enc5_not1 (a b c d e : Bool) : bits .andNot .u8 (enc5 a b c d e) 2 = enc5 a false c d e := by unfold enc5; cases a <;> cases b <;> cases c <;> cases d <;> cases e <;> rfl
theorem enc5_not2 (a b c d e : Bool) : bits .andNot .u8 (enc5 a b c d e) 4 = enc5 a b false d e := by unfold enc5; cases a <;> cases b <;> cases c <;> cases d <;> cases e <;> rfl
theorem enc5_not3 (a b c d e : Bool) : bits .andNot .u8 (enc5 a b c d e) 8 = enc5 a b c false e := by unfold enc5; cases a <;> cases b <;> cases c <;> cases d <;> cases e <;> rfl
theorem enc5_not4 (a b c d e : Bool) : bits .andNot .u8 (enc5 a b c d e) 16 = enc5 a b c d false := by unfold enc5; cases a <;> cases b <;> cases c <;> cases d <;> cases e <;> rfl
theorem enc5_all : enc5 true true true true true = 31 := by unfold enc5; rfl
theorem enc5_none : enc5 false false false false false = 0 := by unfold enc5; rfl

/-- The count at which a nibble stops a thing. -/
@[irreducible] def stopI (n : Int) : Int := IntKind.i64.wrap (bits .xor .u8 (bits .and .u8 n 15) 8)
theorem stopI_eq (n : Int) : stopI n = (n % 16 + 8) % 16 := by
  unfold stopI
  rw [and15u]
  have h : 0 ≤ n % 16 ∧ n % 16 < 16 := by omega
  generalize n % 16 = k at h
  obtain ⟨j, rfl⟩ : ∃ j : Nat, k = j := ⟨k.toNat, by omega⟩
  have hj : j < 16 := by omega
  revert hj; clear h
  revert j; decide

/-- A motion. -/
structure MS where
  c : Int
  g : Int
  m0 : Bool
  m1 : Bool
  m2 : Bool
  m3 : Bool
  m4 : Bool
def MS.blk (s : MS) : Blk := .cells [.int .i64 s.c, .int .i64 s.g, .int .u8 (enc5 s.m0 s.m1 s.m2 s.m3 s.m4)] 95
def MS.step (s : MS) (clock t0 t1 t2 t3 t4 : Int) : MS :=
  if 16 ≤ s.c then s else if s.g < 3 then { s with g := s.g + 1 } else if clock % 4 ≠ 0 then s
  else if s.c = 15 then ⟨16, 0, false, false, false, false, false⟩
  else ⟨s.c + 1, s.g, s.m0 && !(t0 == s.c), s.m1 && !(t1 == s.c), s.m2 && !(t2 == s.c), s.m3 && !(t3 == s.c), s.m4 && !(t4 == s.c)⟩
def MS.acts (s : MS) (clock : Int) : Bool := decide (s.c < 16) && decide (3 ≤ s.g) && decide (clock % 4 = 0)
def MS.out (s : MS) (clock : Int) (m : Bool) (t : Int) : Bool := s.acts clock && (m && !(t == s.c))

theorem motion_new : ACalls Tryz.prog 16 [] [] fun r H => r = .pointer (some ⟨0, 0, none⟩) ∧ H = [MS.blk ⟨16, 0, false, false, false, false, false⟩] := by
  refine ACalls.codeN tabOk h16 Tryz.func16 Tryz.call16 ok16 [0] ?_
  conv => whnf
  (exact ⟨rfl, by simp [MS.blk, enc5_none]⟩)
theorem motion_strobe (c g m : Int) : ACalls Tryz.prog 29 [.pointer (some ⟨0, 0, none⟩)] [.cells [.int .i64 c, .int .i64 g, .int .u8 m] 95] fun r H => r = .tuple #[] ∧ H = [MS.blk ⟨0, 0, true, true, true, true, true⟩] := by
  refine ACalls.code tabOk h29 Tryz.func29 Tryz.call29 ok29 ?_
  conv => whnf
  (exact ⟨rfl, by simp [MS.blk, enc5_all]⟩)
theorem motion_busy (c g m : Int) : ACalls Tryz.prog 69 [.pointer (some ⟨0, 0, none⟩)] [.cells [.int .i64 c, .int .i64 g, .int .u8 m] 95] fun r H => r = .bool (decide (c < 16)) ∧ H = [.cells [.int .i64 c, .int .i64 g, .int .u8 m] 95] := by
  refine ACalls.code tabOk h69 Tryz.func69 Tryz.call69 ok69 ?_
  conv => whnf
  exact ⟨rfl, rfl⟩

def kp (m : Bool) (t c : Int) : Bool := m && !(t == c)
theorem motion_step (c g clock n0 n1 n2 n3 n4 : Int) (m0 m1 m2 m3 m4 : Bool) (hc : 0 ≤ c ∧ c ≤ 16) (hg : 0 ≤ g ∧ g ≤ 3) :
    ACalls Tryz.prog 38 [.pointer (some ⟨0, 0, none⟩), .int .i64 clock, .agg #[.int .u8 n0, .int .u8 n1, .int .u8 n2, .int .u8 n3, .int .u8 n4]] [.cells [.int .i64 c, .int .i64 g, .int .u8 (enc5 m0 m1 m2 m3 m4)] 95]
      fun r H => r = .agg #[.bool (MS.out ⟨c, g, m0, m1, m2, m3, m4⟩ clock m0 (stopI n0)), .bool (MS.out ⟨c, g, m0, m1, m2, m3, m4⟩ clock m1 (stopI n1)), .bool (MS.out ⟨c, g, m0, m1, m2, m3, m4⟩ clock m2 (stopI n2)), .bool (MS.out ⟨c, g, m0, m1, m2, m3, m4⟩ clock m3 (stopI n3)), .bool (MS.out ⟨c, g, m0, m1, m2, m3, m4⟩ clock m4 (stopI n4))] ∧
        H = [(MS.step ⟨c, g, m0, m1, m2, m3, m4⟩ clock (stopI n0) (stopI n1) (stopI n2) (stopI n3) (stopI n4)).blk] := by
  have s0 : (IntKind.i64.wrap (bits .xor .u8 (bits .and .u8 n0 15) 8) == c) = (stopI n0 == c) := by unfold stopI; rfl
  have s1 : (IntKind.i64.wrap (bits .xor .u8 (bits .and .u8 n1 15) 8) == c) = (stopI n1 == c) := by unfold stopI; rfl
  have s2 : (IntKind.i64.wrap (bits .xor .u8 (bits .and .u8 n2 15) 8) == c) = (stopI n2 == c) := by unfold stopI; rfl
  have s3 : (IntKind.i64.wrap (bits .xor .u8 (bits .and .u8 n3 15) 8) == c) = (stopI n3 == c) := by unfold stopI; rfl
  have s4 : (IntKind.i64.wrap (bits .xor .u8 (bits .and .u8 n4 15) 8) == c) = (stopI n4 == c) := by unfold stopI; rfl
  have wc : IntKind.i64.wrap (c + 1) = c + 1 := wrap64 (by omega) (by omega)
  have wg : IntKind.i64.wrap (g + 1) = g + 1 := wrap64 (by omega) (by omega)
  have hcl : clock.tmod 4 = 0 ↔ clock % 4 = 0 := by rw [Int.tmod_eq_emod]; split <;> omega
  by_cases kA : 16 ≤ c
  · refine ACalls.code tabOk h38 Tryz.func38 Tryz.call38 ok38 ?_
    conv => whnf
    refine ACalls.useE (motion_busy _ _ _) [0] rfl (by (conv => whnf); try rfl) (by (conv => whnf); try rfl) ?_
    conv => whnf
    refine Bif.knT ?_ fun h0 => ?_
    · (simp_all; done)
    rw [h0]
    conv => whnf
    (exact ⟨by simp [MS.out, MS.acts]; omega, by simp [MS.step, MS.blk, kA]⟩)
  by_cases kB : g < 3
  · refine ACalls.code tabOk h38 Tryz.func38 Tryz.call38 ok38 ?_
    conv => whnf
    refine ACalls.useE (motion_busy _ _ _) [0] rfl (by (conv => whnf); try rfl) (by (conv => whnf); try rfl) ?_
    conv => whnf
    refine Bif.knF ?_ fun h0 => ?_
    · (simp_all; done)
    rw [h0]
    conv => whnf
    refine Bif.knT ?_ fun h1 => ?_
    · (simp_all; done)
    rw [h1]
    conv => whnf
    (rw [wg]; exact ⟨by simp [MS.out, MS.acts]; omega, by simp [MS.step, MS.blk, kA, kB]⟩)
  by_cases kC : clock % 4 = 0
  case neg =>
    refine ACalls.code tabOk h38 Tryz.func38 Tryz.call38 ok38 ?_
    conv => whnf
    refine ACalls.useE (motion_busy _ _ _) [0] rfl (by (conv => whnf); try rfl) (by (conv => whnf); try rfl) ?_
    conv => whnf
    refine Bif.knF ?_ fun h0 => ?_
    · (simp_all; done)
    rw [h0]
    conv => whnf
    refine Bif.knF ?_ fun h1 => ?_
    · (simp_all; done)
    rw [h1]
    conv => whnf
    refine Bif.knT ?_ fun h2 => ?_
    · (simp_all; done)
    rw [h2]
    conv => whnf
    (exact ⟨by simp [MS.out, MS.acts]; omega, by simp [MS.step, MS.blk, kA, kB, kC]⟩)
  refine ACalls.code tabOk h38 Tryz.func38 Tryz.call38 ok38 ?_
  conv => whnf
  refine ACalls.useE (motion_busy _ _ _) [0] rfl (by (conv => whnf); try rfl) (by (conv => whnf); try rfl) ?_
  conv => whnf
  refine Bif.knF ?_ fun h0 => ?_
  · (simp_all; done)
  rw [h0]
  conv => whnf
  refine Bif.knF ?_ fun h1 => ?_
  · (simp_all; done)
  rw [h1]
  conv => whnf
  refine Bif.knF ?_ fun h2 => ?_
  · (simp_all; done)
  rw [h2]
  conv => whnf
  refine ALoop.go (fun i : Nat => [none, none, none, some (.pointer (some ⟨1, 0, none⟩)), none, some (.pointer (some ⟨2, 0, none⟩)), some (.pointer (some ⟨3, 0, none⟩)), some (.pointer (some ⟨4, 0, none⟩)), some (.func (.func 70) #[] #[.pointer (some ⟨2, 0, none⟩), .pointer (some ⟨1, 0, none⟩)]), none, none, none, none, none, none, none, none, none, none, none, none, none, none, none, none, none, none, none, none, none, none, none, none, some (.int .i64 i), none, none, none, none, none, none, none, none, none, none, none, none, none, none, none, none, none, none, none, none, none, none, none, none, none, none, none, none, none, none, none, none, none, none, none, none, none, none, none, none, none, none, none, none, none, none, none, none, none, none]) (fun i => [.cells [.int .i64 c, .int .i64 g, .int .u8 (enc5 (if 0 < i then kp m0 (stopI n0) c else m0) (if 1 < i then kp m1 (stopI n1) c else m1) (if 2 < i then kp m2 (stopI n2) c else m2) (if 3 < i then kp m3 (stopI n3) c else m3) (if 4 < i then kp m4 (stopI n4) c else m4))] 95, .cells [.pointer (some ⟨0, 0, none⟩)] 49, .cells [.int .u8 n0, .int .u8 n1, .int .u8 n2, .int .u8 n3, .int .u8 n4] 77,
      .cells [.bool false, .bool false, .bool false, .bool false, .bool false] 75, .cells [.bool (if 0 < i then kp m0 (stopI n0) c else false), .bool (if 1 < i then kp m1 (stopI n1) c else false), .bool (if 2 < i then kp m2 (stopI n2) c else false), .bool (if 3 < i then kp m3 (stopI n3) c else false), .bool (if 4 < i then kp m4 (stopI n4) c else false)] 75]) (fun i => i ≤ 5) (fun i => 5 - i) 0 rfl rfl (by omega) (fun _ => rfl) ?_
  intro i hi x R hR
  have hi' : i = 0 ∨ i = 1 ∨ i = 2 ∨ i = 3 ∨ i = 4 ∨ i = 5 := by omega
  rcases hi' with rfl | rfl | rfl | rfl | rfl | rfl

  · have eb : IntKind.u8.wrap (1 * 2 ^ min ((0 : Nat) : Int).toNat IntKind.u8.bits) = 1 := by decide
    conv => whnf
    rw [eb]
    conv => whnf
    rw [enc5_and0]
    conv => whnf
    refine Bif.of (fun h0 => ?_) fun h0 => ?_
    · rw [h0]
      conv => whnf
      refine ACalls.code tabOk h70 Tryz.func70 Tryz.call70 ok70 ?_
      conv => whnf
      rw [s0]
      conv => whnf
      refine Bif.of (fun h1 => ?_) fun h1 => ?_
      · rw [h1]
        conv => whnf
        rw [enc5_not0]
        conv => whnf
        rw [enc5_and0]
        conv => whnf
        (simp at h0 h1; exact hR 1 _ _ rfl (by clear hR; simp [kp, h0, h1]) (by omega) (by omega))
      · rw [h1]
        conv => whnf
        rw [enc5_and0]
        conv => whnf
        (simp at h0; exact hR 1 _ _ rfl (by clear hR; simp [kp, h0, h1]) (by omega) (by omega))
    · rw [h0]
      conv => whnf
      rw [enc5_and0]
      conv => whnf
      (simp at h0 h1; exact hR 1 _ _ rfl (by clear hR; simp [kp, h0, h1]) (by omega) (by omega))
  · have eb : IntKind.u8.wrap (1 * 2 ^ min ((1 : Nat) : Int).toNat IntKind.u8.bits) = 2 := by decide
    conv => whnf
    rw [eb]
    conv => whnf
    rw [enc5_and1]
    conv => whnf
    refine Bif.of (fun h0 => ?_) fun h0 => ?_
    · rw [h0]
      conv => whnf
      refine ACalls.code tabOk h70 Tryz.func70 Tryz.call70 ok70 ?_
      conv => whnf
      rw [s1]
      conv => whnf
      refine Bif.of (fun h1 => ?_) fun h1 => ?_
      · rw [h1]
        conv => whnf
        rw [enc5_not1]
        conv => whnf
        rw [enc5_and1]
        conv => whnf
        (simp at h0 h1; exact hR 2 _ _ rfl (by clear hR; simp [kp, h0, h1]) (by omega) (by omega))
      · rw [h1]
        conv => whnf
        rw [enc5_and1]
        conv => whnf
        (simp at h0; exact hR 2 _ _ rfl (by clear hR; simp [kp, h0, h1]) (by omega) (by omega))
    · rw [h0]
      conv => whnf
      rw [enc5_and1]
      conv => whnf
      (simp at h0 h1; exact hR 2 _ _ rfl (by clear hR; simp [kp, h0, h1]) (by omega) (by omega))
  · have eb : IntKind.u8.wrap (1 * 2 ^ min ((2 : Nat) : Int).toNat IntKind.u8.bits) = 4 := by decide
    conv => whnf
    rw [eb]
    conv => whnf
    rw [enc5_and2]
    conv => whnf
    refine Bif.of (fun h0 => ?_) fun h0 => ?_
    · rw [h0]
      conv => whnf
      refine ACalls.code tabOk h70 Tryz.func70 Tryz.call70 ok70 ?_
      conv => whnf
      rw [s2]
      conv => whnf
      refine Bif.of (fun h1 => ?_) fun h1 => ?_
      · rw [h1]
        conv => whnf
        rw [enc5_not2]
        conv => whnf
        rw [enc5_and2]
        conv => whnf
        (simp at h0 h1; exact hR 3 _ _ rfl (by clear hR; simp [kp, h0, h1]) (by omega) (by omega))
      · rw [h1]
        conv => whnf
        rw [enc5_and2]
        conv => whnf
        (simp at h0; exact hR 3 _ _ rfl (by clear hR; simp [kp, h0, h1]) (by omega) (by omega))
    · rw [h0]
      conv => whnf
      rw [enc5_and2]
      conv => whnf
      (simp at h0 h1; exact hR 3 _ _ rfl (by clear hR; simp [kp, h0, h1]) (by omega) (by omega))
  · have eb : IntKind.u8.wrap (1 * 2 ^ min ((3 : Nat) : Int).toNat IntKind.u8.bits) = 8 := by decide
    conv => whnf
    rw [eb]
    conv => whnf
    rw [enc5_and3]
    conv => whnf
    refine Bif.of (fun h0 => ?_) fun h0 => ?_
    · rw [h0]
      conv => whnf
      refine ACalls.code tabOk h70 Tryz.func70 Tryz.call70 ok70 ?_
      conv => whnf
      rw [s3]
      conv => whnf
      refine Bif.of (fun h1 => ?_) fun h1 => ?_
      · rw [h1]
        conv => whnf
        rw [enc5_not3]
        conv => whnf
        rw [enc5_and3]
        conv => whnf
        (simp at h0 h1; exact hR 4 _ _ rfl (by clear hR; simp [kp, h0, h1]) (by omega) (by omega))
      · rw [h1]
        conv => whnf
        rw [enc5_and3]
        conv => whnf
        (simp at h0; exact hR 4 _ _ rfl (by clear hR; simp [kp, h0, h1]) (by omega) (by omega))
    · rw [h0]
      conv => whnf
      rw [enc5_and3]
      conv => whnf
      (simp at h0 h1; exact hR 4 _ _ rfl (by clear hR; simp [kp, h0, h1]) (by omega) (by omega))
  · have eb : IntKind.u8.wrap (1 * 2 ^ min ((4 : Nat) : Int).toNat IntKind.u8.bits) = 16 := by decide
    conv => whnf
    rw [eb]
    conv => whnf
    rw [enc5_and4]
    conv => whnf
    refine Bif.of (fun h0 => ?_) fun h0 => ?_
    · rw [h0]
      conv => whnf
      refine ACalls.code tabOk h70 Tryz.func70 Tryz.call70 ok70 ?_
      conv => whnf
      rw [s4]
      conv => whnf
      refine Bif.of (fun h1 => ?_) fun h1 => ?_
      · rw [h1]
        conv => whnf
        rw [enc5_not4]
        conv => whnf
        rw [enc5_and4]
        conv => whnf
        (simp at h0 h1; exact hR 5 _ _ rfl (by clear hR; simp [kp, h0, h1]) (by omega) (by omega))
      · rw [h1]
        conv => whnf
        rw [enc5_and4]
        conv => whnf
        (simp at h0; exact hR 5 _ _ rfl (by clear hR; simp [kp, h0, h1]) (by omega) (by omega))
    · rw [h0]
      conv => whnf
      rw [enc5_and4]
      conv => whnf
      (simp at h0 h1; exact hR 5 _ _ rfl (by clear hR; simp [kp, h0, h1]) (by omega) (by omega))
  · conv => whnf
    clear hR
    by_cases kD : c = 15
    · rw [wc]
      conv => whnf
      refine Bif.knT ?_ fun h0 => ?_
      · (simp_all; done)
      rw [h0]
      conv => whnf
      (exact ⟨by simp [MS.out, MS.acts, kp]; omega, by simp [MS.step, MS.blk, kA, kB, kC, kD, enc5_none]⟩)
    · rw [wc]
      conv => whnf
      refine Bif.knF ?_ fun h0 => ?_
      · (simp_all; omega)
      rw [h0]
      conv => whnf
      (exact ⟨by simp [MS.out, MS.acts, kp]; omega, by simp [MS.step, MS.blk, kA, kB, kC, kD, kp]⟩)

/-! Words -/
theorem or_nat (k : IntKind) (hk : k.signed = false) (a b : Nat) (ha : a < 2 ^ k.bits) (hb : b < 2 ^ k.bits) : bits .or k (a : Int) (b : Int) = ((a ||| b : Nat) : Int) := by
  show k.wrap _ = _
  rw [BitVec.ofInt_natCast, BitVec.ofInt_natCast, BitVec.toNat_or, BitVec.toNat_ofNat, BitVec.toNat_ofNat, Nat.mod_eq_of_lt ha, Nat.mod_eq_of_lt hb]
  have := Nat.or_lt_two_pow ha hb
  unfold IntKind.wrap
  rw [hk]
  simp only [Bool.false_and, Bool.false_eq_true, if_false]
  exact_mod_cast Nat.mod_eq_of_lt this
theorem or_add (k : IntKind) (hk : k.signed = false) (i : Nat) (a m : Int) (ha : 0 ≤ a ∧ a < 2 ^ i) (hm : 0 ≤ m) (hb : m * 2 ^ i < 2 ^ k.bits) (hi : i ≤ k.bits) : bits .or k a (m * 2 ^ i) = a + m * 2 ^ i := by
  obtain ⟨x, rfl⟩ : ∃ x : Nat, a = x := ⟨a.toNat, by omega⟩
  obtain ⟨y, rfl⟩ : ∃ y : Nat, m = y := ⟨m.toNat, by omega⟩
  have hx : x < 2 ^ i := by exact_mod_cast ha.2
  have hy : y * 2 ^ i < 2 ^ k.bits := by exact_mod_cast hb
  have hxk : x < 2 ^ k.bits := Nat.lt_of_lt_of_le hx (Nat.pow_le_pow_right (by decide) hi)
  have e : ((y : Int) * 2 ^ i) = ((y * 2 ^ i : Nat) : Int) := by push_cast; rfl
  rw [e, or_nat k hk x _ hxk hy, Nat.or_comm, Nat.mul_comm y, ← Nat.two_pow_add_eq_or_of_lt hx]
  push_cast; omega
theorem wrap32 {n : Int} (h : 0 ≤ n) (h2 : n ≤ 4294967295) : IntKind.u32.wrap n = n := by
  simp only [IntKind.wrap, IntKind.signed, IntKind.bits, Bool.false_and, Bool.false_eq_true, if_false]
  omega
theorem and1_32 (n : Int) : bits .and .u32 n 1 = n % 2 := and_mask .u32 n 1 (by decide)
theorem and1_8 (n : Int) : bits .and .u8 n 1 = n % 2 := and_mask .u8 n 1 (by decide)

/-! A byte, mirrored -/
@[irreducible] def revI (n : Int) : Int := Go.Lib.rev8 n
theorem rev_bits : ∀ b : Nat, b < 256 → ∀ j : Nat, j < 8 → (Go.Lib.rev8 (b : Int)).toNat / 2 ^ j % 2 = b / 2 ^ (7 - j) % 2 := by decide +kernel
theorem rev_lt : ∀ b : Nat, b < 256 → 0 ≤ Go.Lib.rev8 (b : Int) ∧ Go.Lib.rev8 (b : Int) < 256 := by decide +kernel
theorem revI_bd {b : Int} (h : 0 ≤ b ∧ b ≤ 255) : 0 ≤ revI b ∧ revI b < 256 := by
  obtain ⟨x, rfl⟩ : ∃ x : Nat, b = x := ⟨b.toNat, by omega⟩
  unfold revI; exact rev_lt x (by omega)
theorem revI_bits {b : Int} (h : 0 ≤ b ∧ b ≤ 255) (j : Nat) (hj : j < 8) : revI b / 2 ^ j % 2 = b / 2 ^ (7 - j) % 2 := by
  obtain ⟨x, rfl⟩ : ∃ x : Nat, b = x := ⟨b.toNat, by omega⟩
  have h1 := rev_bits x (by omega) j hj
  have h2 := rev_lt x (by omega)
  unfold revI
  obtain ⟨y, hy⟩ : ∃ y : Nat, Go.Lib.rev8 (x : Int) = y := ⟨(Go.Lib.rev8 (x : Int)).toNat, by omega⟩
  rw [hy] at h1 ⊢
  exact_mod_cast h1
theorem str_rev (x : Int) : strAt Go.Lib.rev8tab x = revI x := by unfold strAt revI Go.Lib.rev8; rfl

theorem reverse8 (x : Int) (h : 0 ≤ x ∧ x ≤ 255) : ACalls Tryz.prog 47 [.int .u8 x] [] fun r H => r = .int .u8 (revI x) ∧ H = [] := by
  have hs : Go.Lib.rev8tab.size = 256 := Go.Lib.rev8tab_size
  rw [← str_rev]
  refine ACalls.code tabOk h47 Tryz.func47 Tryz.call47 ok47 ?_
  conv => whnf
  refine Req.of ?_ ?_
  · show (decide (0 ≤ x) && decide (x < ((Go.Lib.rev8tab.size : Nat) : Int))) = true
    rw [hs]; simp; omega
  conv => whnf
  exact ⟨rfl, rfl⟩

/-! The field's row -/
def fldI (p0 p1 p2 : Int) : Int := p0 / 16 + revI p1 * 16 + p2 * 4096
theorem fldI_bd {p0 p1 p2 : Int} (h0 : 0 ≤ p0 ∧ p0 ≤ 255) (h1 : 0 ≤ p1 ∧ p1 ≤ 255) (h2 : 0 ≤ p2 ∧ p2 ≤ 255) : 0 ≤ fldI p0 p1 p2 ∧ fldI p0 p1 p2 < 1048576 := by
  have := revI_bd h1
  unfold fldI; omega
theorem field_row (p0 p1 p2 : Int) (h0 : 0 ≤ p0 ∧ p0 ≤ 255) (h1 : 0 ≤ p1 ∧ p1 ≤ 255) (h2 : 0 ≤ p2 ∧ p2 ≤ 255) : ACalls Tryz.prog 31 [.agg #[.int .u8 p0, .int .u8 p1, .int .u8 p2]] [] fun r H => r = .int .u32 (fldI p0 p1 p2) ∧ H = [] := by
  have hr := revI_bd h1
  have e0 : IntKind.u32.wrap (p0.fdiv (2 ^ min (4 : Int).toNat IntKind.u8.bits)) = p0 / 16 := by
    rw [show (2 : Int) ^ min (4 : Int).toNat IntKind.u8.bits = 16 from rfl, Int.fdiv_eq_ediv_of_nonneg _ (by decide), wrap32 (by omega) (by omega)]
  have e1 : IntKind.u32.wrap (IntKind.u32.wrap (revI p1) * 2 ^ min (4 : Int).toNat IntKind.u32.bits) = revI p1 * 2 ^ 4 := by
    rw [show (2 : Int) ^ min (4 : Int).toNat IntKind.u32.bits = 2 ^ 4 from rfl, wrap32 (n := revI p1) (by omega) (by omega), wrap32 (by omega) (by omega)]
  have e2 : IntKind.u32.wrap (IntKind.u32.wrap p2 * 2 ^ min (12 : Int).toNat IntKind.u32.bits) = p2 * 2 ^ 12 := by
    rw [show (2 : Int) ^ min (12 : Int).toNat IntKind.u32.bits = 2 ^ 12 from rfl, wrap32 (n := p2) (by omega) (by omega), wrap32 (by omega) (by omega)]
  have e3 := or_add .u32 rfl 4 (p0 / 16) (revI p1) (by omega) (by omega) (by show revI p1 * 2 ^ 4 < 4294967296; omega) (by decide)
  have e4 := or_add .u32 rfl 12 (p0 / 16 + revI p1 * 2 ^ 4) p2 (by omega) (by omega) (by show p2 * 2 ^ 12 < 4294967296; omega) (by decide)
  refine ACalls.code tabOk h31 Tryz.func31 Tryz.call31 ok31 ?_
  conv => whnf
  refine ACalls.useE (reverse8 _ ?_) [] rfl (by (conv => whnf); try rfl) (by (conv => whnf); try rfl) ?_
  · omega
  conv => whnf
  refine ⟨rfl, ?_⟩
  conv => whnf
  refine ⟨rfl, ?_⟩
  conv => whnf
  (rw [e0, e1, e2, e3, e4]; exact ⟨rfl, rfl⟩)

def bitN (w : Int) (n : Nat) : Bool := decide (w / 2 ^ n % 2 = 1)
def litN (c x : Int) : Nat := (if x < 80 then x / 4 else if c % 2 = 1 then 19 - (x - 80) / 4 else (x - 80) / 4).toNat
def litI (p0 p1 p2 c x : Int) : Bool := if x < 0 ∨ 160 ≤ x then false else bitN (fldI p0 p1 p2) (litN c x)
theorem field_lit_out (p0 p1 p2 c x : Int) (hx : x < 0 ∨ 160 ≤ x) : ACalls Tryz.prog 10 [.agg #[.int .u8 p0, .int .u8 p1, .int .u8 p2], .int .u8 c, .int .i64 x] [] fun r H => r = .bool (litI p0 p1 p2 c x) ∧ H = [] := by
  have e : litI p0 p1 p2 c x = false := by unfold litI; rw [if_pos hx]
  rw [e]
  rcases hx with hx | hx
  · refine ACalls.code tabOk h10 Tryz.func10 Tryz.call10 ok10 ?_
    conv => whnf
    refine Bif.knT ?_ fun h0 => ?_
    · (simp_all; done)
    rw [h0]
    conv => whnf
    exact ⟨rfl, rfl⟩
  · refine ACalls.code tabOk h10 Tryz.func10 Tryz.call10 ok10 ?_
    conv => whnf
    refine Bif.knF ?_ fun h0 => ?_
    · (simp_all; omega)
    rw [h0]
    conv => whnf
    refine Bif.knT ?_ fun h1 => ?_
    · (simp_all; done)
    rw [h1]
    conv => whnf
    exact ⟨rfl, rfl⟩
theorem lit_end {p0 p1 p2 : Int} (h0 : 0 ≤ p0 ∧ p0 ≤ 255) (h1 : 0 ≤ p1 ∧ p1 ≤ 255) (h2 : 0 ≤ p2 ∧ p2 ≤ 255) (n : Int) (m : Nat) (hn : n = m) (hm : m ≤ 19) :
    (bits .and .u32 ((fldI p0 p1 p2).fdiv (2 ^ min n.toNat IntKind.u32.bits)) 1 != 0) = bitN (fldI p0 p1 p2) m := by
  subst hn
  have hb := fldI_bd h0 h1 h2
  rw [show min ((m : Int)).toNat IntKind.u32.bits = m by show min m 32 = m; omega, Int.fdiv_eq_ediv_of_nonneg _ (Int.le_of_lt (Int.pow_pos (by decide))), and1_32]
  unfold bitN
  generalize fldI p0 p1 p2 / 2 ^ m = q
  by_cases h : q % 2 = 1
  · simp [h]
  · have : q % 2 = 0 := by omega
    simp [this]

theorem field_lit_0 (p0 p1 p2 c x : Int) (h0 : 0 ≤ p0 ∧ p0 ≤ 255) (h1 : 0 ≤ p1 ∧ p1 ≤ 255) (h2 : 0 ≤ p2 ∧ p2 ≤ 255) (hx : 0 ≤ x ∧ x < 160) (h : x < 80) : ACalls Tryz.prog 10 [.agg #[.int .u8 p0, .int .u8 p1, .int .u8 p2], .int .u8 c, .int .i64 x] [] fun r H => r = .bool (litI p0 p1 p2 c x) ∧ H = [] := by
  have e : litI p0 p1 p2 c x = bitN (fldI p0 p1 p2) (litN c x) := by unfold litI; rw [if_neg (by omega)]
  have ed : IntKind.i64.wrap ((x.tmod 80).tdiv 4) = x % 80 / 4 := by rw [Int.tmod_eq_emod_of_nonneg hx.1, Int.tdiv_eq_ediv_of_nonneg (by omega), wrap64 (by omega) (by omega)]
  have en : IntKind.i64.wrap (19 - x % 80 / 4) = 19 - x % 80 / 4 := wrap64 (by omega) (by omega)
  have ec : bits .and .u8 c 1 = c % 2 := and1_8 c
  have hl1 := fun n => lit_end h0 h1 h2 n (litN c x)
  rw [e]
  refine ACalls.code tabOk h10 Tryz.func10 Tryz.call10 ok10 ?_
  conv => whnf
  refine Bif.knF ?_ fun h0 => ?_
  · (simp; omega)
  rw [h0]
  conv => whnf
  refine Bif.knF ?_ fun h1 => ?_
  · (simp; omega)
  rw [h1]
  conv => whnf
  rw [ed]
  conv => whnf
  refine Bif.knF ?_ fun h2 => ?_
  · (simp; omega)
  rw [h2]
  conv => whnf
  refine ACalls.useE (field_row _ _ _ ?_ ?_ ?_) [] rfl (by (conv => whnf); try rfl) (by (conv => whnf); try rfl) ?_
  · omega
  · omega
  · omega
  conv => whnf
  refine Req.of ?_ ?_
  · (simp; omega)
  conv => whnf
  (rw [hl1 _ (by unfold litN; (repeat split) <;> omega) (by unfold litN; (repeat split) <;> omega)]; exact ⟨rfl, rfl⟩)
theorem field_lit_1 (p0 p1 p2 c x : Int) (h0 : 0 ≤ p0 ∧ p0 ≤ 255) (h1 : 0 ≤ p1 ∧ p1 ≤ 255) (h2 : 0 ≤ p2 ∧ p2 ≤ 255) (hx : 0 ≤ x ∧ x < 160) (h : 80 ≤ x ∧ c % 2 = 1) : ACalls Tryz.prog 10 [.agg #[.int .u8 p0, .int .u8 p1, .int .u8 p2], .int .u8 c, .int .i64 x] [] fun r H => r = .bool (litI p0 p1 p2 c x) ∧ H = [] := by
  have e : litI p0 p1 p2 c x = bitN (fldI p0 p1 p2) (litN c x) := by unfold litI; rw [if_neg (by omega)]
  have ed : IntKind.i64.wrap ((x.tmod 80).tdiv 4) = x % 80 / 4 := by rw [Int.tmod_eq_emod_of_nonneg hx.1, Int.tdiv_eq_ediv_of_nonneg (by omega), wrap64 (by omega) (by omega)]
  have en : IntKind.i64.wrap (19 - x % 80 / 4) = 19 - x % 80 / 4 := wrap64 (by omega) (by omega)
  have ec : bits .and .u8 c 1 = c % 2 := and1_8 c
  have hl1 := fun n => lit_end h0 h1 h2 n (litN c x)
  rw [e]
  refine ACalls.code tabOk h10 Tryz.func10 Tryz.call10 ok10 ?_
  conv => whnf
  refine Bif.knF ?_ fun h0 => ?_
  · (simp; omega)
  rw [h0]
  conv => whnf
  refine Bif.knF ?_ fun h1 => ?_
  · (simp; omega)
  rw [h1]
  conv => whnf
  rw [ed]
  conv => whnf
  refine Bif.knT ?_ fun h2 => ?_
  · (simp; omega)
  rw [h2]
  conv => whnf
  rw [ec]
  conv => whnf
  refine Bif.knT ?_ fun h3 => ?_
  · (simp; omega)
  rw [h3]
  conv => whnf
  refine ACalls.useE (field_row _ _ _ ?_ ?_ ?_) [] rfl (by (conv => whnf); try rfl) (by (conv => whnf); try rfl) ?_
  · omega
  · omega
  · omega
  conv => whnf
  rw [en]
  conv => whnf
  refine Req.of ?_ ?_
  · (simp; omega)
  conv => whnf
  (rw [hl1 _ (by unfold litN; (repeat split) <;> omega) (by unfold litN; (repeat split) <;> omega)]; exact ⟨rfl, rfl⟩)
theorem field_lit_2 (p0 p1 p2 c x : Int) (h0 : 0 ≤ p0 ∧ p0 ≤ 255) (h1 : 0 ≤ p1 ∧ p1 ≤ 255) (h2 : 0 ≤ p2 ∧ p2 ≤ 255) (hx : 0 ≤ x ∧ x < 160) (h : 80 ≤ x ∧ c % 2 = 0) : ACalls Tryz.prog 10 [.agg #[.int .u8 p0, .int .u8 p1, .int .u8 p2], .int .u8 c, .int .i64 x] [] fun r H => r = .bool (litI p0 p1 p2 c x) ∧ H = [] := by
  have e : litI p0 p1 p2 c x = bitN (fldI p0 p1 p2) (litN c x) := by unfold litI; rw [if_neg (by omega)]
  have ed : IntKind.i64.wrap ((x.tmod 80).tdiv 4) = x % 80 / 4 := by rw [Int.tmod_eq_emod_of_nonneg hx.1, Int.tdiv_eq_ediv_of_nonneg (by omega), wrap64 (by omega) (by omega)]
  have en : IntKind.i64.wrap (19 - x % 80 / 4) = 19 - x % 80 / 4 := wrap64 (by omega) (by omega)
  have ec : bits .and .u8 c 1 = c % 2 := and1_8 c
  have hl1 := fun n => lit_end h0 h1 h2 n (litN c x)
  rw [e]
  refine ACalls.code tabOk h10 Tryz.func10 Tryz.call10 ok10 ?_
  conv => whnf
  refine Bif.knF ?_ fun h0 => ?_
  · (simp; omega)
  rw [h0]
  conv => whnf
  refine Bif.knF ?_ fun h1 => ?_
  · (simp; omega)
  rw [h1]
  conv => whnf
  rw [ed]
  conv => whnf
  refine Bif.knT ?_ fun h2 => ?_
  · (simp; omega)
  rw [h2]
  conv => whnf
  rw [ec]
  conv => whnf
  refine Bif.knF ?_ fun h3 => ?_
  · (simp; omega)
  rw [h3]
  conv => whnf
  refine ACalls.useE (field_row _ _ _ ?_ ?_ ?_) [] rfl (by (conv => whnf); try rfl) (by (conv => whnf); try rfl) ?_
  · omega
  · omega
  · omega
  conv => whnf
  refine Req.of ?_ ?_
  · (simp; omega)
  conv => whnf
  (rw [hl1 _ (by unfold litN; (repeat split) <;> omega) (by unfold litN; (repeat split) <;> omega)]; exact ⟨rfl, rfl⟩)
theorem field_lit (p0 p1 p2 c x : Int) (h0 : 0 ≤ p0 ∧ p0 ≤ 255) (h1 : 0 ≤ p1 ∧ p1 ≤ 255) (h2 : 0 ≤ p2 ∧ p2 ≤ 255) : ACalls Tryz.prog 10 [.agg #[.int .u8 p0, .int .u8 p1, .int .u8 p2], .int .u8 c, .int .i64 x] [] fun r H => r = .bool (litI p0 p1 p2 c x) ∧ H = [] := by
  by_cases hx : x < 0 ∨ 160 ≤ x
  · exact field_lit_out p0 p1 p2 c x hx
  · by_cases h : x < 80
    · exact field_lit_0 p0 p1 p2 c x h0 h1 h2 (by omega) h
    · by_cases hc : c % 2 = 1
      · exact field_lit_1 p0 p1 p2 c x h0 h1 h2 (by omega) (by omega)
      · exact field_lit_2 p0 p1 p2 c x h0 h1 h2 (by omega) (by omega)
def seenB (d0 d1 d2 d3 d4 d5 a s xl : Bool) : Int :=
  if a && (d4 || d5) then 2 else if d0 || d2 then 0 else if d1 || d3 then 1 else if d4 then 2 else if d5 then (if s && !a then (if xl then 0 else 1) else 2) else 3
def fA (c : Int) : Bool := decide (c / 4 % 2 = 1)
def fS (c : Int) : Bool := decide (c / 2 % 2 = 1)
theorem and4_8 : ∀ c : Nat, c < 256 → (bits .and .u8 (c : Int) 4 != 0) = fA c := by decide +kernel
theorem and6_8 : ∀ c : Nat, c < 256 → (bits .and .u8 (c : Int) 6 == 2) = (fS c && !fA c) := by decide +kernel
theorem field_seen (d0 d1 d2 d3 d4 d5 : Bool) (c x : Int) (hc : 0 ≤ c ∧ c ≤ 255) : ACalls Tryz.prog 11 [.agg #[.bool d0, .bool d1, .bool d2, .bool d3, .bool d4, .bool d5], .int .u8 c, .int .i64 x] [] fun r H => r = .int .i64 (seenB d0 d1 d2 d3 d4 d5 (fA c) (fS c) (decide (x < 80))) ∧ H = [] := by
  obtain ⟨j, rfl⟩ : ∃ j : Nat, c = j := ⟨c.toNat, by omega⟩
  have ea := and4_8 j (by omega)
  have es := and6_8 j (by omega)
  refine ACalls.code tabOk h11 Tryz.func11 Tryz.call11 ok11 ?_
  conv => whnf
  generalize fA (j : Int) = A at *
  generalize fS (j : Int) = S at *
  generalize hX : decide (x < 80) = X
  rw [ea]
  conv => whnf
  refine Bif.of (fun h0 => ?_) fun h0 => ?_
  · rw [h0]
    conv => whnf
    refine ACalls.code tabOk h32 Tryz.func32 Tryz.call32 ok32 ?_
    conv => whnf
    refine Bif.of (fun h1 => ?_) fun h1 => ?_
    · rw [h1]
      conv => whnf
      exact ⟨rfl, rfl⟩
    · rw [h1]
      conv => whnf
      refine Bif.of (fun h2 => ?_) fun h2 => ?_
      · rw [h2]
        conv => whnf
        exact ⟨rfl, rfl⟩
      · rw [h2]
        conv => whnf
        refine ACalls.code tabOk h32 Tryz.func32 Tryz.call32 ok32 ?_
        conv => whnf
        refine Bif.of (fun h3 => ?_) fun h3 => ?_
        · rw [h3]
          conv => whnf
          exact ⟨rfl, rfl⟩
        · rw [h3]
          conv => whnf
          refine Bif.of (fun h4 => ?_) fun h4 => ?_
          · rw [h4]
            conv => whnf
            exact ⟨rfl, rfl⟩
          · rw [h4]
            conv => whnf
            refine ACalls.code tabOk h32 Tryz.func32 Tryz.call32 ok32 ?_
            conv => whnf
            refine Bif.of (fun h5 => ?_) fun h5 => ?_
            · rw [h5]
              conv => whnf
              exact ⟨rfl, rfl⟩
            · rw [h5]
              conv => whnf
              refine Bif.of (fun h6 => ?_) fun h6 => ?_
              · rw [h6]
                conv => whnf
                exact ⟨rfl, rfl⟩
              · rw [h6]
                conv => whnf
                refine ACalls.code tabOk h32 Tryz.func32 Tryz.call32 ok32 ?_
                conv => whnf
                exact ⟨rfl, rfl⟩
  · rw [h0]
    conv => whnf
    refine ACalls.code tabOk h32 Tryz.func32 Tryz.call32 ok32 ?_
    conv => whnf
    refine Bif.of (fun h7 => ?_) fun h7 => ?_
    · rw [h7]
      conv => whnf
      exact ⟨rfl, rfl⟩
    · rw [h7]
      conv => whnf
      refine Bif.of (fun h8 => ?_) fun h8 => ?_
      · rw [h8]
        conv => whnf
        exact ⟨rfl, rfl⟩
      · rw [h8]
        conv => whnf
        refine ACalls.code tabOk h32 Tryz.func32 Tryz.call32 ok32 ?_
        conv => whnf
        refine Bif.of (fun h9 => ?_) fun h9 => ?_
        · rw [h9]
          conv => whnf
          exact ⟨rfl, rfl⟩
        · rw [h9]
          conv => whnf
          refine Bif.of (fun h10 => ?_) fun h10 => ?_
          · rw [h10]
            conv => whnf
            exact ⟨rfl, rfl⟩
          · rw [h10]
            conv => whnf
            refine ACalls.code tabOk h32 Tryz.func32 Tryz.call32 ok32 ?_
            conv => whnf
            refine Bif.of (fun h11 => ?_) fun h11 => ?_
            · rw [h11]
              conv => whnf
              refine ACalls.code tabOk h33 Tryz.func33 Tryz.call33 ok33 ?_
              conv => whnf
              rw [es]
              conv => whnf
              refine Bif.of (fun h12 => ?_) fun h12 => ?_
              · rw [h12]
                conv => whnf
                exact ⟨rfl, rfl⟩
              · rw [h12]
                conv => whnf
                exact ⟨rfl, rfl⟩
            · rw [h11]
              conv => whnf
              refine Bif.of (fun h13 => ?_) fun h13 => ?_
              · rw [h13]
                conv => whnf
                refine ACalls.code tabOk h33 Tryz.func33 Tryz.call33 ok33 ?_
                conv => whnf
                rw [es]
                conv => whnf
                refine Bif.of (fun h14 => ?_) fun h14 => ?_
                · rw [h14]
                  conv => whnf
                  rw [hX]
                  conv => whnf
                  refine Bif.of (fun h15 => ?_) fun h15 => ?_
                  · rw [h15]
                    conv => whnf
                    (refine ⟨?_, rfl⟩; simp_all [seenB]; done)
                  · rw [h15]
                    conv => whnf
                    (refine ⟨?_, rfl⟩; simp_all [seenB]; done)
                · rw [h14]
                  conv => whnf
                  (refine ⟨?_, rfl⟩; simp_all [seenB]; done)
              · rw [h13]
                conv => whnf
                exact ⟨rfl, rfl⟩
def prD (d0 d1 d2 d3 d4 d5 : Bool) : Nat → Bool
  | 0 => d2 && d1 | 1 => d2 && d0 | 2 => d3 && d0 | 3 => d3 && d1 | 4 => d0 && d5 | 5 => d0 && d4 | 6 => d1 && d5 | 7 => d1 && d4 | 8 => d2 && d5 | 9 => d2 && d4 | 10 => d3 && d5 | 11 => d3 && d4 | 12 => d4 && d5 | 13 => d0 && d1 | 14 => d2 && d3
  | _ => false
def meetN (d0 d1 d2 d3 d4 d5 : Bool) : Nat → Int
  | 0 => 0
  | n + 1 => meetN d0 d1 d2 d3 d4 d5 n + (if prD d0 d1 d2 d3 d4 d5 n then 2 ^ n else 0)
theorem meetN_bd (d0 d1 d2 d3 d4 d5 : Bool) (n : Nat) : 0 ≤ meetN d0 d1 d2 d3 d4 d5 n ∧ meetN d0 d1 d2 d3 d4 d5 n < 2 ^ n := by
  induction n with
  | zero => exact ⟨Int.le_refl _, show (0 : Int) < 1 by decide⟩
  | succ n ih =>
    have hp : (0 : Int) < 2 ^ n := Int.pow_pos (by decide)
    have e : (2 : Int) ^ (n + 1) = 2 ^ n * 2 := Int.pow_succ 2 n
    unfold meetN
    split <;> omega
theorem field_meet (d0 d1 d2 d3 d4 d5 : Bool) : ACalls Tryz.prog 74 [.agg #[.bool d0, .bool d1, .bool d2, .bool d3, .bool d4, .bool d5]] [] fun r H => r = .int .u16 (meetN d0 d1 d2 d3 d4 d5 15) ∧ H = [] := by
  refine ACalls.code tabOk h74 Tryz.func74 Tryz.call74 ok74 ?_
  conv => whnf
  refine ACalls.code tabOk h93 Tryz.func93 Tryz.call93 ok93 ?_
  conv => whnf
  refine ALoop.fd (σ := Nat × Int) (fun q => [.chan none, .pointer (some ⟨0, 0, none⟩), .int .u16 0, .int .u16 q.2, .chan none, .chan none, .agg #[.int .i64 2, .int .i64 1, .int .i64 2, .int .i64 0, .int .i64 3, .int .i64 0, .int .i64 3, .int .i64 1, .int .i64 0, .int .i64 5, .int .i64 0, .int .i64 4, .int .i64 1, .int .i64 5, .int .i64 1, .int .i64 4, .int .i64 2, .int .i64 5, .int .i64 2, .int .i64 4, .int .i64 3, .int .i64 5, .int .i64 3, .int .i64 4, .int .i64 4, .int .i64 5, .int .i64 0, .int .i64 1, .int .i64 2, .int .i64 3], .int .i64 q.1, .chan none, .chan none, .chan none, .chan none, .chan none, .chan none, .chan none, .chan none, .chan none, .chan none, .chan none, .chan none, .chan none, .chan none, .chan none, .chan none, .chan none, .chan none, .chan none]) (fun _ => [.cells [.bool d0, .bool d1, .bool d2, .bool d3, .bool d4, .bool d5] 32]) (fun q => q.1 ≤ 15 ∧ q.2 = meetN d0 d1 d2 d3 d4 d5 q.1) (fun q => 15 - q.1) (0, 0) [] rfl rfl ⟨Nat.zero_le _, rfl⟩ (fun _ => ⟨rfl, rfl, rfl, rfl⟩) ?_
  rintro ⟨n, o⟩ ⟨hn, ho⟩ R hR
  dsimp only at hn ho
  have hb := meetN_bd d0 d1 d2 d3 d4 d5 n
  have hn' : n = 0 ∨ n = 1 ∨ n = 2 ∨ n = 3 ∨ n = 4 ∨ n = 5 ∨ n = 6 ∨ n = 7 ∨ n = 8 ∨ n = 9 ∨ n = 10 ∨ n = 11 ∨ n = 12 ∨ n = 13 ∨ n = 14 ∨ n = 15 := by omega
  rcases hn' with rfl | rfl | rfl | rfl | rfl | rfl | rfl | rfl | rfl | rfl | rfl | rfl | rfl | rfl | rfl | rfl

  · have eo := or_add .u16 rfl 0 o 1 (by rw [ho]; exact hb) (by decide) (by decide) (by decide)
    have ew : IntKind.u16.wrap (1 * 2 ^ min ((0 : Nat) : Int).toNat IntKind.u16.bits) = 1 * 2 ^ 0 := by decide
    rw [← ew] at eo
    conv => whnf
    refine Bif.of (fun h0 => ?_) fun h0 => ?_
    · conv => whnf
      refine Bif.knT ?_ fun h1 => ?_
      · with_reducible assumption
      conv => whnf
      refine Bif.knT ?_ fun h2 => ?_
      · with_reducible assumption
      conv => whnf
      refine Bif.knT ?_ fun h3 => ?_
      · with_reducible assumption
      conv => whnf
      refine Bif.knT ?_ fun h4 => ?_
      · with_reducible assumption
      conv => whnf
      refine Bif.of (fun h5 => ?_) fun h5 => ?_
      · conv => whnf
        (exact hR (1, bits .or .u16 o (IntKind.u16.wrap (1 * 2 ^ min ((0 : Nat) : Int).toNat IntKind.u16.bits))) _ _ _ rfl rfl ⟨(by show 1 ≤ 15; decide), (by show bits .or .u16 o _ = meetN d0 d1 d2 d3 d4 d5 (0 + 1); rw [eo, ew, ho, Int.one_mul]; conv => (rhs; unfold meetN); rw [if_pos (by simp [prD, h0, h5])])⟩ (by show 15 - 1 < 15 - 0; decide))
      · conv => whnf
        (exact hR (1, o) _ _ _ rfl rfl ⟨(by show 1 ≤ 15; decide), (by show o = meetN d0 d1 d2 d3 d4 d5 (0 + 1); rw [ho]; conv => (rhs; unfold meetN); rw [if_neg (by simp [prD, h5]), Int.add_zero])⟩ (by show 15 - 1 < 15 - 0; decide))
    · conv => whnf
      refine Bif.knF ?_ fun h6 => ?_
      · with_reducible assumption
      conv => whnf
      refine Bif.knF ?_ fun h7 => ?_
      · with_reducible assumption
      conv => whnf
      refine Bif.knF ?_ fun h8 => ?_
      · with_reducible assumption
      conv => whnf
      refine Bif.knF ?_ fun h9 => ?_
      · with_reducible assumption
      conv => whnf
      (exact hR (1, o) _ _ _ rfl rfl ⟨(by show 1 ≤ 15; decide), (by show o = meetN d0 d1 d2 d3 d4 d5 (0 + 1); rw [ho]; conv => (rhs; unfold meetN); rw [if_neg (by simp [prD, h0]), Int.add_zero])⟩ (by show 15 - 1 < 15 - 0; decide))
  · have eo := or_add .u16 rfl 1 o 1 (by rw [ho]; exact hb) (by decide) (by decide) (by decide)
    have ew : IntKind.u16.wrap (1 * 2 ^ min ((1 : Nat) : Int).toNat IntKind.u16.bits) = 1 * 2 ^ 1 := by decide
    rw [← ew] at eo
    conv => whnf
    refine Bif.of (fun h0 => ?_) fun h0 => ?_
    · conv => whnf
      refine Bif.knT ?_ fun h1 => ?_
      · with_reducible assumption
      conv => whnf
      refine Bif.knT ?_ fun h2 => ?_
      · with_reducible assumption
      conv => whnf
      refine Bif.knT ?_ fun h3 => ?_
      · with_reducible assumption
      conv => whnf
      refine Bif.knT ?_ fun h4 => ?_
      · with_reducible assumption
      conv => whnf
      refine Bif.of (fun h5 => ?_) fun h5 => ?_
      · conv => whnf
        (exact hR (2, bits .or .u16 o (IntKind.u16.wrap (1 * 2 ^ min ((1 : Nat) : Int).toNat IntKind.u16.bits))) _ _ _ rfl rfl ⟨(by show 2 ≤ 15; decide), (by show bits .or .u16 o _ = meetN d0 d1 d2 d3 d4 d5 (1 + 1); rw [eo, ew, ho, Int.one_mul]; conv => (rhs; unfold meetN); rw [if_pos (by simp [prD, h0, h5])])⟩ (by show 15 - 2 < 15 - 1; decide))
      · conv => whnf
        (exact hR (2, o) _ _ _ rfl rfl ⟨(by show 2 ≤ 15; decide), (by show o = meetN d0 d1 d2 d3 d4 d5 (1 + 1); rw [ho]; conv => (rhs; unfold meetN); rw [if_neg (by simp [prD, h5]), Int.add_zero])⟩ (by show 15 - 2 < 15 - 1; decide))
    · conv => whnf
      refine Bif.knF ?_ fun h6 => ?_
      · with_reducible assumption
      conv => whnf
      refine Bif.knF ?_ fun h7 => ?_
      · with_reducible assumption
      conv => whnf
      refine Bif.knF ?_ fun h8 => ?_
      · with_reducible assumption
      conv => whnf
      refine Bif.knF ?_ fun h9 => ?_
      · with_reducible assumption
      conv => whnf
      (exact hR (2, o) _ _ _ rfl rfl ⟨(by show 2 ≤ 15; decide), (by show o = meetN d0 d1 d2 d3 d4 d5 (1 + 1); rw [ho]; conv => (rhs; unfold meetN); rw [if_neg (by simp [prD, h0]), Int.add_zero])⟩ (by show 15 - 2 < 15 - 1; decide))
  · have eo := or_add .u16 rfl 2 o 1 (by rw [ho]; exact hb) (by decide) (by decide) (by decide)
    have ew : IntKind.u16.wrap (1 * 2 ^ min ((2 : Nat) : Int).toNat IntKind.u16.bits) = 1 * 2 ^ 2 := by decide
    rw [← ew] at eo
    conv => whnf
    refine Bif.of (fun h0 => ?_) fun h0 => ?_
    · conv => whnf
      refine Bif.knT ?_ fun h1 => ?_
      · with_reducible assumption
      conv => whnf
      refine Bif.knT ?_ fun h2 => ?_
      · with_reducible assumption
      conv => whnf
      refine Bif.knT ?_ fun h3 => ?_
      · with_reducible assumption
      conv => whnf
      refine Bif.knT ?_ fun h4 => ?_
      · with_reducible assumption
      conv => whnf
      refine Bif.of (fun h5 => ?_) fun h5 => ?_
      · conv => whnf
        (exact hR (3, bits .or .u16 o (IntKind.u16.wrap (1 * 2 ^ min ((2 : Nat) : Int).toNat IntKind.u16.bits))) _ _ _ rfl rfl ⟨(by show 3 ≤ 15; decide), (by show bits .or .u16 o _ = meetN d0 d1 d2 d3 d4 d5 (2 + 1); rw [eo, ew, ho, Int.one_mul]; conv => (rhs; unfold meetN); rw [if_pos (by simp [prD, h0, h5])])⟩ (by show 15 - 3 < 15 - 2; decide))
      · conv => whnf
        (exact hR (3, o) _ _ _ rfl rfl ⟨(by show 3 ≤ 15; decide), (by show o = meetN d0 d1 d2 d3 d4 d5 (2 + 1); rw [ho]; conv => (rhs; unfold meetN); rw [if_neg (by simp [prD, h5]), Int.add_zero])⟩ (by show 15 - 3 < 15 - 2; decide))
    · conv => whnf
      refine Bif.knF ?_ fun h6 => ?_
      · with_reducible assumption
      conv => whnf
      refine Bif.knF ?_ fun h7 => ?_
      · with_reducible assumption
      conv => whnf
      refine Bif.knF ?_ fun h8 => ?_
      · with_reducible assumption
      conv => whnf
      refine Bif.knF ?_ fun h9 => ?_
      · with_reducible assumption
      conv => whnf
      (exact hR (3, o) _ _ _ rfl rfl ⟨(by show 3 ≤ 15; decide), (by show o = meetN d0 d1 d2 d3 d4 d5 (2 + 1); rw [ho]; conv => (rhs; unfold meetN); rw [if_neg (by simp [prD, h0]), Int.add_zero])⟩ (by show 15 - 3 < 15 - 2; decide))
  · have eo := or_add .u16 rfl 3 o 1 (by rw [ho]; exact hb) (by decide) (by decide) (by decide)
    have ew : IntKind.u16.wrap (1 * 2 ^ min ((3 : Nat) : Int).toNat IntKind.u16.bits) = 1 * 2 ^ 3 := by decide
    rw [← ew] at eo
    conv => whnf
    refine Bif.of (fun h0 => ?_) fun h0 => ?_
    · conv => whnf
      refine Bif.knT ?_ fun h1 => ?_
      · with_reducible assumption
      conv => whnf
      refine Bif.knT ?_ fun h2 => ?_
      · with_reducible assumption
      conv => whnf
      refine Bif.knT ?_ fun h3 => ?_
      · with_reducible assumption
      conv => whnf
      refine Bif.knT ?_ fun h4 => ?_
      · with_reducible assumption
      conv => whnf
      refine Bif.of (fun h5 => ?_) fun h5 => ?_
      · conv => whnf
        (exact hR (4, bits .or .u16 o (IntKind.u16.wrap (1 * 2 ^ min ((3 : Nat) : Int).toNat IntKind.u16.bits))) _ _ _ rfl rfl ⟨(by show 4 ≤ 15; decide), (by show bits .or .u16 o _ = meetN d0 d1 d2 d3 d4 d5 (3 + 1); rw [eo, ew, ho, Int.one_mul]; conv => (rhs; unfold meetN); rw [if_pos (by simp [prD, h0, h5])])⟩ (by show 15 - 4 < 15 - 3; decide))
      · conv => whnf
        (exact hR (4, o) _ _ _ rfl rfl ⟨(by show 4 ≤ 15; decide), (by show o = meetN d0 d1 d2 d3 d4 d5 (3 + 1); rw [ho]; conv => (rhs; unfold meetN); rw [if_neg (by simp [prD, h5]), Int.add_zero])⟩ (by show 15 - 4 < 15 - 3; decide))
    · conv => whnf
      refine Bif.knF ?_ fun h6 => ?_
      · with_reducible assumption
      conv => whnf
      refine Bif.knF ?_ fun h7 => ?_
      · with_reducible assumption
      conv => whnf
      refine Bif.knF ?_ fun h8 => ?_
      · with_reducible assumption
      conv => whnf
      refine Bif.knF ?_ fun h9 => ?_
      · with_reducible assumption
      conv => whnf
      (exact hR (4, o) _ _ _ rfl rfl ⟨(by show 4 ≤ 15; decide), (by show o = meetN d0 d1 d2 d3 d4 d5 (3 + 1); rw [ho]; conv => (rhs; unfold meetN); rw [if_neg (by simp [prD, h0]), Int.add_zero])⟩ (by show 15 - 4 < 15 - 3; decide))
  · have eo := or_add .u16 rfl 4 o 1 (by rw [ho]; exact hb) (by decide) (by decide) (by decide)
    have ew : IntKind.u16.wrap (1 * 2 ^ min ((4 : Nat) : Int).toNat IntKind.u16.bits) = 1 * 2 ^ 4 := by decide
    rw [← ew] at eo
    conv => whnf
    refine Bif.of (fun h0 => ?_) fun h0 => ?_
    · conv => whnf
      refine Bif.knT ?_ fun h1 => ?_
      · with_reducible assumption
      conv => whnf
      refine Bif.knT ?_ fun h2 => ?_
      · with_reducible assumption
      conv => whnf
      refine Bif.knT ?_ fun h3 => ?_
      · with_reducible assumption
      conv => whnf
      refine Bif.knT ?_ fun h4 => ?_
      · with_reducible assumption
      conv => whnf
      refine Bif.of (fun h5 => ?_) fun h5 => ?_
      · conv => whnf
        (exact hR (5, bits .or .u16 o (IntKind.u16.wrap (1 * 2 ^ min ((4 : Nat) : Int).toNat IntKind.u16.bits))) _ _ _ rfl rfl ⟨(by show 5 ≤ 15; decide), (by show bits .or .u16 o _ = meetN d0 d1 d2 d3 d4 d5 (4 + 1); rw [eo, ew, ho, Int.one_mul]; conv => (rhs; unfold meetN); rw [if_pos (by simp [prD, h0, h5])])⟩ (by show 15 - 5 < 15 - 4; decide))
      · conv => whnf
        (exact hR (5, o) _ _ _ rfl rfl ⟨(by show 5 ≤ 15; decide), (by show o = meetN d0 d1 d2 d3 d4 d5 (4 + 1); rw [ho]; conv => (rhs; unfold meetN); rw [if_neg (by simp [prD, h5]), Int.add_zero])⟩ (by show 15 - 5 < 15 - 4; decide))
    · conv => whnf
      refine Bif.knF ?_ fun h6 => ?_
      · with_reducible assumption
      conv => whnf
      refine Bif.knF ?_ fun h7 => ?_
      · with_reducible assumption
      conv => whnf
      refine Bif.knF ?_ fun h8 => ?_
      · with_reducible assumption
      conv => whnf
      refine Bif.knF ?_ fun h9 => ?_
      · with_reducible assumption
      conv => whnf
      (exact hR (5, o) _ _ _ rfl rfl ⟨(by show 5 ≤ 15; decide), (by show o = meetN d0 d1 d2 d3 d4 d5 (4 + 1); rw [ho]; conv => (rhs; unfold meetN); rw [if_neg (by simp [prD, h0]), Int.add_zero])⟩ (by show 15 - 5 < 15 - 4; decide))
  · have eo := or_add .u16 rfl 5 o 1 (by rw [ho]; exact hb) (by decide) (by decide) (by decide)
    have ew : IntKind.u16.wrap (1 * 2 ^ min ((5 : Nat) : Int).toNat IntKind.u16.bits) = 1 * 2 ^ 5 := by decide
    rw [← ew] at eo
    conv => whnf
    refine Bif.of (fun h0 => ?_) fun h0 => ?_
    · conv => whnf
      refine Bif.knT ?_ fun h1 => ?_
      · with_reducible assumption
      conv => whnf
      refine Bif.knT ?_ fun h2 => ?_
      · with_reducible assumption
      conv => whnf
      refine Bif.knT ?_ fun h3 => ?_
      · with_reducible assumption
      conv => whnf
      refine Bif.knT ?_ fun h4 => ?_
      · with_reducible assumption
      conv => whnf
      refine Bif.of (fun h5 => ?_) fun h5 => ?_
      · conv => whnf
        (exact hR (6, bits .or .u16 o (IntKind.u16.wrap (1 * 2 ^ min ((5 : Nat) : Int).toNat IntKind.u16.bits))) _ _ _ rfl rfl ⟨(by show 6 ≤ 15; decide), (by show bits .or .u16 o _ = meetN d0 d1 d2 d3 d4 d5 (5 + 1); rw [eo, ew, ho, Int.one_mul]; conv => (rhs; unfold meetN); rw [if_pos (by simp [prD, h0, h5])])⟩ (by show 15 - 6 < 15 - 5; decide))
      · conv => whnf
        (exact hR (6, o) _ _ _ rfl rfl ⟨(by show 6 ≤ 15; decide), (by show o = meetN d0 d1 d2 d3 d4 d5 (5 + 1); rw [ho]; conv => (rhs; unfold meetN); rw [if_neg (by simp [prD, h5]), Int.add_zero])⟩ (by show 15 - 6 < 15 - 5; decide))
    · conv => whnf
      refine Bif.knF ?_ fun h6 => ?_
      · with_reducible assumption
      conv => whnf
      refine Bif.knF ?_ fun h7 => ?_
      · with_reducible assumption
      conv => whnf
      refine Bif.knF ?_ fun h8 => ?_
      · with_reducible assumption
      conv => whnf
      refine Bif.knF ?_ fun h9 => ?_
      · with_reducible assumption
      conv => whnf
      (exact hR (6, o) _ _ _ rfl rfl ⟨(by show 6 ≤ 15; decide), (by show o = meetN d0 d1 d2 d3 d4 d5 (5 + 1); rw [ho]; conv => (rhs; unfold meetN); rw [if_neg (by simp [prD, h0]), Int.add_zero])⟩ (by show 15 - 6 < 15 - 5; decide))
  · have eo := or_add .u16 rfl 6 o 1 (by rw [ho]; exact hb) (by decide) (by decide) (by decide)
    have ew : IntKind.u16.wrap (1 * 2 ^ min ((6 : Nat) : Int).toNat IntKind.u16.bits) = 1 * 2 ^ 6 := by decide
    rw [← ew] at eo
    conv => whnf
    refine Bif.of (fun h0 => ?_) fun h0 => ?_
    · conv => whnf
      refine Bif.knT ?_ fun h1 => ?_
      · with_reducible assumption
      conv => whnf
      refine Bif.knT ?_ fun h2 => ?_
      · with_reducible assumption
      conv => whnf
      refine Bif.knT ?_ fun h3 => ?_
      · with_reducible assumption
      conv => whnf
      refine Bif.knT ?_ fun h4 => ?_
      · with_reducible assumption
      conv => whnf
      refine Bif.of (fun h5 => ?_) fun h5 => ?_
      · conv => whnf
        (exact hR (7, bits .or .u16 o (IntKind.u16.wrap (1 * 2 ^ min ((6 : Nat) : Int).toNat IntKind.u16.bits))) _ _ _ rfl rfl ⟨(by show 7 ≤ 15; decide), (by show bits .or .u16 o _ = meetN d0 d1 d2 d3 d4 d5 (6 + 1); rw [eo, ew, ho, Int.one_mul]; conv => (rhs; unfold meetN); rw [if_pos (by simp [prD, h0, h5])])⟩ (by show 15 - 7 < 15 - 6; decide))
      · conv => whnf
        (exact hR (7, o) _ _ _ rfl rfl ⟨(by show 7 ≤ 15; decide), (by show o = meetN d0 d1 d2 d3 d4 d5 (6 + 1); rw [ho]; conv => (rhs; unfold meetN); rw [if_neg (by simp [prD, h5]), Int.add_zero])⟩ (by show 15 - 7 < 15 - 6; decide))
    · conv => whnf
      refine Bif.knF ?_ fun h6 => ?_
      · with_reducible assumption
      conv => whnf
      refine Bif.knF ?_ fun h7 => ?_
      · with_reducible assumption
      conv => whnf
      refine Bif.knF ?_ fun h8 => ?_
      · with_reducible assumption
      conv => whnf
      refine Bif.knF ?_ fun h9 => ?_
      · with_reducible assumption
      conv => whnf
      (exact hR (7, o) _ _ _ rfl rfl ⟨(by show 7 ≤ 15; decide), (by show o = meetN d0 d1 d2 d3 d4 d5 (6 + 1); rw [ho]; conv => (rhs; unfold meetN); rw [if_neg (by simp [prD, h0]), Int.add_zero])⟩ (by show 15 - 7 < 15 - 6; decide))
  · have eo := or_add .u16 rfl 7 o 1 (by rw [ho]; exact hb) (by decide) (by decide) (by decide)
    have ew : IntKind.u16.wrap (1 * 2 ^ min ((7 : Nat) : Int).toNat IntKind.u16.bits) = 1 * 2 ^ 7 := by decide
    rw [← ew] at eo
    conv => whnf
    refine Bif.of (fun h0 => ?_) fun h0 => ?_
    · conv => whnf
      refine Bif.knT ?_ fun h1 => ?_
      · with_reducible assumption
      conv => whnf
      refine Bif.knT ?_ fun h2 => ?_
      · with_reducible assumption
      conv => whnf
      refine Bif.knT ?_ fun h3 => ?_
      · with_reducible assumption
      conv => whnf
      refine Bif.knT ?_ fun h4 => ?_
      · with_reducible assumption
      conv => whnf
      refine Bif.of (fun h5 => ?_) fun h5 => ?_
      · conv => whnf
        (exact hR (8, bits .or .u16 o (IntKind.u16.wrap (1 * 2 ^ min ((7 : Nat) : Int).toNat IntKind.u16.bits))) _ _ _ rfl rfl ⟨(by show 8 ≤ 15; decide), (by show bits .or .u16 o _ = meetN d0 d1 d2 d3 d4 d5 (7 + 1); rw [eo, ew, ho, Int.one_mul]; conv => (rhs; unfold meetN); rw [if_pos (by simp [prD, h0, h5])])⟩ (by show 15 - 8 < 15 - 7; decide))
      · conv => whnf
        (exact hR (8, o) _ _ _ rfl rfl ⟨(by show 8 ≤ 15; decide), (by show o = meetN d0 d1 d2 d3 d4 d5 (7 + 1); rw [ho]; conv => (rhs; unfold meetN); rw [if_neg (by simp [prD, h5]), Int.add_zero])⟩ (by show 15 - 8 < 15 - 7; decide))
    · conv => whnf
      refine Bif.knF ?_ fun h6 => ?_
      · with_reducible assumption
      conv => whnf
      refine Bif.knF ?_ fun h7 => ?_
      · with_reducible assumption
      conv => whnf
      refine Bif.knF ?_ fun h8 => ?_
      · with_reducible assumption
      conv => whnf
      refine Bif.knF ?_ fun h9 => ?_
      · with_reducible assumption
      conv => whnf
      (exact hR (8, o) _ _ _ rfl rfl ⟨(by show 8 ≤ 15; decide), (by show o = meetN d0 d1 d2 d3 d4 d5 (7 + 1); rw [ho]; conv => (rhs; unfold meetN); rw [if_neg (by simp [prD, h0]), Int.add_zero])⟩ (by show 15 - 8 < 15 - 7; decide))
  · have eo := or_add .u16 rfl 8 o 1 (by rw [ho]; exact hb) (by decide) (by decide) (by decide)
    have ew : IntKind.u16.wrap (1 * 2 ^ min ((8 : Nat) : Int).toNat IntKind.u16.bits) = 1 * 2 ^ 8 := by decide
    rw [← ew] at eo
    conv => whnf
    refine Bif.of (fun h0 => ?_) fun h0 => ?_
    · conv => whnf
      refine Bif.knT ?_ fun h1 => ?_
      · with_reducible assumption
      conv => whnf
      refine Bif.knT ?_ fun h2 => ?_
      · with_reducible assumption
      conv => whnf
      refine Bif.knT ?_ fun h3 => ?_
      · with_reducible assumption
      conv => whnf
      refine Bif.knT ?_ fun h4 => ?_
      · with_reducible assumption
      conv => whnf
      refine Bif.of (fun h5 => ?_) fun h5 => ?_
      · conv => whnf
        (exact hR (9, bits .or .u16 o (IntKind.u16.wrap (1 * 2 ^ min ((8 : Nat) : Int).toNat IntKind.u16.bits))) _ _ _ rfl rfl ⟨(by show 9 ≤ 15; decide), (by show bits .or .u16 o _ = meetN d0 d1 d2 d3 d4 d5 (8 + 1); rw [eo, ew, ho, Int.one_mul]; conv => (rhs; unfold meetN); rw [if_pos (by simp [prD, h0, h5])])⟩ (by show 15 - 9 < 15 - 8; decide))
      · conv => whnf
        (exact hR (9, o) _ _ _ rfl rfl ⟨(by show 9 ≤ 15; decide), (by show o = meetN d0 d1 d2 d3 d4 d5 (8 + 1); rw [ho]; conv => (rhs; unfold meetN); rw [if_neg (by simp [prD, h5]), Int.add_zero])⟩ (by show 15 - 9 < 15 - 8; decide))
    · conv => whnf
      refine Bif.knF ?_ fun h6 => ?_
      · with_reducible assumption
      conv => whnf
      refine Bif.knF ?_ fun h7 => ?_
      · with_reducible assumption
      conv => whnf
      refine Bif.knF ?_ fun h8 => ?_
      · with_reducible assumption
      conv => whnf
      refine Bif.knF ?_ fun h9 => ?_
      · with_reducible assumption
      conv => whnf
      (exact hR (9, o) _ _ _ rfl rfl ⟨(by show 9 ≤ 15; decide), (by show o = meetN d0 d1 d2 d3 d4 d5 (8 + 1); rw [ho]; conv => (rhs; unfold meetN); rw [if_neg (by simp [prD, h0]), Int.add_zero])⟩ (by show 15 - 9 < 15 - 8; decide))
  · have eo := or_add .u16 rfl 9 o 1 (by rw [ho]; exact hb) (by decide) (by decide) (by decide)
    have ew : IntKind.u16.wrap (1 * 2 ^ min ((9 : Nat) : Int).toNat IntKind.u16.bits) = 1 * 2 ^ 9 := by decide
    rw [← ew] at eo
    conv => whnf
    refine Bif.of (fun h0 => ?_) fun h0 => ?_
    · conv => whnf
      refine Bif.knT ?_ fun h1 => ?_
      · with_reducible assumption
      conv => whnf
      refine Bif.knT ?_ fun h2 => ?_
      · with_reducible assumption
      conv => whnf
      refine Bif.knT ?_ fun h3 => ?_
      · with_reducible assumption
      conv => whnf
      refine Bif.knT ?_ fun h4 => ?_
      · with_reducible assumption
      conv => whnf
      refine Bif.of (fun h5 => ?_) fun h5 => ?_
      · conv => whnf
        (exact hR (10, bits .or .u16 o (IntKind.u16.wrap (1 * 2 ^ min ((9 : Nat) : Int).toNat IntKind.u16.bits))) _ _ _ rfl rfl ⟨(by show 10 ≤ 15; decide), (by show bits .or .u16 o _ = meetN d0 d1 d2 d3 d4 d5 (9 + 1); rw [eo, ew, ho, Int.one_mul]; conv => (rhs; unfold meetN); rw [if_pos (by simp [prD, h0, h5])])⟩ (by show 15 - 10 < 15 - 9; decide))
      · conv => whnf
        (exact hR (10, o) _ _ _ rfl rfl ⟨(by show 10 ≤ 15; decide), (by show o = meetN d0 d1 d2 d3 d4 d5 (9 + 1); rw [ho]; conv => (rhs; unfold meetN); rw [if_neg (by simp [prD, h5]), Int.add_zero])⟩ (by show 15 - 10 < 15 - 9; decide))
    · conv => whnf
      refine Bif.knF ?_ fun h6 => ?_
      · with_reducible assumption
      conv => whnf
      refine Bif.knF ?_ fun h7 => ?_
      · with_reducible assumption
      conv => whnf
      refine Bif.knF ?_ fun h8 => ?_
      · with_reducible assumption
      conv => whnf
      refine Bif.knF ?_ fun h9 => ?_
      · with_reducible assumption
      conv => whnf
      (exact hR (10, o) _ _ _ rfl rfl ⟨(by show 10 ≤ 15; decide), (by show o = meetN d0 d1 d2 d3 d4 d5 (9 + 1); rw [ho]; conv => (rhs; unfold meetN); rw [if_neg (by simp [prD, h0]), Int.add_zero])⟩ (by show 15 - 10 < 15 - 9; decide))
  · have eo := or_add .u16 rfl 10 o 1 (by rw [ho]; exact hb) (by decide) (by decide) (by decide)
    have ew : IntKind.u16.wrap (1 * 2 ^ min ((10 : Nat) : Int).toNat IntKind.u16.bits) = 1 * 2 ^ 10 := by decide
    rw [← ew] at eo
    conv => whnf
    refine Bif.of (fun h0 => ?_) fun h0 => ?_
    · conv => whnf
      refine Bif.knT ?_ fun h1 => ?_
      · with_reducible assumption
      conv => whnf
      refine Bif.knT ?_ fun h2 => ?_
      · with_reducible assumption
      conv => whnf
      refine Bif.knT ?_ fun h3 => ?_
      · with_reducible assumption
      conv => whnf
      refine Bif.knT ?_ fun h4 => ?_
      · with_reducible assumption
      conv => whnf
      refine Bif.of (fun h5 => ?_) fun h5 => ?_
      · conv => whnf
        (exact hR (11, bits .or .u16 o (IntKind.u16.wrap (1 * 2 ^ min ((10 : Nat) : Int).toNat IntKind.u16.bits))) _ _ _ rfl rfl ⟨(by show 11 ≤ 15; decide), (by show bits .or .u16 o _ = meetN d0 d1 d2 d3 d4 d5 (10 + 1); rw [eo, ew, ho, Int.one_mul]; conv => (rhs; unfold meetN); rw [if_pos (by simp [prD, h0, h5])])⟩ (by show 15 - 11 < 15 - 10; decide))
      · conv => whnf
        (exact hR (11, o) _ _ _ rfl rfl ⟨(by show 11 ≤ 15; decide), (by show o = meetN d0 d1 d2 d3 d4 d5 (10 + 1); rw [ho]; conv => (rhs; unfold meetN); rw [if_neg (by simp [prD, h5]), Int.add_zero])⟩ (by show 15 - 11 < 15 - 10; decide))
    · conv => whnf
      refine Bif.knF ?_ fun h6 => ?_
      · with_reducible assumption
      conv => whnf
      refine Bif.knF ?_ fun h7 => ?_
      · with_reducible assumption
      conv => whnf
      refine Bif.knF ?_ fun h8 => ?_
      · with_reducible assumption
      conv => whnf
      refine Bif.knF ?_ fun h9 => ?_
      · with_reducible assumption
      conv => whnf
      (exact hR (11, o) _ _ _ rfl rfl ⟨(by show 11 ≤ 15; decide), (by show o = meetN d0 d1 d2 d3 d4 d5 (10 + 1); rw [ho]; conv => (rhs; unfold meetN); rw [if_neg (by simp [prD, h0]), Int.add_zero])⟩ (by show 15 - 11 < 15 - 10; decide))
  · have eo := or_add .u16 rfl 11 o 1 (by rw [ho]; exact hb) (by decide) (by decide) (by decide)
    have ew : IntKind.u16.wrap (1 * 2 ^ min ((11 : Nat) : Int).toNat IntKind.u16.bits) = 1 * 2 ^ 11 := by decide
    rw [← ew] at eo
    conv => whnf
    refine Bif.of (fun h0 => ?_) fun h0 => ?_
    · conv => whnf
      refine Bif.knT ?_ fun h1 => ?_
      · with_reducible assumption
      conv => whnf
      refine Bif.knT ?_ fun h2 => ?_
      · with_reducible assumption
      conv => whnf
      refine Bif.knT ?_ fun h3 => ?_
      · with_reducible assumption
      conv => whnf
      refine Bif.knT ?_ fun h4 => ?_
      · with_reducible assumption
      conv => whnf
      refine Bif.of (fun h5 => ?_) fun h5 => ?_
      · conv => whnf
        (exact hR (12, bits .or .u16 o (IntKind.u16.wrap (1 * 2 ^ min ((11 : Nat) : Int).toNat IntKind.u16.bits))) _ _ _ rfl rfl ⟨(by show 12 ≤ 15; decide), (by show bits .or .u16 o _ = meetN d0 d1 d2 d3 d4 d5 (11 + 1); rw [eo, ew, ho, Int.one_mul]; conv => (rhs; unfold meetN); rw [if_pos (by simp [prD, h0, h5])])⟩ (by show 15 - 12 < 15 - 11; decide))
      · conv => whnf
        (exact hR (12, o) _ _ _ rfl rfl ⟨(by show 12 ≤ 15; decide), (by show o = meetN d0 d1 d2 d3 d4 d5 (11 + 1); rw [ho]; conv => (rhs; unfold meetN); rw [if_neg (by simp [prD, h5]), Int.add_zero])⟩ (by show 15 - 12 < 15 - 11; decide))
    · conv => whnf
      refine Bif.knF ?_ fun h6 => ?_
      · with_reducible assumption
      conv => whnf
      refine Bif.knF ?_ fun h7 => ?_
      · with_reducible assumption
      conv => whnf
      refine Bif.knF ?_ fun h8 => ?_
      · with_reducible assumption
      conv => whnf
      refine Bif.knF ?_ fun h9 => ?_
      · with_reducible assumption
      conv => whnf
      (exact hR (12, o) _ _ _ rfl rfl ⟨(by show 12 ≤ 15; decide), (by show o = meetN d0 d1 d2 d3 d4 d5 (11 + 1); rw [ho]; conv => (rhs; unfold meetN); rw [if_neg (by simp [prD, h0]), Int.add_zero])⟩ (by show 15 - 12 < 15 - 11; decide))
  · have eo := or_add .u16 rfl 12 o 1 (by rw [ho]; exact hb) (by decide) (by decide) (by decide)
    have ew : IntKind.u16.wrap (1 * 2 ^ min ((12 : Nat) : Int).toNat IntKind.u16.bits) = 1 * 2 ^ 12 := by decide
    rw [← ew] at eo
    conv => whnf
    refine Bif.of (fun h0 => ?_) fun h0 => ?_
    · conv => whnf
      refine Bif.knT ?_ fun h1 => ?_
      · with_reducible assumption
      conv => whnf
      refine Bif.knT ?_ fun h2 => ?_
      · with_reducible assumption
      conv => whnf
      refine Bif.knT ?_ fun h3 => ?_
      · with_reducible assumption
      conv => whnf
      refine Bif.knT ?_ fun h4 => ?_
      · with_reducible assumption
      conv => whnf
      refine Bif.of (fun h5 => ?_) fun h5 => ?_
      · conv => whnf
        (exact hR (13, bits .or .u16 o (IntKind.u16.wrap (1 * 2 ^ min ((12 : Nat) : Int).toNat IntKind.u16.bits))) _ _ _ rfl rfl ⟨(by show 13 ≤ 15; decide), (by show bits .or .u16 o _ = meetN d0 d1 d2 d3 d4 d5 (12 + 1); rw [eo, ew, ho, Int.one_mul]; conv => (rhs; unfold meetN); rw [if_pos (by simp [prD, h0, h5])])⟩ (by show 15 - 13 < 15 - 12; decide))
      · conv => whnf
        (exact hR (13, o) _ _ _ rfl rfl ⟨(by show 13 ≤ 15; decide), (by show o = meetN d0 d1 d2 d3 d4 d5 (12 + 1); rw [ho]; conv => (rhs; unfold meetN); rw [if_neg (by simp [prD, h5]), Int.add_zero])⟩ (by show 15 - 13 < 15 - 12; decide))
    · conv => whnf
      refine Bif.knF ?_ fun h6 => ?_
      · with_reducible assumption
      conv => whnf
      refine Bif.knF ?_ fun h7 => ?_
      · with_reducible assumption
      conv => whnf
      refine Bif.knF ?_ fun h8 => ?_
      · with_reducible assumption
      conv => whnf
      refine Bif.knF ?_ fun h9 => ?_
      · with_reducible assumption
      conv => whnf
      (exact hR (13, o) _ _ _ rfl rfl ⟨(by show 13 ≤ 15; decide), (by show o = meetN d0 d1 d2 d3 d4 d5 (12 + 1); rw [ho]; conv => (rhs; unfold meetN); rw [if_neg (by simp [prD, h0]), Int.add_zero])⟩ (by show 15 - 13 < 15 - 12; decide))
  · have eo := or_add .u16 rfl 13 o 1 (by rw [ho]; exact hb) (by decide) (by decide) (by decide)
    have ew : IntKind.u16.wrap (1 * 2 ^ min ((13 : Nat) : Int).toNat IntKind.u16.bits) = 1 * 2 ^ 13 := by decide
    rw [← ew] at eo
    conv => whnf
    refine Bif.of (fun h0 => ?_) fun h0 => ?_
    · conv => whnf
      refine Bif.knT ?_ fun h1 => ?_
      · with_reducible assumption
      conv => whnf
      refine Bif.knT ?_ fun h2 => ?_
      · with_reducible assumption
      conv => whnf
      refine Bif.knT ?_ fun h3 => ?_
      · with_reducible assumption
      conv => whnf
      refine Bif.knT ?_ fun h4 => ?_
      · with_reducible assumption
      conv => whnf
      refine Bif.of (fun h5 => ?_) fun h5 => ?_
      · conv => whnf
        (exact hR (14, bits .or .u16 o (IntKind.u16.wrap (1 * 2 ^ min ((13 : Nat) : Int).toNat IntKind.u16.bits))) _ _ _ rfl rfl ⟨(by show 14 ≤ 15; decide), (by show bits .or .u16 o _ = meetN d0 d1 d2 d3 d4 d5 (13 + 1); rw [eo, ew, ho, Int.one_mul]; conv => (rhs; unfold meetN); rw [if_pos (by simp [prD, h0, h5])])⟩ (by show 15 - 14 < 15 - 13; decide))
      · conv => whnf
        (exact hR (14, o) _ _ _ rfl rfl ⟨(by show 14 ≤ 15; decide), (by show o = meetN d0 d1 d2 d3 d4 d5 (13 + 1); rw [ho]; conv => (rhs; unfold meetN); rw [if_neg (by simp [prD, h5]), Int.add_zero])⟩ (by show 15 - 14 < 15 - 13; decide))
    · conv => whnf
      refine Bif.knF ?_ fun h6 => ?_
      · with_reducible assumption
      conv => whnf
      refine Bif.knF ?_ fun h7 => ?_
      · with_reducible assumption
      conv => whnf
      refine Bif.knF ?_ fun h8 => ?_
      · with_reducible assumption
      conv => whnf
      refine Bif.knF ?_ fun h9 => ?_
      · with_reducible assumption
      conv => whnf
      (exact hR (14, o) _ _ _ rfl rfl ⟨(by show 14 ≤ 15; decide), (by show o = meetN d0 d1 d2 d3 d4 d5 (13 + 1); rw [ho]; conv => (rhs; unfold meetN); rw [if_neg (by simp [prD, h0]), Int.add_zero])⟩ (by show 15 - 14 < 15 - 13; decide))
  · have eo := or_add .u16 rfl 14 o 1 (by rw [ho]; exact hb) (by decide) (by decide) (by decide)
    have ew : IntKind.u16.wrap (1 * 2 ^ min ((14 : Nat) : Int).toNat IntKind.u16.bits) = 1 * 2 ^ 14 := by decide
    rw [← ew] at eo
    conv => whnf
    refine Bif.of (fun h0 => ?_) fun h0 => ?_
    · conv => whnf
      refine Bif.knT ?_ fun h1 => ?_
      · with_reducible assumption
      conv => whnf
      refine Bif.knT ?_ fun h2 => ?_
      · with_reducible assumption
      conv => whnf
      refine Bif.knT ?_ fun h3 => ?_
      · with_reducible assumption
      conv => whnf
      refine Bif.knT ?_ fun h4 => ?_
      · with_reducible assumption
      conv => whnf
      refine Bif.of (fun h5 => ?_) fun h5 => ?_
      · conv => whnf
        (exact hR (15, bits .or .u16 o (IntKind.u16.wrap (1 * 2 ^ min ((14 : Nat) : Int).toNat IntKind.u16.bits))) _ _ _ rfl rfl ⟨(by show 15 ≤ 15; decide), (by show bits .or .u16 o _ = meetN d0 d1 d2 d3 d4 d5 (14 + 1); rw [eo, ew, ho, Int.one_mul]; conv => (rhs; unfold meetN); rw [if_pos (by simp [prD, h0, h5])])⟩ (by show 15 - 15 < 15 - 14; decide))
      · conv => whnf
        (exact hR (15, o) _ _ _ rfl rfl ⟨(by show 15 ≤ 15; decide), (by show o = meetN d0 d1 d2 d3 d4 d5 (14 + 1); rw [ho]; conv => (rhs; unfold meetN); rw [if_neg (by simp [prD, h5]), Int.add_zero])⟩ (by show 15 - 15 < 15 - 14; decide))
    · conv => whnf
      refine Bif.knF ?_ fun h6 => ?_
      · with_reducible assumption
      conv => whnf
      refine Bif.knF ?_ fun h7 => ?_
      · with_reducible assumption
      conv => whnf
      refine Bif.knF ?_ fun h8 => ?_
      · with_reducible assumption
      conv => whnf
      refine Bif.knF ?_ fun h9 => ?_
      · with_reducible assumption
      conv => whnf
      (exact hR (15, o) _ _ _ rfl rfl ⟨(by show 15 ≤ 15; decide), (by show o = meetN d0 d1 d2 d3 d4 d5 (14 + 1); rw [ho]; conv => (rhs; unfold meetN); rw [if_neg (by simp [prD, h0]), Int.add_zero])⟩ (by show 15 - 15 < 15 - 14; decide))
  · conv => whnf
    clear hR
    (rw [← ho]; exact ⟨rfl, rfl⟩)
def tb (m : Int) (k : Nat) : Int := m / 2 ^ k % 2
theorem tb_01 (m : Int) (k : Nat) : tb m k = 0 ∨ tb m k = 1 := by unfold tb; omega
def tellI (m r : Int) : Int := if 0 ≤ r ∧ r ≤ 5 then 128 * tb m (2 * r).toNat + 64 * tb m (2 * r + 1).toNat else if r = 6 then 128 * tb m 12 else if r = 7 then 128 * tb m 13 + 64 * tb m 14 else 0
theorem tb_and (m : Int) (k : Nat) (n : Int) (hn : min n.toNat 16 = k) : bits .and .u16 (m.fdiv (2 ^ min n.toNat IntKind.u16.bits)) 1 = tb m k := by
  rw [show min n.toNat IntKind.u16.bits = k from hn, Int.fdiv_eq_ediv_of_nonneg _ (Int.le_of_lt (Int.pow_pos (by decide)))]
  exact and_mask .u16 _ 1 (by decide)
theorem tell_end : ∀ f : Nat, f < 2 → ∀ s : Nat, s < 2 → IntKind.u8.wrap (bits .or .u16 (IntKind.u16.wrap ((f : Int) * 2 ^ min (7 : Int).toNat IntKind.u16.bits)) (IntKind.u16.wrap ((s : Int) * 2 ^ min (6 : Int).toNat IntKind.u16.bits))) = 128 * (f : Int) + 64 * (s : Int) := by decide
theorem tell_end' {f s : Int} (hf : f = 0 ∨ f = 1) (hs : s = 0 ∨ s = 1) : IntKind.u8.wrap (bits .or .u16 (IntKind.u16.wrap (f * 2 ^ min (7 : Int).toNat IntKind.u16.bits)) (IntKind.u16.wrap (s * 2 ^ min (6 : Int).toNat IntKind.u16.bits))) = 128 * f + 64 * s := by
  rcases hf with rfl | rfl <;> rcases hs with rfl | rfl <;> decide
theorem field_tell_7 (m : Int) : ACalls Tryz.prog 48 [.int .u16 m, .int .i64 7] [] fun v H => v = .int .u8 (tellI m 7) ∧ H = [] := by
  have ef := tb_and m 13 (((13) : Int)) (by decide)
  have es := tb_and m 14 (((14) : Int)) (by decide)
  have ee := tell_end' (tb_01 m 13) (tb_01 m 14)
  refine ACalls.code tabOk h48 Tryz.func48 Tryz.call48 ok48 ?_
  conv => whnf
  (rw [ef, es, ee]; exact ⟨rfl, rfl⟩)
def graphI (b : Int) (mir : Bool) (w d : Int) : Bool := if w < 1 ∨ d < 0 then false else if 7 < d / w then false else if mir then bitN b (d / w).toNat else bitN (revI b) (d / w).toNat
theorem g_end (b n : Int) (hb : 0 ≤ b ∧ b ≤ 255) (hn : 0 ≤ n ∧ n ≤ 7) : (bits .and .u8 (b.fdiv (2 ^ min n.toNat IntKind.u8.bits)) 1 != 0) = bitN b n.toNat := by
  rw [show min n.toNat IntKind.u8.bits = n.toNat by show min n.toNat 8 = _; omega, Int.fdiv_eq_ediv_of_nonneg _ (Int.le_of_lt (Int.pow_pos (by decide))), and1_8]
  unfold bitN
  generalize b / 2 ^ n.toNat = q
  by_cases h : q % 2 = 1
  · simp [h]
  · have : q % 2 = 0 := by omega
    simp [this]
theorem field_graph_out (b : Int) (mir : Bool) (w d : Int) (h : w < 1 ∨ d < 0) : ACalls Tryz.prog 13 [.int .u8 b, .bool mir, .int .i64 w, .int .i64 d] [] fun v H => v = .bool (graphI b mir w d) ∧ H = [] := by
  have e : graphI b mir w d = false := by unfold graphI; rw [if_pos h]
  rw [e]
  rcases h with h | h
  · refine ACalls.code tabOk h13 Tryz.func13 Tryz.call13 ok13 ?_
    conv => whnf
    refine Bif.knT ?_ fun h0 => ?_
    · (simp_all; done)
    rw [h0]
    conv => whnf
    exact ⟨rfl, rfl⟩
  · refine ACalls.code tabOk h13 Tryz.func13 Tryz.call13 ok13 ?_
    conv => whnf
    refine Bif.of (fun h0 => ?_) fun h0 => ?_
    · rw [h0]
      conv => whnf
      exact ⟨rfl, rfl⟩
    · rw [h0]
      conv => whnf
      refine Bif.knT ?_ fun h1 => ?_
      · (simp_all; done)
      rw [h1]
      conv => whnf
      exact ⟨rfl, rfl⟩

theorem field_graph_0 (b : Int) (mir : Bool) (w d : Int) (hb : 0 ≤ b ∧ b ≤ 255) (hd2 : d ≤ 9223372036854775807) (h : 1 ≤ w ∧ 0 ≤ d) (hk : 7 < d / w) : ACalls Tryz.prog 13 [.int .u8 b, .bool mir, .int .i64 w, .int .i64 d] [] fun v H => v = .bool (graphI b mir w d) ∧ H = [] := by
  have hd : 0 ≤ d / w ∧ d / w ≤ d := ⟨Int.ediv_nonneg h.2 (by omega), Int.ediv_le_self _ h.2⟩
  have hr := revI_bd hb
  have ed : IntKind.i64.wrap (d.tdiv w) = d / w := by rw [Int.tdiv_eq_ediv_of_nonneg h.2, wrap64 (by omega) (by omega)]
  have hw : (w == 0) = false := by simp; omega
  have e : graphI b mir w d = (if 7 < d / w then false else if mir then bitN b (d / w).toNat else bitN (revI b) (d / w).toNat) := by unfold graphI; rw [if_neg (by omega)]
  rw [e]
  cases mir with
  | true =>
    refine ACalls.code tabOk h13 Tryz.func13 Tryz.call13 ok13 ?_
    conv => whnf
    refine Bif.knF ?_ fun h0 => ?_
    · (simp; omega)
    rw [h0]
    conv => whnf
    refine Bif.knF ?_ fun h1 => ?_
    · (simp; omega)
    rw [h1]
    conv => whnf
    rw [ed]
    conv => whnf
    refine Req.of ?_ ?_
    · (simp; omega)
    conv => whnf
    refine Bif.knF ?_ fun h2 => ?_
    · (simp; omega)
    rw [h2]
    conv => whnf
    (simp; omega)
  | false =>
    refine ACalls.code tabOk h13 Tryz.func13 Tryz.call13 ok13 ?_
    conv => whnf
    refine Bif.knF ?_ fun h0 => ?_
    · (simp; omega)
    rw [h0]
    conv => whnf
    refine Bif.knF ?_ fun h1 => ?_
    · (simp; omega)
    rw [h1]
    conv => whnf
    rw [ed]
    conv => whnf
    refine Req.of ?_ ?_
    · (simp; omega)
    conv => whnf
    refine ACalls.useE (reverse8 _ ?_) [] rfl (by (conv => whnf); try rfl) (by (conv => whnf); try rfl) ?_
    · omega
    conv => whnf
    refine Bif.knF ?_ fun h2 => ?_
    · (simp; omega)
    rw [h2]
    conv => whnf
    (simp; omega)
theorem field_graph_1 (b : Int) (mir : Bool) (w d : Int) (hb : 0 ≤ b ∧ b ≤ 255) (hd2 : d ≤ 9223372036854775807) (h : 1 ≤ w ∧ 0 ≤ d) (hk : d / w ≤ 7) : ACalls Tryz.prog 13 [.int .u8 b, .bool mir, .int .i64 w, .int .i64 d] [] fun v H => v = .bool (graphI b mir w d) ∧ H = [] := by
  have hd : 0 ≤ d / w ∧ d / w ≤ d := ⟨Int.ediv_nonneg h.2 (by omega), Int.ediv_le_self _ h.2⟩
  have hr := revI_bd hb
  have ed : IntKind.i64.wrap (d.tdiv w) = d / w := by rw [Int.tdiv_eq_ediv_of_nonneg h.2, wrap64 (by omega) (by omega)]
  have hw : (w == 0) = false := by simp; omega
  have e : graphI b mir w d = (if 7 < d / w then false else if mir then bitN b (d / w).toNat else bitN (revI b) (d / w).toNat) := by unfold graphI; rw [if_neg (by omega)]
  rw [e]
  cases mir with
  | true =>
    refine ACalls.code tabOk h13 Tryz.func13 Tryz.call13 ok13 ?_
    conv => whnf
    refine Bif.knF ?_ fun h0 => ?_
    · (simp; omega)
    rw [h0]
    conv => whnf
    refine Bif.knF ?_ fun h1 => ?_
    · (simp; omega)
    rw [h1]
    conv => whnf
    rw [ed]
    conv => whnf
    refine Req.of ?_ ?_
    · (simp; omega)
    conv => whnf
    refine Bif.knT ?_ fun h2 => ?_
    · (simp; omega)
    rw [h2]
    conv => whnf
    refine Req.of ?_ ?_
    · (simp; omega)
    conv => whnf
    (rw [g_end b _ hb (by omega), if_neg (by omega)]; exact ⟨rfl, rfl⟩)
  | false =>
    refine ACalls.code tabOk h13 Tryz.func13 Tryz.call13 ok13 ?_
    conv => whnf
    refine Bif.knF ?_ fun h0 => ?_
    · (simp; omega)
    rw [h0]
    conv => whnf
    refine Bif.knF ?_ fun h1 => ?_
    · (simp; omega)
    rw [h1]
    conv => whnf
    rw [ed]
    conv => whnf
    refine Req.of ?_ ?_
    · (simp; omega)
    conv => whnf
    refine ACalls.useE (reverse8 _ ?_) [] rfl (by (conv => whnf); try rfl) (by (conv => whnf); try rfl) ?_
    · omega
    conv => whnf
    refine Bif.knT ?_ fun h2 => ?_
    · (simp; omega)
    rw [h2]
    conv => whnf
    refine Req.of ?_ ?_
    · (simp; omega)
    conv => whnf
    (rw [g_end (revI b) _ (by omega) (by omega), if_neg (by omega)]; exact ⟨rfl, rfl⟩)
theorem field_graph (b : Int) (mir : Bool) (w d : Int) (hb : 0 ≤ b ∧ b ≤ 255) (hd2 : d ≤ 9223372036854775807) : ACalls Tryz.prog 13 [.int .u8 b, .bool mir, .int .i64 w, .int .i64 d] [] fun v H => v = .bool (graphI b mir w d) ∧ H = [] := by
  by_cases h : w < 1 ∨ d < 0
  · exact field_graph_out b mir w d h
  · by_cases hk : 7 < d / w
    · exact field_graph_0 b mir w d hb hd2 (by omega) hk
    · exact field_graph_1 b mir w d hb hd2 (by omega) (by omega)
theorem graph_in (b : Int) (mir : Bool) {w d : Int} (hw : 1 ≤ w) (hd : 0 ≤ d) (h : d / w ≤ 7) : graphI b mir w d = if mir then bitN b (d / w).toNat else bitN (revI b) (d / w).toNat := by
  unfold graphI; rw [if_neg (by omega), if_neg (by omega)]
end Go.Proofs
