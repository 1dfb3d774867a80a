/-
  Walks through the functions of the program, by contract.
-/
import Derived.Test.YtimihamgemboeaaBaseC
import Derived.Test.YtimihamgemboeaaCore20
set_option linter.all false
set_option linter.unusedVariables false
set_option linter.unusedSimpArgs false
set_option linter.unnecessarySimpa false
namespace Go.Proofs
open Go.Aw
set_option maxRecDepth 100000
set_option maxHeartbeats 2000000

/-- Five bits. -/
@[irreducible] def enc5 (a b c d e : Bool) : Int := (if a then 1 else 0) + (if b then 2 else 0) + (if c then 4 else 0) + (if d then 8 else 0) + (if e then 16 else 0)
theorem enc5_and0 (a b c d e : Bool) : (bits .and .u8 (enc5 a b c d e) 1 != 0) = a := by unfold enc5; cases a <;> cases b <;> cases c <;> cases d <;> cases e <;> rfl
theorem enc5_and1 (a b c d e : Bool) : (bits .and .u8 (enc5 a b c d e) 2 != 0) = b := by unfold enc5; cases a <;> cases b <;> cases c <;> cases d <;> cases e <;> rfl
theorem enc5_and2 (a b c d e : Bool) : (bits .and .u8 (enc5 a b c d e) 4 != 0) = c := by unfold enc5; cases a <;> cases b <;> cases c <;> cases d <;> cases e <;> rfl
theorem enc5_and3 (a b c d e : Bool) : (bits .and .u8 (enc5 a b c d e) 8 != 0) = d := by unfold enc5; cases a <;> cases b <;> cases c <;> cases d <;> cases e <;> rfl
theorem enc5_and4 (a b c d e : Bool) : (bits .and .u8 (enc5 a b c d e) 16 != 0) = e := by unfold enc5; cases a <;> cases b <;> cases c <;> cases d <;> cases e <;> rfl
theorem enc5_not0 (a b c d e : Bool) : bits .andNot .u8 (enc5 a b c d e) 1 = enc5 false b c d e := by unfold enc5; cases a <;> cases b <;> cases c <;> cases d <;> cases e <;> rfl
theorem enc5_not1 (a b c d e : Bool) : bits .andNot .u8 (enc5 a b c d e) 2 = enc5 a false c d e := by unfold enc5; cases a <;> cases b <;> cases c <;> cases d <;> cases e <;> rfl
theorem enc5_not2 (a b c d e : Bool) : bits .andNot .u8 (enc5 a b c d e) 4 = enc5 a b false d e := by unfold enc5; cases a <;> cases b <;> cases c <;> cases d <;> cases e <;> rfl
theorem enc5_not3 (a b c d e : Bool) : bits .andNot .u8 (enc5 a b c d e) 8 = enc5 a b c false e := by unfold enc5; cases a <;> cases b <;> cases c <;> cases d <;> cases e <;> rfl
theorem enc5_not4 (a b c d e : Bool) : bits .andNot .u8 (enc5 a b c d e) 16 = enc5 a b c d false := by unfold enc5; cases a <;> cases b <;> cases c <;> cases d <;> cases e <;> rfl
theorem enc5_all : enc5 true true true true true = 31 := by unfold enc5; rfl
theorem enc5_none : enc5 false false false false false = 0 := by unfold enc5; rfl

/-- The count at which a nibble stops a thing. -/
@[irreducible] def stopI (n : Int) : Int := IntKind.i64.wrap (bits .xor .u8 (bits .and .u8 n 15) 8)
theorem stopI_eq (n : Int) : stopI n = (n % 16 + 8) % 16 := by
  unfold stopI
  rw [and15u]
  have h : 0 ≤ n % 16 ∧ n % 16 < 16 := by omega
  generalize n % 16 = k at h
  obtain ⟨j, rfl⟩ : ∃ j : Nat, k = j := ⟨k.toNat, by omega⟩
  have hj : j < 16 := by omega
  revert hj; clear h
  revert j; decide

/-- A motion. -/
structure MS where
  c : Int
  g : Int
  m0 : Bool
  m1 : Bool
  m2 : Bool
  m3 : Bool
  m4 : Bool
def MS.blk (s : MS) : Blk := .cells [.int .i64 s.c, .int .i64 s.g, .int .u8 (enc5 s.m0 s.m1 s.m2 s.m3 s.m4)] 54
def MS.step (s : MS) (clock t0 t1 t2 t3 t4 : Int) : MS :=
  if 16 ≤ s.c then s else if s.g < 3 then { s with g := s.g + 1 } else if clock % 4 ≠ 0 then s
  else if s.c = 15 then ⟨16, 0, false, false, false, false, false⟩
  else ⟨s.c + 1, s.g, s.m0 && !(t0 == s.c), s.m1 && !(t1 == s.c), s.m2 && !(t2 == s.c), s.m3 && !(t3 == s.c), s.m4 && !(t4 == s.c)⟩
def MS.acts (s : MS) (clock : Int) : Bool := decide (s.c < 16) && decide (3 ≤ s.g) && decide (clock % 4 = 0)
def MS.out (s : MS) (clock : Int) (m : Bool) (t : Int) : Bool := s.acts clock && (m && !(t == s.c))

theorem motion_new : ACalls Try.prog 12 [] [] fun r H => r = .pointer (some ⟨0, 0, none⟩) ∧ H = [MS.blk ⟨16, 0, false, false, false, false, false⟩] := by
  refine ACalls.codeN tabOk h12 Try.func12 Try.call12 ok12 [0] ?_
  conv => whnf
  (exact ⟨rfl, by simp [MS.blk, enc5_none]⟩)
theorem motion_strobe (c g m : Int) : ACalls Try.prog 13 [.pointer (some ⟨0, 0, none⟩)] [.cells [.int .i64 c, .int .i64 g, .int .u8 m] 54] fun r H => r = .tuple #[] ∧ H = [MS.blk ⟨0, 0, true, true, true, true, true⟩] := by
  refine ACalls.code tabOk h13 Try.func13 Try.call13 ok13 ?_
  conv => whnf
  (exact ⟨rfl, by simp [MS.blk, enc5_all]⟩)
theorem motion_busy (c g m : Int) : ACalls Try.prog 15 [.pointer (some ⟨0, 0, none⟩)] [.cells [.int .i64 c, .int .i64 g, .int .u8 m] 54] fun r H => r = .bool (decide (c < 16)) ∧ H = [.cells [.int .i64 c, .int .i64 g, .int .u8 m] 54] := by
  refine ACalls.code tabOk h15 Try.func15 Try.call15 ok15 ?_
  conv => whnf
  exact ⟨rfl, rfl⟩

def kp (m : Bool) (t c : Int) : Bool := m && !(t == c)
theorem motion_step (c g clock n0 n1 n2 n3 n4 : Int) (m0 m1 m2 m3 m4 : Bool) (hc : 0 ≤ c ∧ c ≤ 16) (hg : 0 ≤ g ∧ g ≤ 3) :
    ACalls Try.prog 14 [.pointer (some ⟨0, 0, none⟩), .int .i64 clock, .agg #[.int .u8 n0, .int .u8 n1, .int .u8 n2, .int .u8 n3, .int .u8 n4]] [.cells [.int .i64 c, .int .i64 g, .int .u8 (enc5 m0 m1 m2 m3 m4)] 54]
      fun r H => r = .agg #[.bool (MS.out ⟨c, g, m0, m1, m2, m3, m4⟩ clock m0 (stopI n0)), .bool (MS.out ⟨c, g, m0, m1, m2, m3, m4⟩ clock m1 (stopI n1)), .bool (MS.out ⟨c, g, m0, m1, m2, m3, m4⟩ clock m2 (stopI n2)), .bool (MS.out ⟨c, g, m0, m1, m2, m3, m4⟩ clock m3 (stopI n3)), .bool (MS.out ⟨c, g, m0, m1, m2, m3, m4⟩ clock m4 (stopI n4))] ∧
        H = [(MS.step ⟨c, g, m0, m1, m2, m3, m4⟩ clock (stopI n0) (stopI n1) (stopI n2) (stopI n3) (stopI n4)).blk] := by
  have s0 : (IntKind.i64.wrap (bits .xor .u8 (bits .and .u8 n0 15) 8) == c) = (stopI n0 == c) := by unfold stopI; rfl
  have s1 : (IntKind.i64.wrap (bits .xor .u8 (bits .and .u8 n1 15) 8) == c) = (stopI n1 == c) := by unfold stopI; rfl
  have s2 : (IntKind.i64.wrap (bits .xor .u8 (bits .and .u8 n2 15) 8) == c) = (stopI n2 == c) := by unfold stopI; rfl
  have s3 : (IntKind.i64.wrap (bits .xor .u8 (bits .and .u8 n3 15) 8) == c) = (stopI n3 == c) := by unfold stopI; rfl
  have s4 : (IntKind.i64.wrap (bits .xor .u8 (bits .and .u8 n4 15) 8) == c) = (stopI n4 == c) := by unfold stopI; rfl
  have wc : IntKind.i64.wrap (c + 1) = c + 1 := wrap64 (by omega) (by omega)
  have wg : IntKind.i64.wrap (g + 1) = g + 1 := wrap64 (by omega) (by omega)
  have hcl : clock.tmod 4 = 0 ↔ clock % 4 = 0 := by rw [Int.tmod_eq_emod]; split <;> omega
  by_cases kA : 16 ≤ c
  · refine ACalls.code tabOk h14 Try.func14 Try.call14 ok14 ?_
    conv => whnf
    refine ACalls.useE (motion_busy _ _ _) [0] rfl (by (conv => whnf); try rfl) (by (conv => whnf); try rfl) ?_
    conv => whnf
    refine Bif.knT ?_ fun h0 => ?_
    · (simp_all; done)
    rw [h0]
    conv => whnf
    (exact ⟨by simp [MS.out, MS.acts]; omega, by simp [MS.step, MS.blk, kA]⟩)
  by_cases kB : g < 3
  · refine ACalls.code tabOk h14 Try.func14 Try.call14 ok14 ?_
    conv => whnf
    refine ACalls.useE (motion_busy _ _ _) [0] rfl (by (conv => whnf); try rfl) (by (conv => whnf); try rfl) ?_
    conv => whnf
    refine Bif.knF ?_ fun h0 => ?_
    · (simp_all; done)
    rw [h0]
    conv => whnf
    refine Bif.knT ?_ fun h1 => ?_
    · (simp_all; done)
    rw [h1]
    conv => whnf
    (rw [wg]; exact ⟨by simp [MS.out, MS.acts]; omega, by simp [MS.step, MS.blk, kA, kB]⟩)
  by_cases kC : clock % 4 = 0
  case neg =>
    refine ACalls.code tabOk h14 Try.func14 Try.call14 ok14 ?_
    conv => whnf
    refine ACalls.useE (motion_busy _ _ _) [0] rfl (by (conv => whnf); try rfl) (by (conv => whnf); try rfl) ?_
    conv => whnf
    refine Bif.knF ?_ fun h0 => ?_
    · (simp_all; done)
    rw [h0]
    conv => whnf
    refine Bif.knF ?_ fun h1 => ?_
    · (simp_all; done)
    rw [h1]
    conv => whnf
    refine Bif.knT ?_ fun h2 => ?_
    · (simp_all; done)
    rw [h2]
    conv => whnf
    (exact ⟨by simp [MS.out, MS.acts]; omega, by simp [MS.step, MS.blk, kA, kB, kC]⟩)
  refine ACalls.code tabOk h14 Try.func14 Try.call14 ok14 ?_
  conv => whnf
  refine ACalls.useE (motion_busy _ _ _) [0] rfl (by (conv => whnf); try rfl) (by (conv => whnf); try rfl) ?_
  conv => whnf
  refine Bif.knF ?_ fun h0 => ?_
  · (simp_all; done)
  rw [h0]
  conv => whnf
  refine Bif.knF ?_ fun h1 => ?_
  · (simp_all; done)
  rw [h1]
  conv => whnf
  refine Bif.knF ?_ fun h2 => ?_
  · (simp_all; done)
  rw [h2]
  conv => whnf
  refine ALoop.go (fun i : Nat => [none, none, none, some (.pointer (some ⟨1, 0, none⟩)), none, some (.pointer (some ⟨2, 0, none⟩)), some (.pointer (some ⟨3, 0, none⟩)), some (.pointer (some ⟨4, 0, none⟩)), some (.func (.func 26) #[] #[.pointer (some ⟨2, 0, none⟩), .pointer (some ⟨1, 0, none⟩)]), none, none, none, none, none, none, none, none, none, none, none, none, none, none, none, none, none, none, none, none, none, none, none, none, some (.int .i64 i), none, none, none, none, none, none, none, none, none, none, none, none, none, none, none, none, none, none, none, none, none, none, none, none, none, none, none, none, none, none, none, none, none, none, none, none, none, none, none, none, none, none, none, none, none, none, none, none, none, none]) (fun i => [.cells [.int .i64 c, .int .i64 g, .int .u8 (enc5 (if 0 < i then kp m0 (stopI n0) c else m0) (if 1 < i then kp m1 (stopI n1) c else m1) (if 2 < i then kp m2 (stopI n2) c else m2) (if 3 < i then kp m3 (stopI n3) c else m3) (if 4 < i then kp m4 (stopI n4) c else m4))] 54, .cells [.pointer (some ⟨0, 0, none⟩)] 27, .cells [.int .u8 n0, .int .u8 n1, .int .u8 n2, .int .u8 n3, .int .u8 n4] 26,
      .cells [.bool false, .bool false, .bool false, .bool false, .bool false] 30, .cells [.bool (if 0 < i then kp m0 (stopI n0) c else false), .bool (if 1 < i then kp m1 (stopI n1) c else false), .bool (if 2 < i then kp m2 (stopI n2) c else false), .bool (if 3 < i then kp m3 (stopI n3) c else false), .bool (if 4 < i then kp m4 (stopI n4) c else false)] 30]) (fun i => i ≤ 5) (fun i => 5 - i) 0 rfl rfl (by omega) (fun _ => rfl) ?_
  intro i hi x R hR
  have hi' : i = 0 ∨ i = 1 ∨ i = 2 ∨ i = 3 ∨ i = 4 ∨ i = 5 := by omega
  rcases hi' with rfl | rfl | rfl | rfl | rfl | rfl

  · have eb : IntKind.u8.wrap (1 * 2 ^ min ((0 : Nat) : Int).toNat IntKind.u8.bits) = 1 := by decide
    conv => whnf
    rw [eb]
    conv => whnf
    rw [enc5_and0]
    conv => whnf
    refine Bif.of (fun h0 => ?_) fun h0 => ?_
    · rw [h0]
      conv => whnf
      refine ACalls.code tabOk h26 Try.func26 Try.call26 ok26 ?_
      conv => whnf
      rw [s0]
      conv => whnf
      refine Bif.of (fun h1 => ?_) fun h1 => ?_
      · rw [h1]
        conv => whnf
        rw [enc5_not0]
        conv => whnf
        rw [enc5_and0]
        conv => whnf
        (simp at h0 h1; exact hR 1 _ _ rfl (by clear hR; simp [kp, h0, h1]) (by omega) (by omega))
      · rw [h1]
        conv => whnf
        rw [enc5_and0]
        conv => whnf
        (simp at h0; exact hR 1 _ _ rfl (by clear hR; simp [kp, h0, h1]) (by omega) (by omega))
    · rw [h0]
      conv => whnf
      rw [enc5_and0]
      conv => whnf
      (simp at h0 h1; exact hR 1 _ _ rfl (by clear hR; simp [kp, h0, h1]) (by omega) (by omega))
  · have eb : IntKind.u8.wrap (1 * 2 ^ min ((1 : Nat) : Int).toNat IntKind.u8.bits) = 2 := by decide
    conv => whnf
    rw [eb]
    conv => whnf
    rw [enc5_and1]
    conv => whnf
    refine Bif.of (fun h0 => ?_) fun h0 => ?_
    · rw [h0]
      conv => whnf
      refine ACalls.code tabOk h26 Try.func26 Try.call26 ok26 ?_
      conv => whnf
      rw [s1]
      conv => whnf
      refine Bif.of (fun h1 => ?_) fun h1 => ?_
      · rw [h1]
        conv => whnf
        rw [enc5_not1]
        conv => whnf
        rw [enc5_and1]
        conv => whnf
        (simp at h0 h1; exact hR 2 _ _ rfl (by clear hR; simp [kp, h0, h1]) (by omega) (by omega))
      · rw [h1]
        conv => whnf
        rw [enc5_and1]
        conv => whnf
        (simp at h0; exact hR 2 _ _ rfl (by clear hR; simp [kp, h0, h1]) (by omega) (by omega))
    · rw [h0]
      conv => whnf
      rw [enc5_and1]
      conv => whnf
      (simp at h0 h1; exact hR 2 _ _ rfl (by clear hR; simp [kp, h0, h1]) (by omega) (by omega))
  · have eb : IntKind.u8.wrap (1 * 2 ^ min ((2 : Nat) : Int).toNat IntKind.u8.bits) = 4 := by decide
    conv => whnf
    rw [eb]
    conv => whnf
    rw [enc5_and2]
    conv => whnf
    refine Bif.of (fun h0 => ?_) fun h0 => ?_
    · rw [h0]
      conv => whnf
      refine ACalls.code tabOk h26 Try.func26 Try.call26 ok26 ?_
      conv => whnf
      rw [s2]
      conv => whnf
      refine Bif.of (fun h1 => ?_) fun h1 => ?_
      · rw [h1]
        conv => whnf
        rw [enc5_not2]
        conv => whnf
        rw [enc5_and2]
        conv => whnf
        (simp at h0 h1; exact hR 3 _ _ rfl (by clear hR; simp [kp, h0, h1]) (by omega) (by omega))
      · rw [h1]
        conv => whnf
        rw [enc5_and2]
        conv => whnf
        (simp at h0; exact hR 3 _ _ rfl (by clear hR; simp [kp, h0, h1]) (by omega) (by omega))
    · rw [h0]
      conv => whnf
      rw [enc5_and2]
      conv => whnf
      (simp at h0 h1; exact hR 3 _ _ rfl (by clear hR; simp [kp, h0, h1]) (by omega) (by omega))
  · have eb : IntKind.u8.wrap (1 * 2 ^ min ((3 : Nat) : Int).toNat IntKind.u8.bits) = 8 := by decide
    conv => whnf
    rw [eb]
    conv => whnf
    rw [enc5_and3]
    conv => whnf
    refine Bif.of (fun h0 => ?_) fun h0 => ?_
    · rw [h0]
      conv => whnf
      refine ACalls.code tabOk h26 Try.func26 Try.call26 ok26 ?_
      conv => whnf
      rw [s3]
      conv => whnf
      refine Bif.of (fun h1 => ?_) fun h1 => ?_
      · rw [h1]
        conv => whnf
        rw [enc5_not3]
        conv => whnf
        rw [enc5_and3]
        conv => whnf
        (simp at h0 h1; exact hR 4 _ _ rfl (by clear hR; simp [kp, h0, h1]) (by omega) (by omega))
      · rw [h1]
        conv => whnf
        rw [enc5_and3]
        conv => whnf
        (simp at h0; exact hR 4 _ _ rfl (by clear hR; simp [kp, h0, h1]) (by omega) (by omega))
    · rw [h0]
      conv => whnf
      rw [enc5_and3]
      conv => whnf
      (simp at h0 h1; exact hR 4 _ _ rfl (by clear hR; simp [kp, h0, h1]) (by omega) (by omega))
  · have eb : IntKind.u8.wrap (1 * 2 ^ min ((4 : Nat) : Int).toNat IntKind.u8.bits) = 16 := by decide
    conv => whnf
    rw [eb]
    conv => whnf
    rw [enc5_and4]
    conv => whnf
    refine Bif.of (fun h0 => ?_) fun h0 => ?_
    · rw [h0]
      conv => whnf
      refine ACalls.code tabOk h26 Try.func26 Try.call26 ok26 ?_
      conv => whnf
      rw [s4]
      conv => whnf
      refine Bif.of (fun h1 => ?_) fun h1 => ?_
      · rw [h1]
        conv => whnf
        rw [enc5_not4]
        conv => whnf
        rw [enc5_and4]
        conv => whnf
        (simp at h0 h1; exact hR 5 _ _ rfl (by clear hR; simp [kp, h0, h1]) (by omega) (by omega))
      · rw [h1]
        conv => whnf
        rw [enc5_and4]
        conv => whnf
        (simp at h0; exact hR 5 _ _ rfl (by clear hR; simp [kp, h0, h1]) (by omega) (by omega))
    · rw [h0]
      conv => whnf
      rw [enc5_and4]
      conv => whnf
      (simp at h0 h1; exact hR 5 _ _ rfl (by clear hR; simp [kp, h0, h1]) (by omega) (by omega))
  · conv => whnf
    clear hR
    by_cases kD : c = 15
    · rw [wc]
      conv => whnf
      refine Bif.knT ?_ fun h0 => ?_
      · (simp_all; done)
      rw [h0]
      conv => whnf
      (exact ⟨by simp [MS.out, MS.acts, kp]; omega, by simp [MS.step, MS.blk, kA, kB, kC, kD, enc5_none]⟩)
    · rw [wc]
      conv => whnf
      refine Bif.knF ?_ fun h0 => ?_
      · (simp_all; omega)
      rw [h0]
      conv => whnf
      (exact ⟨by simp [MS.out, MS.acts, kp]; omega, by simp [MS.step, MS.blk, kA, kB, kC, kD, kp]⟩)
end Go.Proofs
