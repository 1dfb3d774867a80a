/-
  Walks through the functions of the program, by contract.
-/
import Derived.Test.YtimihamgemboeaaMotion2F
set_option linter.all false
set_option linter.unusedVariables false
set_option linter.unusedSimpArgs false
set_option linter.unnecessarySimpa false
namespace Go.Proofs
open Go.Aw
set_option maxRecDepth 100000
set_option maxHeartbeats 4000000

def outsV (s : MS) (clock t0 t1 t2 t3 t4 : Int) : Value := .agg #[.bool (MS.out s clock s.m0 t0), .bool (MS.out s clock s.m1 t1), .bool (MS.out s clock s.m2 t2), .bool (MS.out s clock s.m3 t3), .bool (MS.out s clock s.m4 t4)]

theorem ref17_step (c g clock n0 n1 n2 n3 n4 : Int) (m0 m1 m2 m3 m4 : Bool) (hc : 0 ≤ c ∧ c ≤ 16) (hg : 0 ≤ g ∧ g ≤ 3) (b0 : 0 ≤ n0 ∧ n0 ≤ 255) (b1 : 0 ≤ n1 ∧ n1 ≤ 255) (b2 : 0 ≤ n2 ∧ n2 ≤ 255) (b3 : 0 ≤ n3 ∧ n3 ≤ 255) (b4 : 0 ≤ n4 ∧ n4 ≤ 255) :
    ACalls Try.prog 21 [.agg #[.int .i64 c, .int .i64 g, .bool m0, .bool m1, .bool m2, .bool m3, .bool m4], .int .i64 clock, .agg #[.int .u8 n0, .int .u8 n1, .int .u8 n2, .int .u8 n3, .int .u8 n4]] []
      fun r H => r = .tuple #[(MS.step ⟨c, g, m0, m1, m2, m3, m4⟩ clock (stopI n0) (stopI n1) (stopI n2) (stopI n3) (stopI n4)).cells, outsV ⟨c, g, m0, m1, m2, m3, m4⟩ clock (stopI n0) (stopI n1) (stopI n2) (stopI n3) (stopI n4)] ∧ H = [] := by
  have x0 : IntKind.i64.wrap n0 = n0 := wrap64 (by omega) (by omega)
  have x1 : IntKind.i64.wrap n1 = n1 := wrap64 (by omega) (by omega)
  have x2 : IntKind.i64.wrap n2 = n2 := wrap64 (by omega) (by omega)
  have x3 : IntKind.i64.wrap n3 = n3 := wrap64 (by omega) (by omega)
  have x4 : IntKind.i64.wrap n4 = n4 := wrap64 (by omega) (by omega)
  have wc : IntKind.i64.wrap (c + 1) = c + 1 := wrap64 (by omega) (by omega)
  have wg : IntKind.i64.wrap (g + 1) = g + 1 := wrap64 (by omega) (by omega)
  have hcl : clock.tmod 4 = 0 ↔ clock % 4 = 0 := by rw [Int.tmod_eq_emod]; split <;> omega
  by_cases kA : 16 ≤ c
  · refine ACalls.code tabOk h21 Try.func21 Try.call21 ok21 ?_
    conv => whnf
    refine Bif.knT ?_ fun h0 => ?_
    · (simp; omega)
    rw [h0]
    conv => whnf
    refine ⟨rfl, ?_⟩
    conv => whnf
    (exact ⟨by simp [outsV, MS.out, MS.acts, MS.step, MS.cells, kA]; omega, rfl⟩)
  by_cases kB : g < 3
  · refine ACalls.code tabOk h21 Try.func21 Try.call21 ok21 ?_
    conv => whnf
    refine Bif.knF ?_ fun h0 => ?_
    · (simp; omega)
    rw [h0]
    conv => whnf
    refine Bif.knT ?_ fun h1 => ?_
    · (simp; omega)
    rw [h1]
    conv => whnf
    refine ⟨rfl, ?_⟩
    conv => whnf
    (rw [wg]; exact ⟨by simp [outsV, MS.out, MS.acts, MS.step, MS.cells, kA, kB]; omega, rfl⟩)
  by_cases kC : clock % 4 = 0
  case neg =>
    refine ACalls.code tabOk h21 Try.func21 Try.call21 ok21 ?_
    conv => whnf
    refine Bif.knF ?_ fun h0 => ?_
    · (simp; omega)
    rw [h0]
    conv => whnf
    refine Bif.knF ?_ fun h1 => ?_
    · (simp; omega)
    rw [h1]
    conv => whnf
    refine Bif.knT ?_ fun h2 => ?_
    · (simp; omega)
    rw [h2]
    conv => whnf
    refine ⟨rfl, ?_⟩
    conv => whnf
    (exact ⟨by simp [outsV, MS.out, MS.acts, MS.step, MS.cells, kA, kB, kC], rfl⟩)
  refine ACalls.code tabOk h21 Try.func21 Try.call21 ok21 ?_
  conv => whnf
  refine Bif.knF ?_ fun h0 => ?_
  · (simp; omega)
  rw [h0]
  conv => whnf
  refine Bif.knF ?_ fun h1 => ?_
  · (simp; omega)
  rw [h1]
  conv => whnf
  refine Bif.knF ?_ fun h2 => ?_
  · (simp; omega)
  rw [h2]
  conv => whnf
  refine ALoop.fd (σ := Nat) (fun i : Nat => [.chan none, .chan none, .chan none, .pointer (some ⟨0, 0, none⟩), .chan none, .pointer (some ⟨1, 0, none⟩), .pointer (some ⟨2, 0, none⟩), .pointer (some ⟨3, 0, none⟩), .pointer (some ⟨4, 0, none⟩), .int .i64 i, .chan none, .chan none, .chan none, .chan none, .chan none, .chan none, .chan none, .chan none, .chan none, .chan none, .chan none, .chan none, .chan none, .chan none, .chan none, .chan none, .chan none, .chan none, .chan none, .chan none, .chan none, .chan none, .chan none, .chan none, .chan none, .chan none, .chan none, .chan none, .chan none, .chan none, .chan none, .chan none, .chan none, .chan none, .chan none, .chan none, .chan none, .chan none, .chan none, .chan none, .chan none, .chan none, .chan none, .chan none, .chan none, .chan none, .chan none, .chan none, .chan none, .chan none, .chan none, .chan none, .chan none, .chan none, .chan none, .chan none, .chan none]) (fun i => [.cells [.int .i64 c, .int .i64 g, .bool (if 0 < i then kp m0 (stopI n0) c else m0), .bool (if 1 < i then kp m1 (stopI n1) c else m1), .bool (if 2 < i then kp m2 (stopI n2) c else m2), .bool (if 3 < i then kp m3 (stopI n3) c else m3), .bool (if 4 < i then kp m4 (stopI n4) c else m4)] 36,
      .cells [.int .u8 n0, .int .u8 n1, .int .u8 n2, .int .u8 n3, .int .u8 n4] 26, .cells [.int .i64 0, .int .i64 0, .bool false, .bool false, .bool false, .bool false, .bool false] 36,
      .cells [.bool false, .bool false, .bool false, .bool false, .bool false] 30, .cells [.bool (if 0 < i then kp m0 (stopI n0) c else false), .bool (if 1 < i then kp m1 (stopI n1) c else false), .bool (if 2 < i then kp m2 (stopI n2) c else false), .bool (if 3 < i then kp m3 (stopI n3) c else false), .bool (if 4 < i then kp m4 (stopI n4) c else false)] 30]) (fun i => i ≤ 5) (fun i => 5 - i) 0 [] rfl rfl (by omega) (fun _ => ⟨rfl, rfl, rfl, rfl⟩) ?_
  intro i hi R hR
  have hi' : i = 0 ∨ i = 1 ∨ i = 2 ∨ i = 3 ∨ i = 4 ∨ i = 5 := by omega
  rcases hi' with rfl | rfl | rfl | rfl | rfl | rfl

  · conv => whnf
    refine Bif.of (fun h0 => ?_) fun h0 => ?_
    · rw [h0]
      conv => whnf
      refine ACalls.useE (ref_stop _ ?_) [] rfl (by (conv => whnf); try rfl) (by (conv => whnf); try rfl) ?_
      · omega
      conv => whnf
      rw [x0]
      conv => whnf
      refine ⟨rfl, ?_⟩
      conv => whnf
      (simp at h0; exact hR 1 _ _ [] rfl (by clear hR; simp [kp, h0, bne]) (by omega) (by omega))
    · rw [h0]
      conv => whnf
      (simp at h0; exact hR 1 _ _ [] rfl (by clear hR; simp [kp, h0, bne]) (by omega) (by omega))
  · conv => whnf
    refine Bif.of (fun h0 => ?_) fun h0 => ?_
    · rw [h0]
      conv => whnf
      refine ACalls.useE (ref_stop _ ?_) [] rfl (by (conv => whnf); try rfl) (by (conv => whnf); try rfl) ?_
      · omega
      conv => whnf
      rw [x1]
      conv => whnf
      refine ⟨rfl, ?_⟩
      conv => whnf
      (simp at h0; exact hR 2 _ _ [] rfl (by clear hR; simp [kp, h0, bne]) (by omega) (by omega))
    · rw [h0]
      conv => whnf
      (simp at h0; exact hR 2 _ _ [] rfl (by clear hR; simp [kp, h0, bne]) (by omega) (by omega))
  · conv => whnf
    refine Bif.of (fun h0 => ?_) fun h0 => ?_
    · rw [h0]
      conv => whnf
      refine ACalls.useE (ref_stop _ ?_) [] rfl (by (conv => whnf); try rfl) (by (conv => whnf); try rfl) ?_
      · omega
      conv => whnf
      rw [x2]
      conv => whnf
      refine ⟨rfl, ?_⟩
      conv => whnf
      (simp at h0; exact hR 3 _ _ [] rfl (by clear hR; simp [kp, h0, bne]) (by omega) (by omega))
    · rw [h0]
      conv => whnf
      (simp at h0; exact hR 3 _ _ [] rfl (by clear hR; simp [kp, h0, bne]) (by omega) (by omega))
  · conv => whnf
    refine Bif.of (fun h0 => ?_) fun h0 => ?_
    · rw [h0]
      conv => whnf
      refine ACalls.useE (ref_stop _ ?_) [] rfl (by (conv => whnf); try rfl) (by (conv => whnf); try rfl) ?_
      · omega
      conv => whnf
      rw [x3]
      conv => whnf
      refine ⟨rfl, ?_⟩
      conv => whnf
      (simp at h0; exact hR 4 _ _ [] rfl (by clear hR; simp [kp, h0, bne]) (by omega) (by omega))
    · rw [h0]
      conv => whnf
      (simp at h0; exact hR 4 _ _ [] rfl (by clear hR; simp [kp, h0, bne]) (by omega) (by omega))
  · conv => whnf
    refine Bif.of (fun h0 => ?_) fun h0 => ?_
    · rw [h0]
      conv => whnf
      refine ACalls.useE (ref_stop _ ?_) [] rfl (by (conv => whnf); try rfl) (by (conv => whnf); try rfl) ?_
      · omega
      conv => whnf
      rw [x4]
      conv => whnf
      refine ⟨rfl, ?_⟩
      conv => whnf
      (simp at h0; exact hR 5 _ _ [] rfl (by clear hR; simp [kp, h0, bne]) (by omega) (by omega))
    · rw [h0]
      conv => whnf
      (simp at h0; exact hR 5 _ _ [] rfl (by clear hR; simp [kp, h0, bne]) (by omega) (by omega))
  · conv => whnf
    clear hR
    by_cases kD : c = 15
    · rw [wc]
      conv => whnf
      refine Bif.knT ?_ fun h0 => ?_
      · (simp; omega)
      rw [h0]
      conv => whnf
      refine ACalls.useE (ref17_new) [] rfl (by (conv => whnf); try rfl) (by (conv => whnf); try rfl) ?_
      conv => whnf
      refine ⟨rfl, ?_⟩
      conv => whnf
      refine ⟨rfl, ?_⟩
      conv => whnf
      (exact ⟨by simp [outsV, MS.out, MS.acts, kp, MS.step, MS.cells, kA, kB, kC, kD]; omega, rfl⟩)
    · rw [wc]
      conv => whnf
      refine Bif.knF ?_ fun h0 => ?_
      · (simp; omega)
      rw [h0]
      conv => whnf
      refine ⟨rfl, ?_⟩
      conv => whnf
      (exact ⟨by simp [outsV, MS.out, MS.acts, kp, MS.step, MS.cells, kA, kB, kC, kD]; omega, rfl⟩)

theorem ref17_words (c g : Int) (m0 m1 m2 m3 m4 : Bool) : ACalls Try.prog 23 [.agg #[.int .i64 c, .int .i64 g, .bool m0, .bool m1, .bool m2, .bool m3, .bool m4]] [] fun r H => r = MS.words ⟨c, g, m0, m1, m2, m3, m4⟩ ∧ H = [] := by
  refine ACalls.code tabOk h23 Try.func23 Try.call23 ok23 ?_
  conv => whnf

  refine ALoop.fd (σ := Nat) (fun i : Nat => [.chan none, .pointer (some ⟨0, 0, none⟩), .pointer (some ⟨1, 0, none⟩), .pointer (some ⟨2, 0, none⟩), .int .i64 (2 ^ i), .int .i64 i, .chan none, .chan none, .chan none, .chan none, .chan none, .chan none, .chan none, .chan none, .chan none, .chan none, .chan none, .chan none, .chan none, .chan none, .chan none, .chan none, .chan none, .chan none, .chan none, .chan none, .chan none]) (fun i => [.cells [.int .i64 c, .int .i64 g, .bool m0, .bool m1, .bool m2, .bool m3, .bool m4] 36, .cells [.int .i64 0, .int .i64 0, .int .i64 0] 38,
     .cells [.int .i64 c, .int .i64 g, .int .i64 (enc5 (if 0 < i then m0 else false) (if 1 < i then m1 else false) (if 2 < i then m2 else false) (if 3 < i then m3 else false) (if 4 < i then m4 else false))] 38]) (fun i => i ≤ 5) (fun i => 5 - i) 0 [] rfl (by unfold enc5; rfl) (by omega) (fun _ => ⟨rfl, rfl, rfl, rfl⟩) ?_
  intro i hi R hR
  have hi' : i = 0 ∨ i = 1 ∨ i = 2 ∨ i = 3 ∨ i = 4 ∨ i = 5 := by omega
  rcases hi' with rfl | rfl | rfl | rfl | rfl | rfl

  · conv => whnf
    refine Bif.of (fun h0 => ?_) fun h0 => ?_
    · rw [h0]
      conv => whnf
      (exact hR 1 _ _ [] rfl (by clear hR; unfold enc5; cases m0 <;> cases m1 <;> cases m2 <;> cases m3 <;> cases m4 <;> first | rfl | cases h0) (by omega) (by omega))
    · rw [h0]
      conv => whnf
      (exact hR 1 _ _ [] rfl (by clear hR; unfold enc5; cases m0 <;> cases m1 <;> cases m2 <;> cases m3 <;> cases m4 <;> first | rfl | cases h0) (by omega) (by omega))
  · conv => whnf
    refine Bif.of (fun h0 => ?_) fun h0 => ?_
    · rw [h0]
      conv => whnf
      (exact hR 2 _ _ [] rfl (by clear hR; unfold enc5; cases m0 <;> cases m1 <;> cases m2 <;> cases m3 <;> cases m4 <;> first | rfl | cases h0) (by omega) (by omega))
    · rw [h0]
      conv => whnf
      (exact hR 2 _ _ [] rfl (by clear hR; unfold enc5; cases m0 <;> cases m1 <;> cases m2 <;> cases m3 <;> cases m4 <;> first | rfl | cases h0) (by omega) (by omega))
  · conv => whnf
    refine Bif.of (fun h0 => ?_) fun h0 => ?_
    · rw [h0]
      conv => whnf
      (exact hR 3 _ _ [] rfl (by clear hR; unfold enc5; cases m0 <;> cases m1 <;> cases m2 <;> cases m3 <;> cases m4 <;> first | rfl | cases h0) (by omega) (by omega))
    · rw [h0]
      conv => whnf
      (exact hR 3 _ _ [] rfl (by clear hR; unfold enc5; cases m0 <;> cases m1 <;> cases m2 <;> cases m3 <;> cases m4 <;> first | rfl | cases h0) (by omega) (by omega))
  · conv => whnf
    refine Bif.of (fun h0 => ?_) fun h0 => ?_
    · rw [h0]
      conv => whnf
      (exact hR 4 _ _ [] rfl (by clear hR; unfold enc5; cases m0 <;> cases m1 <;> cases m2 <;> cases m3 <;> cases m4 <;> first | rfl | cases h0) (by omega) (by omega))
    · rw [h0]
      conv => whnf
      (exact hR 4 _ _ [] rfl (by clear hR; unfold enc5; cases m0 <;> cases m1 <;> cases m2 <;> cases m3 <;> cases m4 <;> first | rfl | cases h0) (by omega) (by omega))
  · conv => whnf
    refine Bif.of (fun h0 => ?_) fun h0 => ?_
    · rw [h0]
      conv => whnf
      (exact hR 5 _ _ [] rfl (by clear hR; unfold enc5; cases m0 <;> cases m1 <;> cases m2 <;> cases m3 <;> cases m4 <;> first | rfl | cases h0) (by omega) (by omega))
    · rw [h0]
      conv => whnf
      (exact hR 5 _ _ [] rfl (by clear hR; unfold enc5; cases m0 <;> cases m1 <;> cases m2 <;> cases m3 <;> cases m4 <;> first | rfl | cases h0) (by omega) (by omega))
  · conv => whnf
    exact ⟨rfl, rfl⟩
end Go.Proofs
