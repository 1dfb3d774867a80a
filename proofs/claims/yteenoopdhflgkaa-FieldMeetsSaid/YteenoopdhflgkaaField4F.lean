/-
  Walks through the functions of the program, by contract.
-/
import Derived.Test.YteenoopdhflgkaaField2F
set_option linter.all false
set_option linter.unusedVariables false
set_option linter.unusedSimpArgs false
set_option linter.unnecessarySimpa false
namespace Go.Proofs
open Go.Aw
set_option maxRecDepth 100000
set_option maxHeartbeats 8000000

def b01 (b : Bool) : Int := if b then 1 else 0
def cntD (d0 d1 d2 d3 d4 d5 : Bool) : Nat → Int
  | 0 => 0
  | 1 => b01 d0
  | 2 => b01 d0 + b01 d1
  | 3 => b01 d0 + b01 d1 + b01 d2
  | 4 => b01 d0 + b01 d1 + b01 d2 + b01 d3
  | 5 => b01 d0 + b01 d1 + b01 d2 + b01 d3 + b01 d4
  | _ => b01 d0 + b01 d1 + b01 d2 + b01 d3 + b01 d4 + b01 d5
theorem b01_bd (b : Bool) : 0 ≤ b01 b ∧ b01 b ≤ 1 := by cases b <;> decide
theorem more_meets : ∀ d0 d1 d2 d3 d4 d5 m0 m1 m2 m3 m4 m5 : Bool, (bits .andNot .u16 (meetN d0 d1 d2 d3 d4 d5 15) (meetN (d0 || m0) (d1 || m1) (d2 || m2) (d3 || m3) (d4 || m4) (d5 || m5) 15) == 0) = true := by decide +kernel
theorem two_meet : ∀ d0 d1 d2 d3 d4 d5 : Bool, (meetN d0 d1 d2 d3 d4 d5 15 == 0) = decide (cntD d0 d1 d2 d3 d4 d5 6 < 2) := by decide +kernel

theorem walk_FieldMeets (d0 d1 d2 d3 d4 d5 m0 m1 m2 m3 m4 m5 : Bool) : ACalls Try.prog 5 [.agg #[.bool d0, .bool d1, .bool d2, .bool d3, .bool d4, .bool d5], .agg #[.bool m0, .bool m1, .bool m2, .bool m3, .bool m4, .bool m5]] [] fun v _ => v = .bool true := by
  have x1 := more_meets d0 d1 d2 d3 d4 d5 m0 m1 m2 m3 m4 m5
  have x2 := two_meet d0 d1 d2 d3 d4 d5
  refine ACalls.code tabOk h5 Try.func5 Try.call5 ok5 ?_
  conv => whnf
  refine ACalls.useE (field_meet _ _ _ _ _ _) [] rfl (by (conv => whnf); try rfl) (by (conv => whnf); try rfl) ?_
  conv => whnf
  refine ALoop.fd (σ := Nat × Int) (fun q => [.chan none, .chan none, .pointer (some ⟨0, 0, none⟩), .pointer (some ⟨1, 0, none⟩), .bool false, .int .u16 (meetN d0 d1 d2 d3 d4 d5 15), .int .i64 q.2, .pointer (some ⟨2, 0, none⟩), .int .i64 q.1, .chan none, .chan none, .chan none, .chan none, .chan none, .chan none, .chan none, .chan none, .chan none, .chan none, .chan none, .chan none, .chan none, .chan none, .chan none, .chan none, .chan none, .chan none, .chan none, .chan none, .chan none, .chan none, .chan none, .chan none, .chan none, .chan none, .chan none, .chan none, .chan none, .chan none, .chan none, .chan none, .chan none, .chan none, .chan none, .chan none, .chan none, .chan none, .chan none]) (fun q => [.cells [.bool d0, .bool d1, .bool d2, .bool d3, .bool d4, .bool d5] 27, .cells [.bool m0, .bool m1, .bool m2, .bool m3, .bool m4, .bool m5] 27,
    .cells [.bool (if 0 < q.1 then d0 || m0 else d0), .bool (if 1 < q.1 then d1 || m1 else d1), .bool (if 2 < q.1 then d2 || m2 else d2), .bool (if 3 < q.1 then d3 || m3 else d3), .bool (if 4 < q.1 then d4 || m4 else d4), .bool (if 5 < q.1 then d5 || m5 else d5)] 27])
    (fun q => q.1 ≤ 6 ∧ q.2 = cntD d0 d1 d2 d3 d4 d5 q.1) (fun q => 6 - q.1) (0, 0) [] rfl rfl ⟨Nat.zero_le _, rfl⟩ (fun _ => ⟨rfl, rfl, rfl, rfl⟩) ?_
  rintro ⟨i, o⟩ ⟨hi, ho⟩ R hR
  dsimp only at hi ho
  have c0 := b01_bd d0
  have c1 := b01_bd d1
  have c2 := b01_bd d2
  have c3 := b01_bd d3
  have c4 := b01_bd d4
  have c5 := b01_bd d5
  have hi' : i = 0 ∨ i = 1 ∨ i = 2 ∨ i = 3 ∨ i = 4 ∨ i = 5 ∨ i = 6 := by omega
  rcases hi' with rfl | rfl | rfl | rfl | rfl | rfl | rfl

  · clear x1 x2
    simp only [cntD] at ho
    have ew : IntKind.i64.wrap (o + 1) = o + 1 := wrap64 (by omega) (by omega)
    cases d0 with
    | true =>
      conv => whnf
      (exact hR (1, IntKind.i64.wrap (o + 1)) _ _ _ rfl rfl ⟨(by show 1 ≤ 6; decide), (by show IntKind.i64.wrap (o + 1) = cntD _ _ _ _ _ _ 1; rw [ew, ho]; simp [cntD, b01])⟩ (by show 6 - 1 < 6 - 0; decide))
    | false =>
      conv => whnf
      (exact hR (1, o) _ _ _ rfl rfl ⟨(by show 1 ≤ 6; decide), (by show o = cntD _ _ _ _ _ _ 1; rw [ho]; simp [cntD, b01])⟩ (by show 6 - 1 < 6 - 0; decide))
  · clear x1 x2
    simp only [cntD] at ho
    have ew : IntKind.i64.wrap (o + 1) = o + 1 := wrap64 (by omega) (by omega)
    cases d1 with
    | true =>
      conv => whnf
      (exact hR (2, IntKind.i64.wrap (o + 1)) _ _ _ rfl rfl ⟨(by show 2 ≤ 6; decide), (by show IntKind.i64.wrap (o + 1) = cntD _ _ _ _ _ _ 2; rw [ew, ho]; simp [cntD, b01])⟩ (by show 6 - 2 < 6 - 1; decide))
    | false =>
      conv => whnf
      (exact hR (2, o) _ _ _ rfl rfl ⟨(by show 2 ≤ 6; decide), (by show o = cntD _ _ _ _ _ _ 2; rw [ho]; simp [cntD, b01])⟩ (by show 6 - 2 < 6 - 1; decide))
  · clear x1 x2
    simp only [cntD] at ho
    have ew : IntKind.i64.wrap (o + 1) = o + 1 := wrap64 (by omega) (by omega)
    cases d2 with
    | true =>
      conv => whnf
      (exact hR (3, IntKind.i64.wrap (o + 1)) _ _ _ rfl rfl ⟨(by show 3 ≤ 6; decide), (by show IntKind.i64.wrap (o + 1) = cntD _ _ _ _ _ _ 3; rw [ew, ho]; simp [cntD, b01])⟩ (by show 6 - 3 < 6 - 2; decide))
    | false =>
      conv => whnf
      (exact hR (3, o) _ _ _ rfl rfl ⟨(by show 3 ≤ 6; decide), (by show o = cntD _ _ _ _ _ _ 3; rw [ho]; simp [cntD, b01])⟩ (by show 6 - 3 < 6 - 2; decide))
  · clear x1 x2
    simp only [cntD] at ho
    have ew : IntKind.i64.wrap (o + 1) = o + 1 := wrap64 (by omega) (by omega)
    cases d3 with
    | true =>
      conv => whnf
      (exact hR (4, IntKind.i64.wrap (o + 1)) _ _ _ rfl rfl ⟨(by show 4 ≤ 6; decide), (by show IntKind.i64.wrap (o + 1) = cntD _ _ _ _ _ _ 4; rw [ew, ho]; simp [cntD, b01])⟩ (by show 6 - 4 < 6 - 3; decide))
    | false =>
      conv => whnf
      (exact hR (4, o) _ _ _ rfl rfl ⟨(by show 4 ≤ 6; decide), (by show o = cntD _ _ _ _ _ _ 4; rw [ho]; simp [cntD, b01])⟩ (by show 6 - 4 < 6 - 3; decide))
  · clear x1 x2
    simp only [cntD] at ho
    have ew : IntKind.i64.wrap (o + 1) = o + 1 := wrap64 (by omega) (by omega)
    cases d4 with
    | true =>
      conv => whnf
      (exact hR (5, IntKind.i64.wrap (o + 1)) _ _ _ rfl rfl ⟨(by show 5 ≤ 6; decide), (by show IntKind.i64.wrap (o + 1) = cntD _ _ _ _ _ _ 5; rw [ew, ho]; simp [cntD, b01])⟩ (by show 6 - 5 < 6 - 4; decide))
    | false =>
      conv => whnf
      (exact hR (5, o) _ _ _ rfl rfl ⟨(by show 5 ≤ 6; decide), (by show o = cntD _ _ _ _ _ _ 5; rw [ho]; simp [cntD, b01])⟩ (by show 6 - 5 < 6 - 4; decide))
  · clear x1 x2
    simp only [cntD] at ho
    have ew : IntKind.i64.wrap (o + 1) = o + 1 := wrap64 (by omega) (by omega)
    cases d5 with
    | true =>
      conv => whnf
      (exact hR (6, IntKind.i64.wrap (o + 1)) _ _ _ rfl rfl ⟨(by show 6 ≤ 6; decide), (by show IntKind.i64.wrap (o + 1) = cntD _ _ _ _ _ _ 6; rw [ew, ho]; simp [cntD, b01])⟩ (by show 6 - 6 < 6 - 5; decide))
    | false =>
      conv => whnf
      (exact hR (6, o) _ _ _ rfl rfl ⟨(by show 6 ≤ 6; decide), (by show o = cntD _ _ _ _ _ _ 6; rw [ho]; simp [cntD, b01])⟩ (by show 6 - 6 < 6 - 5; decide))
  · conv => whnf
    clear hR
    refine ACalls.useE (field_meet _ _ _ _ _ _) [] rfl (by (conv => whnf); try rfl) (by (conv => whnf); try rfl) ?_
    conv => whnf
    refine Bif.knT ?_ fun h0 => ?_
    · exact x1
    rw [h0]
    conv => whnf
    refine Bif.knT ?_ fun h1 => ?_
    · (rw [x2, ho]; exact beq_self_eq_true _)
    rw [h1]
    conv => whnf
    refine ACalls.useE (awake18) [] rfl (by (conv => whnf); try rfl) (by (conv => whnf); try rfl) ?_
    conv => whnf
end Go.Proofs
