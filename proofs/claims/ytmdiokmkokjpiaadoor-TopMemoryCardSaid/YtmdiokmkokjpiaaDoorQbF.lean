/-
  Sums, shifts and comparisons, the greater ones.
-/
import Derived.Test.YtmdiokmkokjpiaaDoorQaF
set_option linter.all false
set_option linter.unusedVariables false
set_option linter.unusedSimpArgs false
set_option linter.unnecessarySimpa false
set_option linter.unusedSectionVars false
namespace Go.Proofs
open Go.Aw
variable [Base]
set_option maxRecDepth 100000
set_option maxHeartbeats 8000000
attribute [local irreducible] setF Go.Proofs.oneF markF overF binT binQ
def digH (b : Int) : Int := IntKind.i64.wrap (bits .and .u8 b 240)
def digL (b : Int) : Int := IntKind.i64.wrap (bits .and .u8 b 15)
theorem alu_digits (b : Int) : ACalls Tryd.prog 59 [.int .u8 b] [] fun r H => r = .agg #[.int .i64 (digH b), .int .i64 (digL b)] ∧ H = [] := by
  refine ACalls.code tabOk h59 Tryd.func59 Tryd.call59 ok59 ?_
  conv => whnf
  exact ⟨rfl, rfl⟩
def adL0 (a m p : Int) : Int := IntKind.i64.wrap (IntKind.i64.wrap (digL a + digL m) + IntKind.i64.wrap (bits .and .u8 p 1))
def adL (a m p : Int) : Int := if decide (adL0 a m p > 9) = true then IntKind.i64.wrap (bits .and .i64 (IntKind.i64.wrap (adL0 a m p + 6)) 15 + 16) else adL0 a m p
def adT (a m p : Int) : Int := IntKind.i64.wrap (IntKind.i64.wrap (digH a + digH m) + adL a m p)
def adQ (a m p : Int) : Int := setF (setF (binQ a m p) 128 (bits .and .i64 (adT a m p) 128)) 64 (overF a m (adT a m p))
def adU (a m p : Int) : Int := if decide (adT a m p ≥ 160) = true then IntKind.i64.wrap (adT a m p + 96) else adT a m p
def addV (a m p : Int) : Int := if (bits .and .u8 p 8 == 0) = true then IntKind.u8.wrap (binT a m p) else IntKind.u8.wrap (adU a m p)
def addQ (a m p : Int) : Int := if (bits .and .u8 p 8 == 0) = true then binQ a m p else setF (adQ a m p) 1 (Go.Proofs.oneF (decide (adU a m p > 255)))
theorem alu_add (a m p : Int) : ACalls Tryd.prog 53 [.int .u8 a, .int .u8 m, .int .u8 p] [] fun r H => r = .tuple #[.int .u8 (addV a m p), .int .u8 (addQ a m p)] ∧ H = [] := by
  unfold addV addQ adQ adU adT adL adL0
  refine ACalls.code tabOk h53 Tryd.func53 Tryd.call53 ok53 ?_
  conv => whnf
  refine ACalls.useE (alu_binary _ _ _) [] rfl (by (conv => whnf); try rfl) (by (conv => whnf); try rfl) ?_
  conv => whnf
  refine Bif.of (fun h0 => ?_) fun h0 => ?_
  · conv => whnf
    (simp only [*, reduceIte, Bool.false_eq_true, and_self]; done)
  · conv => whnf
    refine ACalls.useE (alu_digits _) [] rfl (by (conv => whnf); try rfl) (by (conv => whnf); try rfl) ?_
    conv => whnf
    refine ACalls.useE (alu_digits _) [] rfl (by (conv => whnf); try rfl) (by (conv => whnf); try rfl) ?_
    conv => whnf
    refine Bif.of (fun h1 => ?_) fun h1 => ?_
    · conv => whnf
      refine ACalls.useE (alu_setI _ _ _) [] rfl (by (conv => whnf); try rfl) (by (conv => whnf); try rfl) ?_
      conv => whnf
      refine ACalls.useE (alu_over _ _ _) [] rfl (by (conv => whnf); try rfl) (by (conv => whnf); try rfl) ?_
      conv => whnf
      refine ACalls.useE (alu_setI _ _ _) [] rfl (by (conv => whnf); try rfl) (by (conv => whnf); try rfl) ?_
      conv => whnf
      refine Bif.of (fun h2 => ?_) fun h2 => ?_
      · conv => whnf
        refine ACalls.useE (alu_one _) [] rfl (by (conv => whnf); try rfl) (by (conv => whnf); try rfl) ?_
        conv => whnf
        refine ACalls.useE (alu_setI _ _ _) [] rfl (by (conv => whnf); try rfl) (by (conv => whnf); try rfl) ?_
        conv => whnf
        (simp only [*, reduceIte, Bool.false_eq_true, and_self]; done)
      · conv => whnf
        refine ACalls.useE (alu_one _) [] rfl (by (conv => whnf); try rfl) (by (conv => whnf); try rfl) ?_
        conv => whnf
        refine ACalls.useE (alu_setI _ _ _) [] rfl (by (conv => whnf); try rfl) (by (conv => whnf); try rfl) ?_
        conv => whnf
        (simp only [*, reduceIte, Bool.false_eq_true, and_self]; done)
    · conv => whnf
      refine ACalls.useE (alu_setI _ _ _) [] rfl (by (conv => whnf); try rfl) (by (conv => whnf); try rfl) ?_
      conv => whnf
      refine ACalls.useE (alu_over _ _ _) [] rfl (by (conv => whnf); try rfl) (by (conv => whnf); try rfl) ?_
      conv => whnf
      refine ACalls.useE (alu_setI _ _ _) [] rfl (by (conv => whnf); try rfl) (by (conv => whnf); try rfl) ?_
      conv => whnf
      refine Bif.of (fun h3 => ?_) fun h3 => ?_
      · conv => whnf
        refine ACalls.useE (alu_one _) [] rfl (by (conv => whnf); try rfl) (by (conv => whnf); try rfl) ?_
        conv => whnf
        refine ACalls.useE (alu_setI _ _ _) [] rfl (by (conv => whnf); try rfl) (by (conv => whnf); try rfl) ?_
        conv => whnf
        (simp only [*, reduceIte, Bool.false_eq_true, and_self]; done)
      · conv => whnf
        refine ACalls.useE (alu_one _) [] rfl (by (conv => whnf); try rfl) (by (conv => whnf); try rfl) ?_
        conv => whnf
        refine ACalls.useE (alu_setI _ _ _) [] rfl (by (conv => whnf); try rfl) (by (conv => whnf); try rfl) ?_
        conv => whnf
        (simp only [*, reduceIte, Bool.false_eq_true, and_self]; done)
def notF (m : Int) : Int := bits .xor .u8 (if IntKind.u8.signed = true then -1 else IntKind.u8.max) m
def sbL0 (a m p : Int) : Int := IntKind.i64.wrap (IntKind.i64.wrap (digL a - digL m) - IntKind.i64.wrap (bits .and .u8 (notF p) 1))
def sbL (a m p : Int) : Int := if decide (sbL0 a m p < 0) = true then IntKind.i64.wrap (bits .and .i64 (IntKind.i64.wrap (sbL0 a m p - 6)) 15 - 16) else sbL0 a m p
def sbT (a m p : Int) : Int := IntKind.i64.wrap (IntKind.i64.wrap (digH a - digH m) + sbL a m p)
def sbU (a m p : Int) : Int := if decide (sbT a m p < 0) = true then IntKind.i64.wrap (sbT a m p - 96) else sbT a m p
def subV (a m p : Int) : Int := if (bits .and .u8 p 8 == 0) = true then IntKind.u8.wrap (binT a (notF m) p) else IntKind.u8.wrap (sbU a m p)
theorem alu_sub (a m p : Int) : ACalls Tryd.prog 54 [.int .u8 a, .int .u8 m, .int .u8 p] [] fun r H => r = .tuple #[.int .u8 (subV a m p), .int .u8 (binQ a (notF m) p)] ∧ H = [] := by
  unfold subV sbU sbT sbL sbL0 notF
  refine ACalls.code tabOk h54 Tryd.func54 Tryd.call54 ok54 ?_
  conv => whnf
  refine ACalls.useE (alu_binary _ _ _) [] rfl (by (conv => whnf); try rfl) (by (conv => whnf); try rfl) ?_
  conv => whnf
  refine Bif.of (fun h0 => ?_) fun h0 => ?_
  · conv => whnf
    (simp only [*, reduceIte, Bool.false_eq_true, and_self]; done)
  · conv => whnf
    refine ACalls.useE (alu_digits _) [] rfl (by (conv => whnf); try rfl) (by (conv => whnf); try rfl) ?_
    conv => whnf
    refine ACalls.useE (alu_digits _) [] rfl (by (conv => whnf); try rfl) (by (conv => whnf); try rfl) ?_
    conv => whnf
    refine Bif.of (fun h1 => ?_) fun h1 => ?_
    · conv => whnf
      refine Bif.of (fun h2 => ?_) fun h2 => ?_
      · conv => whnf
        (simp only [*, reduceIte, Bool.false_eq_true, and_self]; done)
      · conv => whnf
        (simp only [*, reduceIte, Bool.false_eq_true, and_self]; done)
    · conv => whnf
      refine Bif.of (fun h3 => ?_) fun h3 => ?_
      · conv => whnf
        (simp only [*, reduceIte, Bool.false_eq_true, and_self]; done)
      · conv => whnf
        (simp only [*, reduceIte, Bool.false_eq_true, and_self]; done)
def cmpF (a m p : Int) : Int := setF (markF p (IntKind.u8.wrap (a - m))) 1 (Go.Proofs.oneF (decide (a ≥ m)))
theorem alu_compare (a m p : Int) : ACalls Tryd.prog 55 [.int .u8 a, .int .u8 m, .int .u8 p] [] fun r H => r = .int .u8 (cmpF a m p) ∧ H = [] := by
  refine ACalls.code tabOk h55 Tryd.func55 Tryd.call55 ok55 ?_
  conv => whnf
  refine ACalls.useE (alu_mark _ _) [] rfl (by (conv => whnf); try rfl) (by (conv => whnf); try rfl) ?_
  conv => whnf
  refine ACalls.useE (alu_one _) [] rfl (by (conv => whnf); try rfl) (by (conv => whnf); try rfl) ?_
  conv => whnf
  refine ACalls.useE (alu_setI _ _ _) [] rfl (by (conv => whnf); try rfl) (by (conv => whnf); try rfl) ?_
  conv => whnf
  exact ⟨rfl, rfl⟩
def bitF (a m p : Int) : Int := setF (setF (setF p 2 (Go.Proofs.oneF (bits .and .u8 a m == 0))) 128 (bits .and .u8 m 128)) 64 (bits .and .u8 m 64)
theorem alu_bit (a m p : Int) : ACalls Tryd.prog 27 [.int .u8 a, .int .u8 m, .int .u8 p] [] fun r H => r = .int .u8 (bitF a m p) ∧ H = [] := by
  refine ACalls.code tabOk h27 Tryd.func27 Tryd.call27 ok27 ?_
  conv => whnf
  refine ACalls.useE (alu_one _) [] rfl (by (conv => whnf); try rfl) (by (conv => whnf); try rfl) ?_
  conv => whnf
  refine ACalls.useE (alu_setI _ _ _) [] rfl (by (conv => whnf); try rfl) (by (conv => whnf); try rfl) ?_
  conv => whnf
  refine ACalls.useE (alu_set8 _ _ _) [] rfl (by (conv => whnf); try rfl) (by (conv => whnf); try rfl) ?_
  conv => whnf
  refine ACalls.useE (alu_set8 _ _ _) [] rfl (by (conv => whnf); try rfl) (by (conv => whnf); try rfl) ?_
  conv => whnf
  exact ⟨rfl, rfl⟩
def shlF (m : Int) : Int := IntKind.u8.wrap (m * 2 ^ min (1 : Int).toNat IntKind.u8.bits)
def shrF (m : Int) : Int := m.fdiv (2 ^ min (1 : Int).toNat IntKind.u8.bits)
def leftV (m p : Int) (t : Bool) : Int := if t = true then bits .or .u8 (shlF m) (bits .and .u8 p 1) else shlF m
def leftQ (m p : Int) (t : Bool) : Int := setF (markF p (leftV m p t)) 1 (bits .and .u8 m 128)
theorem alu_left (m p : Int) (t : Bool) : ACalls Tryd.prog 31 [.int .u8 m, .int .u8 p, .bool t] [] fun r H => r = .tuple #[.int .u8 (leftV m p t), .int .u8 (leftQ m p t)] ∧ H = [] := by
  cases t
  · refine ACalls.code tabOk h31 Tryd.func31 Tryd.call31 ok31 ?_
    conv => whnf
    refine ACalls.useE (alu_mark _ _) [] rfl (by (conv => whnf); try rfl) (by (conv => whnf); try rfl) ?_
    conv => whnf
    refine ACalls.useE (alu_set8 _ _ _) [] rfl (by (conv => whnf); try rfl) (by (conv => whnf); try rfl) ?_
    conv => whnf
    exact ⟨rfl, rfl⟩
  · refine ACalls.code tabOk h31 Tryd.func31 Tryd.call31 ok31 ?_
    conv => whnf
    refine ACalls.useE (alu_mark _ _) [] rfl (by (conv => whnf); try rfl) (by (conv => whnf); try rfl) ?_
    conv => whnf
    refine ACalls.useE (alu_set8 _ _ _) [] rfl (by (conv => whnf); try rfl) (by (conv => whnf); try rfl) ?_
    conv => whnf
    exact ⟨rfl, rfl⟩
def rightC (p : Int) (t : Bool) : Bool := t && (bits .and .u8 p 1 != 0)
def rightV (m p : Int) (t : Bool) : Int := if rightC p t = true then bits .or .u8 (shrF m) 128 else shrF m
def rightQ (m p : Int) (t : Bool) : Int := setF (markF p (rightV m p t)) 1 (bits .and .u8 m 1)
theorem alu_right (m p : Int) (t : Bool) : ACalls Tryd.prog 29 [.int .u8 m, .int .u8 p, .bool t] [] fun r H => r = .tuple #[.int .u8 (rightV m p t), .int .u8 (rightQ m p t)] ∧ H = [] := by
  cases t
  · refine ACalls.code tabOk h29 Tryd.func29 Tryd.call29 ok29 ?_
    conv => whnf
    refine ACalls.useE (alu_mark _ _) [] rfl (by (conv => whnf); try rfl) (by (conv => whnf); try rfl) ?_
    conv => whnf
    refine ACalls.useE (alu_set8 _ _ _) [] rfl (by (conv => whnf); try rfl) (by (conv => whnf); try rfl) ?_
    conv => whnf
    exact ⟨rfl, rfl⟩
  · have e : rightC p true = (bits .and .u8 p 1 != 0) := rfl
    unfold rightQ rightV
    rw [e]
    refine ACalls.code tabOk h29 Tryd.func29 Tryd.call29 ok29 ?_
    conv => whnf
    refine Bif.of (fun h0 => ?_) fun h0 => ?_
    · conv => whnf
      refine ACalls.useE (alu_mark _ _) [] rfl (by (conv => whnf); try rfl) (by (conv => whnf); try rfl) ?_
      conv => whnf
      refine ACalls.useE (alu_set8 _ _ _) [] rfl (by (conv => whnf); try rfl) (by (conv => whnf); try rfl) ?_
      conv => whnf
      (simp only [*, reduceIte, Bool.false_eq_true, shrF, and_self]; done)
    · conv => whnf
      refine ACalls.useE (alu_mark _ _) [] rfl (by (conv => whnf); try rfl) (by (conv => whnf); try rfl) ?_
      conv => whnf
      refine ACalls.useE (alu_set8 _ _ _) [] rfl (by (conv => whnf); try rfl) (by (conv => whnf); try rfl) ?_
      conv => whnf
      (simp only [*, reduceIte, Bool.false_eq_true, shrF, and_self]; done)
attribute [irreducible] digH digL addV addQ subV cmpF bitF leftV leftQ rightV rightQ notF
end Go.Proofs
