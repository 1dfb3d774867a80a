/-
  What the codes do to a byte.
-/
import Derived.Test.YtmdiokmkokjpiaaDoorQcF
set_option linter.all false
set_option linter.unusedVariables false
set_option linter.unusedSimpArgs false
set_option linter.unnecessarySimpa false
set_option linter.unusedSectionVars false
namespace Go.Proofs
open Go.Aw
variable [Base]
set_option maxRecDepth 100000
set_option maxHeartbeats 8000000
attribute [local irreducible] setF Go.Proofs.oneF markF overF binT binQ
/-- By this name, a turn makes this of a byte, and does this to the registers. -/
def TnOk (nm : ByteArray) (V : Int → Int → Int → Int → Int → Int → Int) (F : RdF) : Prop := ∀ A X Y S P PC m : Int, ACalls Tryd.prog 13 [.string nm, rgV A X Y S P PC, .int .u8 m] [] fun r H => r = .tuple #[.int .u8 (V A X Y S P m), rgV (F.a A X Y S P m) (F.x A X Y S P m) (F.y A X Y S P m) (F.s A X Y S P m) (F.p A X Y S P m) PC] ∧ H = []
/-- By this name, a store writes this. -/
def StOk (nm : ByteArray) (V : Int → Int → Int → Int) : Prop := ∀ A X Y S P PC b : Int, ACalls Tryd.prog 12 [.string nm, rgV A X Y S P PC, .int .u8 b] [] fun r H => r = .tuple #[.int .u8 (V A X Y), rgV A X Y S P PC] ∧ H = []
def UnOk (nm : ByteArray) : Prop := ACalls Tryd.prog 63 [.string nm] [] fun r H => r = .bool false ∧ H = []
theorem tnv_ASL (nm : ByteArray) (eASL : strEq nm ⟨#[65, 83, 76]⟩ = true) (eSLO : strEq nm ⟨#[83, 76, 79]⟩ = false) (eRLA : strEq nm ⟨#[82, 76, 65]⟩ = false) (eSRE : strEq nm ⟨#[83, 82, 69]⟩ = false) (eRRA : strEq nm ⟨#[82, 82, 65]⟩ = false) (eDCP : strEq nm ⟨#[68, 67, 80]⟩ = false) (eISC : strEq nm ⟨#[73, 83, 67]⟩ = false) : TnOk nm (fun A X Y S P m => leftV m P false) ⟨fun A X Y S P m => A, fun A X Y S P m => X, fun A X Y S P m => Y, fun A X Y S P m => S, fun A X Y S P m => leftQ m P false⟩ := by
  intro A X Y S P PC m
  refine ACalls.code tabOk h13 Tryd.func13 Tryd.call13 ok13 ?_
  conv => whnf
  refine Bif.knT ?_ fun h0 => ?_
  · with_reducible assumption
  conv => whnf
  refine Bif.knT ?_ fun h1 => ?_
  · with_reducible assumption
  conv => whnf
  refine ACalls.useE (alu_left _ _ _) [] rfl (by (conv => whnf); try rfl) (by (conv => whnf); try rfl) ?_
  conv => whnf
  refine ACalls.code tabOk h32 Tryd.func32 Tryd.call32 ok32 ?_
  conv => whnf
  refine Bif.knF ?_ fun h2 => ?_
  · with_reducible assumption
  conv => whnf
  refine Bif.knF ?_ fun h3 => ?_
  · with_reducible assumption
  conv => whnf
  refine Bif.knF ?_ fun h4 => ?_
  · with_reducible assumption
  conv => whnf
  refine Bif.knF ?_ fun h5 => ?_
  · with_reducible assumption
  conv => whnf
  refine Bif.knF ?_ fun h6 => ?_
  · with_reducible assumption
  conv => whnf
  refine Bif.knF ?_ fun h7 => ?_
  · with_reducible assumption
  conv => whnf
  refine ⟨rfl, ?_⟩
  conv => whnf
  refine ACalls.useE (rd_none _ _ _ _ _ _ _) [] rfl (by (conv => whnf); try rfl) (by (conv => whnf); try rfl) ?_
  conv => whnf
  exact ⟨rfl, rfl⟩
theorem tn_ASL : TnOk ⟨#[65, 83, 76]⟩ (fun A X Y S P m => leftV m P false) ⟨fun A X Y S P m => A, fun A X Y S P m => X, fun A X Y S P m => Y, fun A X Y S P m => S, fun A X Y S P m => leftQ m P false⟩ := tnv_ASL _ (by unfold strEq; decide) (by unfold strEq; decide) (by unfold strEq; decide) (by unfold strEq; decide) (by unfold strEq; decide) (by unfold strEq; decide) (by unfold strEq; decide)
theorem tnv_SLO (nm : ByteArray) (eASL : strEq nm ⟨#[65, 83, 76]⟩ = false) (eSLO : strEq nm ⟨#[83, 76, 79]⟩ = true) : TnOk nm (fun A X Y S P m => leftV m P false) ⟨fun A X Y S P m => bits .or .u8 A (leftV m P false), fun A X Y S P m => X, fun A X Y S P m => Y, fun A X Y S P m => S, fun A X Y S P m => markF (leftQ m P false) (bits .or .u8 A (leftV m P false))⟩ := by
  intro A X Y S P PC m
  refine ACalls.code tabOk h13 Tryd.func13 Tryd.call13 ok13 ?_
  conv => whnf
  refine Bif.knF ?_ fun h0 => ?_
  · with_reducible assumption
  conv => whnf
  refine Bif.knT ?_ fun h1 => ?_
  · with_reducible assumption
  conv => whnf
  refine ACalls.useE (alu_left _ _ _) [] rfl (by (conv => whnf); try rfl) (by (conv => whnf); try rfl) ?_
  conv => whnf
  refine ACalls.code tabOk h32 Tryd.func32 Tryd.call32 ok32 ?_
  conv => whnf
  refine Bif.knT ?_ fun h2 => ?_
  · with_reducible assumption
  conv => whnf
  refine ⟨rfl, ?_⟩
  conv => whnf
  refine ACalls.useE (rd_ORA _ _ _ _ _ _ _) [] rfl (by (conv => whnf); try rfl) (by (conv => whnf); try rfl) ?_
  conv => whnf
  exact ⟨rfl, rfl⟩
theorem tn_SLO : TnOk ⟨#[83, 76, 79]⟩ (fun A X Y S P m => leftV m P false) ⟨fun A X Y S P m => bits .or .u8 A (leftV m P false), fun A X Y S P m => X, fun A X Y S P m => Y, fun A X Y S P m => S, fun A X Y S P m => markF (leftQ m P false) (bits .or .u8 A (leftV m P false))⟩ := tnv_SLO _ (by unfold strEq; decide) (by unfold strEq; decide)
theorem tnv_ROL (nm : ByteArray) (eASL : strEq nm ⟨#[65, 83, 76]⟩ = false) (eSLO : strEq nm ⟨#[83, 76, 79]⟩ = false) (eROL : strEq nm ⟨#[82, 79, 76]⟩ = true) (eRLA : strEq nm ⟨#[82, 76, 65]⟩ = false) (eSRE : strEq nm ⟨#[83, 82, 69]⟩ = false) (eRRA : strEq nm ⟨#[82, 82, 65]⟩ = false) (eDCP : strEq nm ⟨#[68, 67, 80]⟩ = false) (eISC : strEq nm ⟨#[73, 83, 67]⟩ = false) : TnOk nm (fun A X Y S P m => leftV m P true) ⟨fun A X Y S P m => A, fun A X Y S P m => X, fun A X Y S P m => Y, fun A X Y S P m => S, fun A X Y S P m => leftQ m P true⟩ := by
  intro A X Y S P PC m
  refine ACalls.code tabOk h13 Tryd.func13 Tryd.call13 ok13 ?_
  conv => whnf
  refine Bif.knF ?_ fun h0 => ?_
  · with_reducible assumption
  conv => whnf
  refine Bif.knF ?_ fun h1 => ?_
  · with_reducible assumption
  conv => whnf
  refine Bif.knT ?_ fun h2 => ?_
  · with_reducible assumption
  conv => whnf
  refine Bif.knT ?_ fun h3 => ?_
  · with_reducible assumption
  conv => whnf
  refine ACalls.useE (alu_left _ _ _) [] rfl (by (conv => whnf); try rfl) (by (conv => whnf); try rfl) ?_
  conv => whnf
  refine ACalls.code tabOk h32 Tryd.func32 Tryd.call32 ok32 ?_
  conv => whnf
  refine Bif.knF ?_ fun h4 => ?_
  · with_reducible assumption
  conv => whnf
  refine Bif.knF ?_ fun h5 => ?_
  · with_reducible assumption
  conv => whnf
  refine Bif.knF ?_ fun h6 => ?_
  · with_reducible assumption
  conv => whnf
  refine Bif.knF ?_ fun h7 => ?_
  · with_reducible assumption
  conv => whnf
  refine Bif.knF ?_ fun h8 => ?_
  · with_reducible assumption
  conv => whnf
  refine Bif.knF ?_ fun h9 => ?_
  · with_reducible assumption
  conv => whnf
  refine ⟨rfl, ?_⟩
  conv => whnf
  refine ACalls.useE (rd_none _ _ _ _ _ _ _) [] rfl (by (conv => whnf); try rfl) (by (conv => whnf); try rfl) ?_
  conv => whnf
  exact ⟨rfl, rfl⟩
theorem tn_ROL : TnOk ⟨#[82, 79, 76]⟩ (fun A X Y S P m => leftV m P true) ⟨fun A X Y S P m => A, fun A X Y S P m => X, fun A X Y S P m => Y, fun A X Y S P m => S, fun A X Y S P m => leftQ m P true⟩ := tnv_ROL _ (by unfold strEq; decide) (by unfold strEq; decide) (by unfold strEq; decide) (by unfold strEq; decide) (by unfold strEq; decide) (by unfold strEq; decide) (by unfold strEq; decide) (by unfold strEq; decide)
theorem tnv_RLA (nm : ByteArray) (eASL : strEq nm ⟨#[65, 83, 76]⟩ = false) (eSLO : strEq nm ⟨#[83, 76, 79]⟩ = false) (eROL : strEq nm ⟨#[82, 79, 76]⟩ = false) (eRLA : strEq nm ⟨#[82, 76, 65]⟩ = true) : TnOk nm (fun A X Y S P m => leftV m P true) ⟨fun A X Y S P m => bits .and .u8 A (leftV m P true), fun A X Y S P m => X, fun A X Y S P m => Y, fun A X Y S P m => S, fun A X Y S P m => markF (leftQ m P true) (bits .and .u8 A (leftV m P true))⟩ := by
  intro A X Y S P PC m
  refine ACalls.code tabOk h13 Tryd.func13 Tryd.call13 ok13 ?_
  conv => whnf
  refine Bif.knF ?_ fun h0 => ?_
  · with_reducible assumption
  conv => whnf
  refine Bif.knF ?_ fun h1 => ?_
  · with_reducible assumption
  conv => whnf
  refine Bif.knF ?_ fun h2 => ?_
  · with_reducible assumption
  conv => whnf
  refine Bif.knT ?_ fun h3 => ?_
  · with_reducible assumption
  conv => whnf
  refine ACalls.useE (alu_left _ _ _) [] rfl (by (conv => whnf); try rfl) (by (conv => whnf); try rfl) ?_
  conv => whnf
  refine ACalls.code tabOk h32 Tryd.func32 Tryd.call32 ok32 ?_
  conv => whnf
  refine Bif.knF ?_ fun h4 => ?_
  · with_reducible assumption
  conv => whnf
  refine Bif.knT ?_ fun h5 => ?_
  · with_reducible assumption
  conv => whnf
  refine ⟨rfl, ?_⟩
  conv => whnf
  refine ACalls.useE (rd_AND _ _ _ _ _ _ _) [] rfl (by (conv => whnf); try rfl) (by (conv => whnf); try rfl) ?_
  conv => whnf
  exact ⟨rfl, rfl⟩
theorem tn_RLA : TnOk ⟨#[82, 76, 65]⟩ (fun A X Y S P m => leftV m P true) ⟨fun A X Y S P m => bits .and .u8 A (leftV m P true), fun A X Y S P m => X, fun A X Y S P m => Y, fun A X Y S P m => S, fun A X Y S P m => markF (leftQ m P true) (bits .and .u8 A (leftV m P true))⟩ := tnv_RLA _ (by unfold strEq; decide) (by unfold strEq; decide) (by unfold strEq; decide) (by unfold strEq; decide)
theorem tnv_LSR (nm : ByteArray) (eASL : strEq nm ⟨#[65, 83, 76]⟩ = false) (eSLO : strEq nm ⟨#[83, 76, 79]⟩ = false) (eROL : strEq nm ⟨#[82, 79, 76]⟩ = false) (eRLA : strEq nm ⟨#[82, 76, 65]⟩ = false) (eLSR : strEq nm ⟨#[76, 83, 82]⟩ = true) (eSRE : strEq nm ⟨#[83, 82, 69]⟩ = false) (eRRA : strEq nm ⟨#[82, 82, 65]⟩ = false) (eDCP : strEq nm ⟨#[68, 67, 80]⟩ = false) (eISC : strEq nm ⟨#[73, 83, 67]⟩ = false) : TnOk nm (fun A X Y S P m => rightV m P false) ⟨fun A X Y S P m => A, fun A X Y S P m => X, fun A X Y S P m => Y, fun A X Y S P m => S, fun A X Y S P m => rightQ m P false⟩ := by
  intro A X Y S P PC m
  refine ACalls.code tabOk h13 Tryd.func13 Tryd.call13 ok13 ?_
  conv => whnf
  refine Bif.knF ?_ fun h0 => ?_
  · with_reducible assumption
  conv => whnf
  refine Bif.knF ?_ fun h1 => ?_
  · with_reducible assumption
  conv => whnf
  refine Bif.knF ?_ fun h2 => ?_
  · with_reducible assumption
  conv => whnf
  refine Bif.knF ?_ fun h3 => ?_
  · with_reducible assumption
  conv => whnf
  refine Bif.knT ?_ fun h4 => ?_
  · with_reducible assumption
  conv => whnf
  refine Bif.knT ?_ fun h5 => ?_
  · with_reducible assumption
  conv => whnf
  refine ACalls.useE (alu_right _ _ _) [] rfl (by (conv => whnf); try rfl) (by (conv => whnf); try rfl) ?_
  conv => whnf
  refine ACalls.code tabOk h32 Tryd.func32 Tryd.call32 ok32 ?_
  conv => whnf
  refine Bif.knF ?_ fun h6 => ?_
  · with_reducible assumption
  conv => whnf
  refine Bif.knF ?_ fun h7 => ?_
  · with_reducible assumption
  conv => whnf
  refine Bif.knF ?_ fun h8 => ?_
  · with_reducible assumption
  conv => whnf
  refine Bif.knF ?_ fun h9 => ?_
  · with_reducible assumption
  conv => whnf
  refine Bif.knF ?_ fun h10 => ?_
  · with_reducible assumption
  conv => whnf
  refine Bif.knF ?_ fun h11 => ?_
  · with_reducible assumption
  conv => whnf
  refine ⟨rfl, ?_⟩
  conv => whnf
  refine ACalls.useE (rd_none _ _ _ _ _ _ _) [] rfl (by (conv => whnf); try rfl) (by (conv => whnf); try rfl) ?_
  conv => whnf
  exact ⟨rfl, rfl⟩
theorem tn_LSR : TnOk ⟨#[76, 83, 82]⟩ (fun A X Y S P m => rightV m P false) ⟨fun A X Y S P m => A, fun A X Y S P m => X, fun A X Y S P m => Y, fun A X Y S P m => S, fun A X Y S P m => rightQ m P false⟩ := tnv_LSR _ (by unfold strEq; decide) (by unfold strEq; decide) (by unfold strEq; decide) (by unfold strEq; decide) (by unfold strEq; decide) (by unfold strEq; decide) (by unfold strEq; decide) (by unfold strEq; decide) (by unfold strEq; decide)
theorem tnv_SRE (nm : ByteArray) (eASL : strEq nm ⟨#[65, 83, 76]⟩ = false) (eSLO : strEq nm ⟨#[83, 76, 79]⟩ = false) (eROL : strEq nm ⟨#[82, 79, 76]⟩ = false) (eRLA : strEq nm ⟨#[82, 76, 65]⟩ = false) (eLSR : strEq nm ⟨#[76, 83, 82]⟩ = false) (eSRE : strEq nm ⟨#[83, 82, 69]⟩ = true) : TnOk nm (fun A X Y S P m => rightV m P false) ⟨fun A X Y S P m => bits .xor .u8 A (rightV m P false), fun A X Y S P m => X, fun A X Y S P m => Y, fun A X Y S P m => S, fun A X Y S P m => markF (rightQ m P false) (bits .xor .u8 A (rightV m P false))⟩ := by
  intro A X Y S P PC m
  refine ACalls.code tabOk h13 Tryd.func13 Tryd.call13 ok13 ?_
  conv => whnf
  refine Bif.knF ?_ fun h0 => ?_
  · with_reducible assumption
  conv => whnf
  refine Bif.knF ?_ fun h1 => ?_
  · with_reducible assumption
  conv => whnf
  refine Bif.knF ?_ fun h2 => ?_
  · with_reducible assumption
  conv => whnf
  refine Bif.knF ?_ fun h3 => ?_
  · with_reducible assumption
  conv => whnf
  refine Bif.knF ?_ fun h4 => ?_
  · with_reducible assumption
  conv => whnf
  refine Bif.knT ?_ fun h5 => ?_
  · with_reducible assumption
  conv => whnf
  refine ACalls.useE (alu_right _ _ _) [] rfl (by (conv => whnf); try rfl) (by (conv => whnf); try rfl) ?_
  conv => whnf
  refine ACalls.code tabOk h32 Tryd.func32 Tryd.call32 ok32 ?_
  conv => whnf
  refine Bif.knF ?_ fun h6 => ?_
  · with_reducible assumption
  conv => whnf
  refine Bif.knF ?_ fun h7 => ?_
  · with_reducible assumption
  conv => whnf
  refine Bif.knT ?_ fun h8 => ?_
  · with_reducible assumption
  conv => whnf
  refine ⟨rfl, ?_⟩
  conv => whnf
  refine ACalls.useE (rd_EOR _ _ _ _ _ _ _) [] rfl (by (conv => whnf); try rfl) (by (conv => whnf); try rfl) ?_
  conv => whnf
  exact ⟨rfl, rfl⟩
theorem tn_SRE : TnOk ⟨#[83, 82, 69]⟩ (fun A X Y S P m => rightV m P false) ⟨fun A X Y S P m => bits .xor .u8 A (rightV m P false), fun A X Y S P m => X, fun A X Y S P m => Y, fun A X Y S P m => S, fun A X Y S P m => markF (rightQ m P false) (bits .xor .u8 A (rightV m P false))⟩ := tnv_SRE _ (by unfold strEq; decide) (by unfold strEq; decide) (by unfold strEq; decide) (by unfold strEq; decide) (by unfold strEq; decide) (by unfold strEq; decide)
theorem tnv_ROR (nm : ByteArray) (eASL : strEq nm ⟨#[65, 83, 76]⟩ = false) (eSLO : strEq nm ⟨#[83, 76, 79]⟩ = false) (eROL : strEq nm ⟨#[82, 79, 76]⟩ = false) (eRLA : strEq nm ⟨#[82, 76, 65]⟩ = false) (eLSR : strEq nm ⟨#[76, 83, 82]⟩ = false) (eSRE : strEq nm ⟨#[83, 82, 69]⟩ = false) (eROR : strEq nm ⟨#[82, 79, 82]⟩ = true) (eRRA : strEq nm ⟨#[82, 82, 65]⟩ = false) (eDCP : strEq nm ⟨#[68, 67, 80]⟩ = false) (eISC : strEq nm ⟨#[73, 83, 67]⟩ = false) : TnOk nm (fun A X Y S P m => rightV m P true) ⟨fun A X Y S P m => A, fun A X Y S P m => X, fun A X Y S P m => Y, fun A X Y S P m => S, fun A X Y S P m => rightQ m P true⟩ := by
  intro A X Y S P PC m
  refine ACalls.code tabOk h13 Tryd.func13 Tryd.call13 ok13 ?_
  conv => whnf
  refine Bif.knF ?_ fun h0 => ?_
  · with_reducible assumption
  conv => whnf
  refine Bif.knF ?_ fun h1 => ?_
  · with_reducible assumption
  conv => whnf
  refine Bif.knF ?_ fun h2 => ?_
  · with_reducible assumption
  conv => whnf
  refine Bif.knF ?_ fun h3 => ?_
  · with_reducible assumption
  conv => whnf
  refine Bif.knF ?_ fun h4 => ?_
  · with_reducible assumption
  conv => whnf
  refine Bif.knF ?_ fun h5 => ?_
  · with_reducible assumption
  conv => whnf
  refine Bif.knT ?_ fun h6 => ?_
  · with_reducible assumption
  conv => whnf
  refine Bif.knT ?_ fun h7 => ?_
  · with_reducible assumption
  conv => whnf
  refine ACalls.useE (alu_right _ _ _) [] rfl (by (conv => whnf); try rfl) (by (conv => whnf); try rfl) ?_
  conv => whnf
  refine ACalls.code tabOk h32 Tryd.func32 Tryd.call32 ok32 ?_
  conv => whnf
  refine Bif.knF ?_ fun h8 => ?_
  · with_reducible assumption
  conv => whnf
  refine Bif.knF ?_ fun h9 => ?_
  · with_reducible assumption
  conv => whnf
  refine Bif.knF ?_ fun h10 => ?_
  · with_reducible assumption
  conv => whnf
  refine Bif.knF ?_ fun h11 => ?_
  · with_reducible assumption
  conv => whnf
  refine Bif.knF ?_ fun h12 => ?_
  · with_reducible assumption
  conv => whnf
  refine Bif.knF ?_ fun h13 => ?_
  · with_reducible assumption
  conv => whnf
  refine ⟨rfl, ?_⟩
  conv => whnf
  refine ACalls.useE (rd_none _ _ _ _ _ _ _) [] rfl (by (conv => whnf); try rfl) (by (conv => whnf); try rfl) ?_
  conv => whnf
  exact ⟨rfl, rfl⟩
theorem tn_ROR : TnOk ⟨#[82, 79, 82]⟩ (fun A X Y S P m => rightV m P true) ⟨fun A X Y S P m => A, fun A X Y S P m => X, fun A X Y S P m => Y, fun A X Y S P m => S, fun A X Y S P m => rightQ m P true⟩ := tnv_ROR _ (by unfold strEq; decide) (by unfold strEq; decide) (by unfold strEq; decide) (by unfold strEq; decide) (by unfold strEq; decide) (by unfold strEq; decide) (by unfold strEq; decide) (by unfold strEq; decide) (by unfold strEq; decide) (by unfold strEq; decide)
theorem tnv_RRA (nm : ByteArray) (eASL : strEq nm ⟨#[65, 83, 76]⟩ = false) (eSLO : strEq nm ⟨#[83, 76, 79]⟩ = false) (eROL : strEq nm ⟨#[82, 79, 76]⟩ = false) (eRLA : strEq nm ⟨#[82, 76, 65]⟩ = false) (eLSR : strEq nm ⟨#[76, 83, 82]⟩ = false) (eSRE : strEq nm ⟨#[83, 82, 69]⟩ = false) (eROR : strEq nm ⟨#[82, 79, 82]⟩ = false) (eRRA : strEq nm ⟨#[82, 82, 65]⟩ = true) : TnOk nm (fun A X Y S P m => rightV m P true) ⟨fun A X Y S P m => addV A (rightV m P true) (rightQ m P true), fun A X Y S P m => X, fun A X Y S P m => Y, fun A X Y S P m => S, fun A X Y S P m => addQ A (rightV m P true) (rightQ m P true)⟩ := by
  intro A X Y S P PC m
  refine ACalls.code tabOk h13 Tryd.func13 Tryd.call13 ok13 ?_
  conv => whnf
  refine Bif.knF ?_ fun h0 => ?_
  · with_reducible assumption
  conv => whnf
  refine Bif.knF ?_ fun h1 => ?_
  · with_reducible assumption
  conv => whnf
  refine Bif.knF ?_ fun h2 => ?_
  · with_reducible assumption
  conv => whnf
  refine Bif.knF ?_ fun h3 => ?_
  · with_reducible assumption
  conv => whnf
  refine Bif.knF ?_ fun h4 => ?_
  · with_reducible assumption
  conv => whnf
  refine Bif.knF ?_ fun h5 => ?_
  · with_reducible assumption
  conv => whnf
  refine Bif.knF ?_ fun h6 => ?_
  · with_reducible assumption
  conv => whnf
  refine Bif.knT ?_ fun h7 => ?_
  · with_reducible assumption
  conv => whnf
  refine ACalls.useE (alu_right _ _ _) [] rfl (by (conv => whnf); try rfl) (by (conv => whnf); try rfl) ?_
  conv => whnf
  refine ACalls.code tabOk h32 Tryd.func32 Tryd.call32 ok32 ?_
  conv => whnf
  refine Bif.knF ?_ fun h8 => ?_
  · with_reducible assumption
  conv => whnf
  refine Bif.knF ?_ fun h9 => ?_
  · with_reducible assumption
  conv => whnf
  refine Bif.knF ?_ fun h10 => ?_
  · with_reducible assumption
  conv => whnf
  refine Bif.knT ?_ fun h11 => ?_
  · with_reducible assumption
  conv => whnf
  refine ⟨rfl, ?_⟩
  conv => whnf
  refine ACalls.useE (rd_ADC _ _ _ _ _ _ _) [] rfl (by (conv => whnf); try rfl) (by (conv => whnf); try rfl) ?_
  conv => whnf
  exact ⟨rfl, rfl⟩
theorem tn_RRA : TnOk ⟨#[82, 82, 65]⟩ (fun A X Y S P m => rightV m P true) ⟨fun A X Y S P m => addV A (rightV m P true) (rightQ m P true), fun A X Y S P m => X, fun A X Y S P m => Y, fun A X Y S P m => S, fun A X Y S P m => addQ A (rightV m P true) (rightQ m P true)⟩ := tnv_RRA _ (by unfold strEq; decide) (by unfold strEq; decide) (by unfold strEq; decide) (by unfold strEq; decide) (by unfold strEq; decide) (by unfold strEq; decide) (by unfold strEq; decide) (by unfold strEq; decide)
theorem tnv_INC (nm : ByteArray) (eASL : strEq nm ⟨#[65, 83, 76]⟩ = false) (eSLO : strEq nm ⟨#[83, 76, 79]⟩ = false) (eROL : strEq nm ⟨#[82, 79, 76]⟩ = false) (eRLA : strEq nm ⟨#[82, 76, 65]⟩ = false) (eLSR : strEq nm ⟨#[76, 83, 82]⟩ = false) (eSRE : strEq nm ⟨#[83, 82, 69]⟩ = false) (eROR : strEq nm ⟨#[82, 79, 82]⟩ = false) (eRRA : strEq nm ⟨#[82, 82, 65]⟩ = false) (eINC : strEq nm ⟨#[73, 78, 67]⟩ = true) (eDCP : strEq nm ⟨#[68, 67, 80]⟩ = false) (eISC : strEq nm ⟨#[73, 83, 67]⟩ = false) : TnOk nm (fun A X Y S P m => IntKind.u8.wrap (m + 1)) ⟨fun A X Y S P m => A, fun A X Y S P m => X, fun A X Y S P m => Y, fun A X Y S P m => S, fun A X Y S P m => markF P (IntKind.u8.wrap (m + 1))⟩ := by
  intro A X Y S P PC m
  refine ACalls.code tabOk h13 Tryd.func13 Tryd.call13 ok13 ?_
  conv => whnf
  refine Bif.knF ?_ fun h0 => ?_
  · with_reducible assumption
  conv => whnf
  refine Bif.knF ?_ fun h1 => ?_
  · with_reducible assumption
  conv => whnf
  refine Bif.knF ?_ fun h2 => ?_
  · with_reducible assumption
  conv => whnf
  refine Bif.knF ?_ fun h3 => ?_
  · with_reducible assumption
  conv => whnf
  refine Bif.knF ?_ fun h4 => ?_
  · with_reducible assumption
  conv => whnf
  refine Bif.knF ?_ fun h5 => ?_
  · with_reducible assumption
  conv => whnf
  refine Bif.knF ?_ fun h6 => ?_
  · with_reducible assumption
  conv => whnf
  refine Bif.knF ?_ fun h7 => ?_
  · with_reducible assumption
  conv => whnf
  refine Bif.knT ?_ fun h8 => ?_
  · with_reducible assumption
  conv => whnf
  refine ACalls.useE (x_mark _ _ _ _ _ _ _) [2] rfl (by (conv => whnf); try rfl) (by (conv => whnf); try rfl) ?_
  conv => whnf
  refine ACalls.code tabOk h32 Tryd.func32 Tryd.call32 ok32 ?_
  conv => whnf
  refine Bif.knF ?_ fun h9 => ?_
  · with_reducible assumption
  conv => whnf
  refine Bif.knF ?_ fun h10 => ?_
  · with_reducible assumption
  conv => whnf
  refine Bif.knF ?_ fun h11 => ?_
  · with_reducible assumption
  conv => whnf
  refine Bif.knF ?_ fun h12 => ?_
  · with_reducible assumption
  conv => whnf
  refine Bif.knF ?_ fun h13 => ?_
  · with_reducible assumption
  conv => whnf
  refine Bif.knF ?_ fun h14 => ?_
  · with_reducible assumption
  conv => whnf
  refine ⟨rfl, ?_⟩
  conv => whnf
  refine ACalls.useE (rd_none _ _ _ _ _ _ _) [] rfl (by (conv => whnf); try rfl) (by (conv => whnf); try rfl) ?_
  conv => whnf
  exact ⟨rfl, rfl⟩
theorem tn_INC : TnOk ⟨#[73, 78, 67]⟩ (fun A X Y S P m => IntKind.u8.wrap (m + 1)) ⟨fun A X Y S P m => A, fun A X Y S P m => X, fun A X Y S P m => Y, fun A X Y S P m => S, fun A X Y S P m => markF P (IntKind.u8.wrap (m + 1))⟩ := tnv_INC _ (by unfold strEq; decide) (by unfold strEq; decide) (by unfold strEq; decide) (by unfold strEq; decide) (by unfold strEq; decide) (by unfold strEq; decide) (by unfold strEq; decide) (by unfold strEq; decide) (by unfold strEq; decide) (by unfold strEq; decide) (by unfold strEq; decide)
theorem tnv_DEC (nm : ByteArray) (eASL : strEq nm ⟨#[65, 83, 76]⟩ = false) (eSLO : strEq nm ⟨#[83, 76, 79]⟩ = false) (eROL : strEq nm ⟨#[82, 79, 76]⟩ = false) (eRLA : strEq nm ⟨#[82, 76, 65]⟩ = false) (eLSR : strEq nm ⟨#[76, 83, 82]⟩ = false) (eSRE : strEq nm ⟨#[83, 82, 69]⟩ = false) (eROR : strEq nm ⟨#[82, 79, 82]⟩ = false) (eRRA : strEq nm ⟨#[82, 82, 65]⟩ = false) (eINC : strEq nm ⟨#[73, 78, 67]⟩ = false) (eDEC : strEq nm ⟨#[68, 69, 67]⟩ = true) (eDCP : strEq nm ⟨#[68, 67, 80]⟩ = false) (eISC : strEq nm ⟨#[73, 83, 67]⟩ = false) : TnOk nm (fun A X Y S P m => IntKind.u8.wrap (m - 1)) ⟨fun A X Y S P m => A, fun A X Y S P m => X, fun A X Y S P m => Y, fun A X Y S P m => S, fun A X Y S P m => markF P (IntKind.u8.wrap (m - 1))⟩ := by
  intro A X Y S P PC m
  refine ACalls.code tabOk h13 Tryd.func13 Tryd.call13 ok13 ?_
  conv => whnf
  refine Bif.knF ?_ fun h0 => ?_
  · with_reducible assumption
  conv => whnf
  refine Bif.knF ?_ fun h1 => ?_
  · with_reducible assumption
  conv => whnf
  refine Bif.knF ?_ fun h2 => ?_
  · with_reducible assumption
  conv => whnf
  refine Bif.knF ?_ fun h3 => ?_
  · with_reducible assumption
  conv => whnf
  refine Bif.knF ?_ fun h4 => ?_
  · with_reducible assumption
  conv => whnf
  refine Bif.knF ?_ fun h5 => ?_
  · with_reducible assumption
  conv => whnf
  refine Bif.knF ?_ fun h6 => ?_
  · with_reducible assumption
  conv => whnf
  refine Bif.knF ?_ fun h7 => ?_
  · with_reducible assumption
  conv => whnf
  refine Bif.knF ?_ fun h8 => ?_
  · with_reducible assumption
  conv => whnf
  refine Bif.knT ?_ fun h9 => ?_
  · with_reducible assumption
  conv => whnf
  refine ACalls.useE (x_mark _ _ _ _ _ _ _) [2] rfl (by (conv => whnf); try rfl) (by (conv => whnf); try rfl) ?_
  conv => whnf
  refine ACalls.code tabOk h32 Tryd.func32 Tryd.call32 ok32 ?_
  conv => whnf
  refine Bif.knF ?_ fun h10 => ?_
  · with_reducible assumption
  conv => whnf
  refine Bif.knF ?_ fun h11 => ?_
  · with_reducible assumption
  conv => whnf
  refine Bif.knF ?_ fun h12 => ?_
  · with_reducible assumption
  conv => whnf
  refine Bif.knF ?_ fun h13 => ?_
  · with_reducible assumption
  conv => whnf
  refine Bif.knF ?_ fun h14 => ?_
  · with_reducible assumption
  conv => whnf
  refine Bif.knF ?_ fun h15 => ?_
  · with_reducible assumption
  conv => whnf
  refine ⟨rfl, ?_⟩
  conv => whnf
  refine ACalls.useE (rd_none _ _ _ _ _ _ _) [] rfl (by (conv => whnf); try rfl) (by (conv => whnf); try rfl) ?_
  conv => whnf
  exact ⟨rfl, rfl⟩
theorem tn_DEC : TnOk ⟨#[68, 69, 67]⟩ (fun A X Y S P m => IntKind.u8.wrap (m - 1)) ⟨fun A X Y S P m => A, fun A X Y S P m => X, fun A X Y S P m => Y, fun A X Y S P m => S, fun A X Y S P m => markF P (IntKind.u8.wrap (m - 1))⟩ := tnv_DEC _ (by unfold strEq; decide) (by unfold strEq; decide) (by unfold strEq; decide) (by unfold strEq; decide) (by unfold strEq; decide) (by unfold strEq; decide) (by unfold strEq; decide) (by unfold strEq; decide) (by unfold strEq; decide) (by unfold strEq; decide) (by unfold strEq; decide) (by unfold strEq; decide)
theorem tnv_ISC (nm : ByteArray) (eASL : strEq nm ⟨#[65, 83, 76]⟩ = false) (eSLO : strEq nm ⟨#[83, 76, 79]⟩ = false) (eROL : strEq nm ⟨#[82, 79, 76]⟩ = false) (eRLA : strEq nm ⟨#[82, 76, 65]⟩ = false) (eLSR : strEq nm ⟨#[76, 83, 82]⟩ = false) (eSRE : strEq nm ⟨#[83, 82, 69]⟩ = false) (eROR : strEq nm ⟨#[82, 79, 82]⟩ = false) (eRRA : strEq nm ⟨#[82, 82, 65]⟩ = false) (eINC : strEq nm ⟨#[73, 78, 67]⟩ = false) (eDEC : strEq nm ⟨#[68, 69, 67]⟩ = false) (eISC : strEq nm ⟨#[73, 83, 67]⟩ = true) (eDCP : strEq nm ⟨#[68, 67, 80]⟩ = false) : TnOk nm (fun A X Y S P m => IntKind.u8.wrap (m + 1)) ⟨fun A X Y S P m => subV A (IntKind.u8.wrap (m + 1)) (P), fun A X Y S P m => X, fun A X Y S P m => Y, fun A X Y S P m => S, fun A X Y S P m => binQ A (notF (IntKind.u8.wrap (m + 1))) (P)⟩ := by
  intro A X Y S P PC m
  refine ACalls.code tabOk h13 Tryd.func13 Tryd.call13 ok13 ?_
  conv => whnf
  refine Bif.knF ?_ fun h0 => ?_
  · with_reducible assumption
  conv => whnf
  refine Bif.knF ?_ fun h1 => ?_
  · with_reducible assumption
  conv => whnf
  refine Bif.knF ?_ fun h2 => ?_
  · with_reducible assumption
  conv => whnf
  refine Bif.knF ?_ fun h3 => ?_
  · with_reducible assumption
  conv => whnf
  refine Bif.knF ?_ fun h4 => ?_
  · with_reducible assumption
  conv => whnf
  refine Bif.knF ?_ fun h5 => ?_
  · with_reducible assumption
  conv => whnf
  refine Bif.knF ?_ fun h6 => ?_
  · with_reducible assumption
  conv => whnf
  refine Bif.knF ?_ fun h7 => ?_
  · with_reducible assumption
  conv => whnf
  refine Bif.knF ?_ fun h8 => ?_
  · with_reducible assumption
  conv => whnf
  refine Bif.knF ?_ fun h9 => ?_
  · with_reducible assumption
  conv => whnf
  refine Bif.knT ?_ fun h10 => ?_
  · with_reducible assumption
  conv => whnf
  refine ACalls.code tabOk h32 Tryd.func32 Tryd.call32 ok32 ?_
  conv => whnf
  refine Bif.knF ?_ fun h11 => ?_
  · with_reducible assumption
  conv => whnf
  refine Bif.knF ?_ fun h12 => ?_
  · with_reducible assumption
  conv => whnf
  refine Bif.knF ?_ fun h13 => ?_
  · with_reducible assumption
  conv => whnf
  refine Bif.knF ?_ fun h14 => ?_
  · with_reducible assumption
  conv => whnf
  refine Bif.knF ?_ fun h15 => ?_
  · with_reducible assumption
  conv => whnf
  refine Bif.knT ?_ fun h16 => ?_
  · with_reducible assumption
  conv => whnf
  refine ⟨rfl, ?_⟩
  conv => whnf
  refine ACalls.useE (rd_SBC _ _ _ _ _ _ _) [] rfl (by (conv => whnf); try rfl) (by (conv => whnf); try rfl) ?_
  conv => whnf
  exact ⟨rfl, rfl⟩
theorem tn_ISC : TnOk ⟨#[73, 83, 67]⟩ (fun A X Y S P m => IntKind.u8.wrap (m + 1)) ⟨fun A X Y S P m => subV A (IntKind.u8.wrap (m + 1)) (P), fun A X Y S P m => X, fun A X Y S P m => Y, fun A X Y S P m => S, fun A X Y S P m => binQ A (notF (IntKind.u8.wrap (m + 1))) (P)⟩ := tnv_ISC _ (by unfold strEq; decide) (by unfold strEq; decide) (by unfold strEq; decide) (by unfold strEq; decide) (by unfold strEq; decide) (by unfold strEq; decide) (by unfold strEq; decide) (by unfold strEq; decide) (by unfold strEq; decide) (by unfold strEq; decide) (by unfold strEq; decide) (by unfold strEq; decide)
theorem tnv_DCP (nm : ByteArray) (eASL : strEq nm ⟨#[65, 83, 76]⟩ = false) (eSLO : strEq nm ⟨#[83, 76, 79]⟩ = false) (eROL : strEq nm ⟨#[82, 79, 76]⟩ = false) (eRLA : strEq nm ⟨#[82, 76, 65]⟩ = false) (eLSR : strEq nm ⟨#[76, 83, 82]⟩ = false) (eSRE : strEq nm ⟨#[83, 82, 69]⟩ = false) (eROR : strEq nm ⟨#[82, 79, 82]⟩ = false) (eRRA : strEq nm ⟨#[82, 82, 65]⟩ = false) (eINC : strEq nm ⟨#[73, 78, 67]⟩ = false) (eDEC : strEq nm ⟨#[68, 69, 67]⟩ = false) (eISC : strEq nm ⟨#[73, 83, 67]⟩ = false) (eDCP : strEq nm ⟨#[68, 67, 80]⟩ = true) : TnOk nm (fun A X Y S P m => IntKind.u8.wrap (m - 1)) ⟨fun A X Y S P m => A, fun A X Y S P m => X, fun A X Y S P m => Y, fun A X Y S P m => S, fun A X Y S P m => cmpF A (IntKind.u8.wrap (m - 1)) (P)⟩ := by
  intro A X Y S P PC m
  refine ACalls.code tabOk h13 Tryd.func13 Tryd.call13 ok13 ?_
  conv => whnf
  refine Bif.knF ?_ fun h0 => ?_
  · with_reducible assumption
  conv => whnf
  refine Bif.knF ?_ fun h1 => ?_
  · with_reducible assumption
  conv => whnf
  refine Bif.knF ?_ fun h2 => ?_
  · with_reducible assumption
  conv => whnf
  refine Bif.knF ?_ fun h3 => ?_
  · with_reducible assumption
  conv => whnf
  refine Bif.knF ?_ fun h4 => ?_
  · with_reducible assumption
  conv => whnf
  refine Bif.knF ?_ fun h5 => ?_
  · with_reducible assumption
  conv => whnf
  refine Bif.knF ?_ fun h6 => ?_
  · with_reducible assumption
  conv => whnf
  refine Bif.knF ?_ fun h7 => ?_
  · with_reducible assumption
  conv => whnf
  refine Bif.knF ?_ fun h8 => ?_
  · with_reducible assumption
  conv => whnf
  refine Bif.knF ?_ fun h9 => ?_
  · with_reducible assumption
  conv => whnf
  refine Bif.knF ?_ fun h10 => ?_
  · with_reducible assumption
  conv => whnf
  refine Bif.knT ?_ fun h11 => ?_
  · with_reducible assumption
  conv => whnf
  refine ACalls.code tabOk h32 Tryd.func32 Tryd.call32 ok32 ?_
  conv => whnf
  refine Bif.knF ?_ fun h12 => ?_
  · with_reducible assumption
  conv => whnf
  refine Bif.knF ?_ fun h13 => ?_
  · with_reducible assumption
  conv => whnf
  refine Bif.knF ?_ fun h14 => ?_
  · with_reducible assumption
  conv => whnf
  refine Bif.knF ?_ fun h15 => ?_
  · with_reducible assumption
  conv => whnf
  refine Bif.knT ?_ fun h16 => ?_
  · with_reducible assumption
  conv => whnf
  refine ⟨rfl, ?_⟩
  conv => whnf
  refine ACalls.useE (rd_CMP _ _ _ _ _ _ _) [] rfl (by (conv => whnf); try rfl) (by (conv => whnf); try rfl) ?_
  conv => whnf
  exact ⟨rfl, rfl⟩
theorem tn_DCP : TnOk ⟨#[68, 67, 80]⟩ (fun A X Y S P m => IntKind.u8.wrap (m - 1)) ⟨fun A X Y S P m => A, fun A X Y S P m => X, fun A X Y S P m => Y, fun A X Y S P m => S, fun A X Y S P m => cmpF A (IntKind.u8.wrap (m - 1)) (P)⟩ := tnv_DCP _ (by unfold strEq; decide) (by unfold strEq; decide) (by unfold strEq; decide) (by unfold strEq; decide) (by unfold strEq; decide) (by unfold strEq; decide) (by unfold strEq; decide) (by unfold strEq; decide) (by unfold strEq; decide) (by unfold strEq; decide) (by unfold strEq; decide) (by unfold strEq; decide)
theorem stv_STA (nm : ByteArray) (eSTA : strEq nm ⟨#[83, 84, 65]⟩ = true) : StOk nm (fun A X Y => A) := by
  intro A X Y S P PC b
  refine ACalls.code tabOk h12 Tryd.func12 Tryd.call12 ok12 ?_
  conv => whnf
  refine Bif.knT ?_ fun h0 => ?_
  · with_reducible assumption
  conv => whnf
  exact ⟨rfl, rfl⟩
theorem st_STA : StOk ⟨#[83, 84, 65]⟩ (fun A X Y => A) := stv_STA _ (by unfold strEq; decide)
theorem stv_STX (nm : ByteArray) (eSTA : strEq nm ⟨#[83, 84, 65]⟩ = false) (eSTX : strEq nm ⟨#[83, 84, 88]⟩ = true) : StOk nm (fun A X Y => X) := by
  intro A X Y S P PC b
  refine ACalls.code tabOk h12 Tryd.func12 Tryd.call12 ok12 ?_
  conv => whnf
  refine Bif.knF ?_ fun h0 => ?_
  · with_reducible assumption
  conv => whnf
  refine Bif.knT ?_ fun h1 => ?_
  · with_reducible assumption
  conv => whnf
  exact ⟨rfl, rfl⟩
theorem st_STX : StOk ⟨#[83, 84, 88]⟩ (fun A X Y => X) := stv_STX _ (by unfold strEq; decide) (by unfold strEq; decide)
theorem stv_STY (nm : ByteArray) (eSTA : strEq nm ⟨#[83, 84, 65]⟩ = false) (eSTX : strEq nm ⟨#[83, 84, 88]⟩ = false) (eSTY : strEq nm ⟨#[83, 84, 89]⟩ = true) : StOk nm (fun A X Y => Y) := by
  intro A X Y S P PC b
  refine ACalls.code tabOk h12 Tryd.func12 Tryd.call12 ok12 ?_
  conv => whnf
  refine Bif.knF ?_ fun h0 => ?_
  · with_reducible assumption
  conv => whnf
  refine Bif.knF ?_ fun h1 => ?_
  · with_reducible assumption
  conv => whnf
  refine Bif.knT ?_ fun h2 => ?_
  · with_reducible assumption
  conv => whnf
  exact ⟨rfl, rfl⟩
theorem st_STY : StOk ⟨#[83, 84, 89]⟩ (fun A X Y => Y) := stv_STY _ (by unfold strEq; decide) (by unfold strEq; decide) (by unfold strEq; decide)
theorem stv_SAX (nm : ByteArray) (eSTA : strEq nm ⟨#[83, 84, 65]⟩ = false) (eSTX : strEq nm ⟨#[83, 84, 88]⟩ = false) (eSTY : strEq nm ⟨#[83, 84, 89]⟩ = false) (eSAX : strEq nm ⟨#[83, 65, 88]⟩ = true) : StOk nm (fun A X Y => bits .and .u8 A X) := by
  intro A X Y S P PC b
  refine ACalls.code tabOk h12 Tryd.func12 Tryd.call12 ok12 ?_
  conv => whnf
  refine Bif.knF ?_ fun h0 => ?_
  · with_reducible assumption
  conv => whnf
  refine Bif.knF ?_ fun h1 => ?_
  · with_reducible assumption
  conv => whnf
  refine Bif.knF ?_ fun h2 => ?_
  · with_reducible assumption
  conv => whnf
  refine Bif.knT ?_ fun h3 => ?_
  · with_reducible assumption
  conv => whnf
  exact ⟨rfl, rfl⟩
theorem st_SAX : StOk ⟨#[83, 65, 88]⟩ (fun A X Y => bits .and .u8 A X) := stv_SAX _ (by unfold strEq; decide) (by unfold strEq; decide) (by unfold strEq; decide) (by unfold strEq; decide)
theorem unv (nm : ByteArray) (eSHA : strEq nm ⟨#[83, 72, 65]⟩ = false) (eSHX : strEq nm ⟨#[83, 72, 88]⟩ = false) (eSHY : strEq nm ⟨#[83, 72, 89]⟩ = false) (eTAS : strEq nm ⟨#[84, 65, 83]⟩ = false) : UnOk nm := by
  refine ACalls.code tabOk h63 Tryd.func63 Tryd.call63 ok63 ?_
  conv => whnf
  refine Bif.knF ?_ fun h0 => ?_
  · with_reducible assumption
  conv => whnf
  refine Bif.knF ?_ fun h1 => ?_
  · with_reducible assumption
  conv => whnf
  refine Bif.knF ?_ fun h2 => ?_
  · with_reducible assumption
  conv => whnf
  refine Bif.knF ?_ fun h3 => ?_
  · with_reducible assumption
  conv => whnf
  refine Bif.knF ?_ fun h4 => ?_
  · with_reducible assumption
  conv => whnf
  refine Bif.knF ?_ fun h5 => ?_
  · with_reducible assumption
  conv => whnf
  refine Bif.knF ?_ fun h6 => ?_
  · with_reducible assumption
  conv => whnf
  refine Bif.knF ?_ fun h7 => ?_
  · with_reducible assumption
  conv => whnf
  refine Bif.knF ?_ fun h8 => ?_
  · with_reducible assumption
  conv => whnf
  (rw [eTAS]; exact ⟨rfl, rfl⟩)
theorem un_STA : UnOk ⟨#[83, 84, 65]⟩ := unv _ (by unfold strEq; decide) (by unfold strEq; decide) (by unfold strEq; decide) (by unfold strEq; decide)
theorem un_STX : UnOk ⟨#[83, 84, 88]⟩ := unv _ (by unfold strEq; decide) (by unfold strEq; decide) (by unfold strEq; decide) (by unfold strEq; decide)
theorem un_STY : UnOk ⟨#[83, 84, 89]⟩ := unv _ (by unfold strEq; decide) (by unfold strEq; decide) (by unfold strEq; decide) (by unfold strEq; decide)
theorem un_SAX : UnOk ⟨#[83, 65, 88]⟩ := unv _ (by unfold strEq; decide) (by unfold strEq; decide) (by unfold strEq; decide) (by unfold strEq; decide)
end Go.Proofs
