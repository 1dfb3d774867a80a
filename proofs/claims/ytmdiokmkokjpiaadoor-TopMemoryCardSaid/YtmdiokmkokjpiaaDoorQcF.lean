/-
  What the codes do to the registers.
-/
import Derived.Test.YtmdiokmkokjpiaaDoorQbF
set_option linter.all false
set_option linter.unusedVariables false
set_option linter.unusedSimpArgs false
set_option linter.unnecessarySimpa false
set_option linter.unusedSectionVars false
namespace Go.Proofs
open Go.Aw
variable [Base]
set_option maxRecDepth 100000
set_option maxHeartbeats 8000000
attribute [local irreducible] setF Go.Proofs.oneF markF overF binT binQ
abbrev filH (A X Y S P PC : Int) : List Blk := [.cells [.int .u8 A, .int .u8 X, .int .u8 Y, .int .u8 S, .int .u8 P, .int .u16 PC] 63]
theorem x_mark (A X Y S P PC v : Int) : ACalls Tryd.prog 23 [.pointer (some ⟨0, 0, none⟩), .int .u8 v] (filH A X Y S P PC) fun r H => r = .int .u8 v ∧ H = filH A X Y S (markF P v) PC := by
  refine ACalls.code tabOk h23 Tryd.func23 Tryd.call23 ok23 ?_
  conv => whnf
  refine ACalls.useE (alu_mark _ _) [] rfl (by (conv => whnf); try rfl) (by (conv => whnf); try rfl) ?_
  conv => whnf
  exact ⟨rfl, rfl⟩
theorem x_add (A X Y S P PC m : Int) : ACalls Tryd.prog 24 [.pointer (some ⟨0, 0, none⟩), .int .u8 m] (filH A X Y S P PC) fun r H => r = .tuple #[] ∧ H = filH (addV A m P) X Y S (addQ A m P) PC := by
  refine ACalls.code tabOk h24 Tryd.func24 Tryd.call24 ok24 ?_
  conv => whnf
  refine ACalls.useE (alu_add _ _ _) [] rfl (by (conv => whnf); try rfl) (by (conv => whnf); try rfl) ?_
  conv => whnf
  exact ⟨rfl, rfl⟩
theorem x_sub (A X Y S P PC m : Int) : ACalls Tryd.prog 25 [.pointer (some ⟨0, 0, none⟩), .int .u8 m] (filH A X Y S P PC) fun r H => r = .tuple #[] ∧ H = filH (subV A m P) X Y S (binQ A (notF m) P) PC := by
  refine ACalls.code tabOk h25 Tryd.func25 Tryd.call25 ok25 ?_
  conv => whnf
  refine ACalls.useE (alu_sub _ _ _) [] rfl (by (conv => whnf); try rfl) (by (conv => whnf); try rfl) ?_
  conv => whnf
  exact ⟨rfl, rfl⟩
theorem x_compare (A X Y S P PC a m : Int) : ACalls Tryd.prog 26 [.pointer (some ⟨0, 0, none⟩), .int .u8 a, .int .u8 m] (filH A X Y S P PC) fun r H => r = .tuple #[] ∧ H = filH A X Y S (cmpF a m P) PC := by
  refine ACalls.code tabOk h26 Tryd.func26 Tryd.call26 ok26 ?_
  conv => whnf
  refine ACalls.useE (alu_compare _ _ _) [] rfl (by (conv => whnf); try rfl) (by (conv => whnf); try rfl) ?_
  conv => whnf
  exact ⟨rfl, rfl⟩
/-- What a read does to A, X, Y, S, P. -/
structure RdF where
  a : Int → Int → Int → Int → Int → Int → Int
  x : Int → Int → Int → Int → Int → Int → Int
  y : Int → Int → Int → Int → Int → Int → Int
  s : Int → Int → Int → Int → Int → Int → Int
  p : Int → Int → Int → Int → Int → Int → Int
/-- The registers as one value. -/
abbrev rgV (A X Y S P PC : Int) : Value := .agg #[.int .u8 A, .int .u8 X, .int .u8 Y, .int .u8 S, .int .u8 P, .int .u16 PC]
/-- By this name, a read does this. -/
def RdOk (nm : ByteArray) (F : RdF) : Prop := ∀ A X Y S P PC m : Int, ACalls Tryd.prog 10 [.string nm, rgV A X Y S P PC, .int .u8 m] [] fun r H => r = rgV (F.a A X Y S P m) (F.x A X Y S P m) (F.y A X Y S P m) (F.s A X Y S P m) (F.p A X Y S P m) PC ∧ H = []
theorem rdv_NOP (nm : ByteArray) (eORA : strEq nm ⟨#[79, 82, 65]⟩ = false) (eAND : strEq nm ⟨#[65, 78, 68]⟩ = false) (eEOR : strEq nm ⟨#[69, 79, 82]⟩ = false) (eADC : strEq nm ⟨#[65, 68, 67]⟩ = false) (eSBC : strEq nm ⟨#[83, 66, 67]⟩ = false) (eCMP : strEq nm ⟨#[67, 77, 80]⟩ = false) (eCPX : strEq nm ⟨#[67, 80, 88]⟩ = false) (eCPY : strEq nm ⟨#[67, 80, 89]⟩ = false) (eBIT : strEq nm ⟨#[66, 73, 84]⟩ = false) (eLAX : strEq nm ⟨#[76, 65, 88]⟩ = false) (eLDA : strEq nm ⟨#[76, 68, 65]⟩ = false) (eLDX : strEq nm ⟨#[76, 68, 88]⟩ = false) (eLDY : strEq nm ⟨#[76, 68, 89]⟩ = false) (eLAS : strEq nm ⟨#[76, 65, 83]⟩ = false) (eANC : strEq nm ⟨#[65, 78, 67]⟩ = false) (eALR : strEq nm ⟨#[65, 76, 82]⟩ = false) (eARR : strEq nm ⟨#[65, 82, 82]⟩ = false) (eANE : strEq nm ⟨#[65, 78, 69]⟩ = false) (eLXA : strEq nm ⟨#[76, 88, 65]⟩ = false) (eSBX : strEq nm ⟨#[83, 66, 88]⟩ = false) : RdOk nm ⟨fun A X Y S P m => A, fun A X Y S P m => X, fun A X Y S P m => Y, fun A X Y S P m => S, fun A X Y S P m => P⟩ := by
  intro A X Y S P PC m
  refine ACalls.code tabOk h10 Tryd.func10 Tryd.call10 ok10 ?_
  conv => whnf
  refine Bif.knF ?_ fun h0 => ?_
  · with_reducible assumption
  conv => whnf
  refine Bif.knF ?_ fun h1 => ?_
  · with_reducible assumption
  conv => whnf
  refine Bif.knF ?_ fun h2 => ?_
  · with_reducible assumption
  conv => whnf
  refine Bif.knF ?_ fun h3 => ?_
  · with_reducible assumption
  conv => whnf
  refine Bif.knF ?_ fun h4 => ?_
  · with_reducible assumption
  conv => whnf
  refine Bif.knF ?_ fun h5 => ?_
  · with_reducible assumption
  conv => whnf
  refine Bif.knF ?_ fun h6 => ?_
  · with_reducible assumption
  conv => whnf
  refine Bif.knF ?_ fun h7 => ?_
  · with_reducible assumption
  conv => whnf
  refine Bif.knF ?_ fun h8 => ?_
  · with_reducible assumption
  conv => whnf
  refine Bif.knF ?_ fun h9 => ?_
  · with_reducible assumption
  conv => whnf
  refine Bif.knF ?_ fun h10 => ?_
  · with_reducible assumption
  conv => whnf
  refine Bif.knF ?_ fun h11 => ?_
  · with_reducible assumption
  conv => whnf
  refine Bif.knF ?_ fun h12 => ?_
  · with_reducible assumption
  conv => whnf
  refine Bif.knF ?_ fun h13 => ?_
  · with_reducible assumption
  conv => whnf
  refine Bif.knF ?_ fun h14 => ?_
  · with_reducible assumption
  conv => whnf
  refine Bif.knF ?_ fun h15 => ?_
  · with_reducible assumption
  conv => whnf
  refine Bif.knF ?_ fun h16 => ?_
  · with_reducible assumption
  conv => whnf
  refine Bif.knF ?_ fun h17 => ?_
  · with_reducible assumption
  conv => whnf
  refine Bif.knF ?_ fun h18 => ?_
  · with_reducible assumption
  conv => whnf
  refine Bif.knF ?_ fun h19 => ?_
  · with_reducible assumption
  conv => whnf
  exact ⟨rfl, rfl⟩
theorem rd_NOP : RdOk ⟨#[78, 79, 80]⟩ ⟨fun A X Y S P m => A, fun A X Y S P m => X, fun A X Y S P m => Y, fun A X Y S P m => S, fun A X Y S P m => P⟩ := rdv_NOP _ (by unfold strEq; decide) (by unfold strEq; decide) (by unfold strEq; decide) (by unfold strEq; decide) (by unfold strEq; decide) (by unfold strEq; decide) (by unfold strEq; decide) (by unfold strEq; decide) (by unfold strEq; decide) (by unfold strEq; decide) (by unfold strEq; decide) (by unfold strEq; decide) (by unfold strEq; decide) (by unfold strEq; decide) (by unfold strEq; decide) (by unfold strEq; decide) (by unfold strEq; decide) (by unfold strEq; decide) (by unfold strEq; decide) (by unfold strEq; decide)
theorem rdv_none (nm : ByteArray) (eORA : strEq nm ⟨#[79, 82, 65]⟩ = false) (eAND : strEq nm ⟨#[65, 78, 68]⟩ = false) (eEOR : strEq nm ⟨#[69, 79, 82]⟩ = false) (eADC : strEq nm ⟨#[65, 68, 67]⟩ = false) (eSBC : strEq nm ⟨#[83, 66, 67]⟩ = false) (eCMP : strEq nm ⟨#[67, 77, 80]⟩ = false) (eCPX : strEq nm ⟨#[67, 80, 88]⟩ = false) (eCPY : strEq nm ⟨#[67, 80, 89]⟩ = false) (eBIT : strEq nm ⟨#[66, 73, 84]⟩ = false) (eLAX : strEq nm ⟨#[76, 65, 88]⟩ = false) (eLDA : strEq nm ⟨#[76, 68, 65]⟩ = false) (eLDX : strEq nm ⟨#[76, 68, 88]⟩ = false) (eLDY : strEq nm ⟨#[76, 68, 89]⟩ = false) (eLAS : strEq nm ⟨#[76, 65, 83]⟩ = false) (eANC : strEq nm ⟨#[65, 78, 67]⟩ = false) (eALR : strEq nm ⟨#[65, 76, 82]⟩ = false) (eARR : strEq nm ⟨#[65, 82, 82]⟩ = false) (eANE : strEq nm ⟨#[65, 78, 69]⟩ = false) (eLXA : strEq nm ⟨#[76, 88, 65]⟩ = false) (eSBX : strEq nm ⟨#[83, 66, 88]⟩ = false) : RdOk nm ⟨fun A X Y S P m => A, fun A X Y S P m => X, fun A X Y S P m => Y, fun A X Y S P m => S, fun A X Y S P m => P⟩ := by
  intro A X Y S P PC m
  refine ACalls.code tabOk h10 Tryd.func10 Tryd.call10 ok10 ?_
  conv => whnf
  refine Bif.knF ?_ fun h0 => ?_
  · with_reducible assumption
  conv => whnf
  refine Bif.knF ?_ fun h1 => ?_
  · with_reducible assumption
  conv => whnf
  refine Bif.knF ?_ fun h2 => ?_
  · with_reducible assumption
  conv => whnf
  refine Bif.knF ?_ fun h3 => ?_
  · with_reducible assumption
  conv => whnf
  refine Bif.knF ?_ fun h4 => ?_
  · with_reducible assumption
  conv => whnf
  refine Bif.knF ?_ fun h5 => ?_
  · with_reducible assumption
  conv => whnf
  refine Bif.knF ?_ fun h6 => ?_
  · with_reducible assumption
  conv => whnf
  refine Bif.knF ?_ fun h7 => ?_
  · with_reducible assumption
  conv => whnf
  refine Bif.knF ?_ fun h8 => ?_
  · with_reducible assumption
  conv => whnf
  refine Bif.knF ?_ fun h9 => ?_
  · with_reducible assumption
  conv => whnf
  refine Bif.knF ?_ fun h10 => ?_
  · with_reducible assumption
  conv => whnf
  refine Bif.knF ?_ fun h11 => ?_
  · with_reducible assumption
  conv => whnf
  refine Bif.knF ?_ fun h12 => ?_
  · with_reducible assumption
  conv => whnf
  refine Bif.knF ?_ fun h13 => ?_
  · with_reducible assumption
  conv => whnf
  refine Bif.knF ?_ fun h14 => ?_
  · with_reducible assumption
  conv => whnf
  refine Bif.knF ?_ fun h15 => ?_
  · with_reducible assumption
  conv => whnf
  refine Bif.knF ?_ fun h16 => ?_
  · with_reducible assumption
  conv => whnf
  refine Bif.knF ?_ fun h17 => ?_
  · with_reducible assumption
  conv => whnf
  refine Bif.knF ?_ fun h18 => ?_
  · with_reducible assumption
  conv => whnf
  refine Bif.knF ?_ fun h19 => ?_
  · with_reducible assumption
  conv => whnf
  exact ⟨rfl, rfl⟩
theorem rd_none : RdOk ⟨#[]⟩ ⟨fun A X Y S P m => A, fun A X Y S P m => X, fun A X Y S P m => Y, fun A X Y S P m => S, fun A X Y S P m => P⟩ := rdv_none _ (by unfold strEq; decide) (by unfold strEq; decide) (by unfold strEq; decide) (by unfold strEq; decide) (by unfold strEq; decide) (by unfold strEq; decide) (by unfold strEq; decide) (by unfold strEq; decide) (by unfold strEq; decide) (by unfold strEq; decide) (by unfold strEq; decide) (by unfold strEq; decide) (by unfold strEq; decide) (by unfold strEq; decide) (by unfold strEq; decide) (by unfold strEq; decide) (by unfold strEq; decide) (by unfold strEq; decide) (by unfold strEq; decide) (by unfold strEq; decide)
theorem rdv_ORA (nm : ByteArray) (eORA : strEq nm ⟨#[79, 82, 65]⟩ = true) : RdOk nm ⟨fun A X Y S P m => bits .or .u8 A m, fun A X Y S P m => X, fun A X Y S P m => Y, fun A X Y S P m => S, fun A X Y S P m => markF P (bits .or .u8 A m)⟩ := by
  intro A X Y S P PC m
  refine ACalls.code tabOk h10 Tryd.func10 Tryd.call10 ok10 ?_
  conv => whnf
  refine Bif.knT ?_ fun h0 => ?_
  · with_reducible assumption
  conv => whnf
  refine ACalls.useE (x_mark _ _ _ _ _ _ _) [2] rfl (by (conv => whnf); try rfl) (by (conv => whnf); try rfl) ?_
  conv => whnf
  exact ⟨rfl, rfl⟩
theorem rd_ORA : RdOk ⟨#[79, 82, 65]⟩ ⟨fun A X Y S P m => bits .or .u8 A m, fun A X Y S P m => X, fun A X Y S P m => Y, fun A X Y S P m => S, fun A X Y S P m => markF P (bits .or .u8 A m)⟩ := rdv_ORA _ (by unfold strEq; decide)
theorem rdv_AND (nm : ByteArray) (eORA : strEq nm ⟨#[79, 82, 65]⟩ = false) (eAND : strEq nm ⟨#[65, 78, 68]⟩ = true) : RdOk nm ⟨fun A X Y S P m => bits .and .u8 A m, fun A X Y S P m => X, fun A X Y S P m => Y, fun A X Y S P m => S, fun A X Y S P m => markF P (bits .and .u8 A m)⟩ := by
  intro A X Y S P PC m
  refine ACalls.code tabOk h10 Tryd.func10 Tryd.call10 ok10 ?_
  conv => whnf
  refine Bif.knF ?_ fun h0 => ?_
  · with_reducible assumption
  conv => whnf
  refine Bif.knT ?_ fun h1 => ?_
  · with_reducible assumption
  conv => whnf
  refine ACalls.useE (x_mark _ _ _ _ _ _ _) [2] rfl (by (conv => whnf); try rfl) (by (conv => whnf); try rfl) ?_
  conv => whnf
  exact ⟨rfl, rfl⟩
theorem rd_AND : RdOk ⟨#[65, 78, 68]⟩ ⟨fun A X Y S P m => bits .and .u8 A m, fun A X Y S P m => X, fun A X Y S P m => Y, fun A X Y S P m => S, fun A X Y S P m => markF P (bits .and .u8 A m)⟩ := rdv_AND _ (by unfold strEq; decide) (by unfold strEq; decide)
theorem rdv_EOR (nm : ByteArray) (eORA : strEq nm ⟨#[79, 82, 65]⟩ = false) (eAND : strEq nm ⟨#[65, 78, 68]⟩ = false) (eEOR : strEq nm ⟨#[69, 79, 82]⟩ = true) : RdOk nm ⟨fun A X Y S P m => bits .xor .u8 A m, fun A X Y S P m => X, fun A X Y S P m => Y, fun A X Y S P m => S, fun A X Y S P m => markF P (bits .xor .u8 A m)⟩ := by
  intro A X Y S P PC m
  refine ACalls.code tabOk h10 Tryd.func10 Tryd.call10 ok10 ?_
  conv => whnf
  refine Bif.knF ?_ fun h0 => ?_
  · with_reducible assumption
  conv => whnf
  refine Bif.knF ?_ fun h1 => ?_
  · with_reducible assumption
  conv => whnf
  refine Bif.knT ?_ fun h2 => ?_
  · with_reducible assumption
  conv => whnf
  refine ACalls.useE (x_mark _ _ _ _ _ _ _) [2] rfl (by (conv => whnf); try rfl) (by (conv => whnf); try rfl) ?_
  conv => whnf
  exact ⟨rfl, rfl⟩
theorem rd_EOR : RdOk ⟨#[69, 79, 82]⟩ ⟨fun A X Y S P m => bits .xor .u8 A m, fun A X Y S P m => X, fun A X Y S P m => Y, fun A X Y S P m => S, fun A X Y S P m => markF P (bits .xor .u8 A m)⟩ := rdv_EOR _ (by unfold strEq; decide) (by unfold strEq; decide) (by unfold strEq; decide)
theorem rdv_ADC (nm : ByteArray) (eORA : strEq nm ⟨#[79, 82, 65]⟩ = false) (eAND : strEq nm ⟨#[65, 78, 68]⟩ = false) (eEOR : strEq nm ⟨#[69, 79, 82]⟩ = false) (eADC : strEq nm ⟨#[65, 68, 67]⟩ = true) : RdOk nm ⟨fun A X Y S P m => addV A m P, fun A X Y S P m => X, fun A X Y S P m => Y, fun A X Y S P m => S, fun A X Y S P m => addQ A m P⟩ := by
  intro A X Y S P PC m
  refine ACalls.code tabOk h10 Tryd.func10 Tryd.call10 ok10 ?_
  conv => whnf
  refine Bif.knF ?_ fun h0 => ?_
  · with_reducible assumption
  conv => whnf
  refine Bif.knF ?_ fun h1 => ?_
  · with_reducible assumption
  conv => whnf
  refine Bif.knF ?_ fun h2 => ?_
  · with_reducible assumption
  conv => whnf
  refine Bif.knT ?_ fun h3 => ?_
  · with_reducible assumption
  conv => whnf
  refine ACalls.useE (x_add _ _ _ _ _ _ _) [2] rfl (by (conv => whnf); try rfl) (by (conv => whnf); try rfl) ?_
  conv => whnf
  exact ⟨rfl, rfl⟩
theorem rd_ADC : RdOk ⟨#[65, 68, 67]⟩ ⟨fun A X Y S P m => addV A m P, fun A X Y S P m => X, fun A X Y S P m => Y, fun A X Y S P m => S, fun A X Y S P m => addQ A m P⟩ := rdv_ADC _ (by unfold strEq; decide) (by unfold strEq; decide) (by unfold strEq; decide) (by unfold strEq; decide)
theorem rdv_SBC (nm : ByteArray) (eORA : strEq nm ⟨#[79, 82, 65]⟩ = false) (eAND : strEq nm ⟨#[65, 78, 68]⟩ = false) (eEOR : strEq nm ⟨#[69, 79, 82]⟩ = false) (eADC : strEq nm ⟨#[65, 68, 67]⟩ = false) (eSBC : strEq nm ⟨#[83, 66, 67]⟩ = true) : RdOk nm ⟨fun A X Y S P m => subV A m P, fun A X Y S P m => X, fun A X Y S P m => Y, fun A X Y S P m => S, fun A X Y S P m => binQ A (notF m) P⟩ := by
  intro A X Y S P PC m
  refine ACalls.code tabOk h10 Tryd.func10 Tryd.call10 ok10 ?_
  conv => whnf
  refine Bif.knF ?_ fun h0 => ?_
  · with_reducible assumption
  conv => whnf
  refine Bif.knF ?_ fun h1 => ?_
  · with_reducible assumption
  conv => whnf
  refine Bif.knF ?_ fun h2 => ?_
  · with_reducible assumption
  conv => whnf
  refine Bif.knF ?_ fun h3 => ?_
  · with_reducible assumption
  conv => whnf
  refine Bif.knT ?_ fun h4 => ?_
  · with_reducible assumption
  conv => whnf
  refine ACalls.useE (x_sub _ _ _ _ _ _ _) [2] rfl (by (conv => whnf); try rfl) (by (conv => whnf); try rfl) ?_
  conv => whnf
  exact ⟨rfl, rfl⟩
theorem rd_SBC : RdOk ⟨#[83, 66, 67]⟩ ⟨fun A X Y S P m => subV A m P, fun A X Y S P m => X, fun A X Y S P m => Y, fun A X Y S P m => S, fun A X Y S P m => binQ A (notF m) P⟩ := rdv_SBC _ (by unfold strEq; decide) (by unfold strEq; decide) (by unfold strEq; decide) (by unfold strEq; decide) (by unfold strEq; decide)
theorem rdv_CMP (nm : ByteArray) (eORA : strEq nm ⟨#[79, 82, 65]⟩ = false) (eAND : strEq nm ⟨#[65, 78, 68]⟩ = false) (eEOR : strEq nm ⟨#[69, 79, 82]⟩ = false) (eADC : strEq nm ⟨#[65, 68, 67]⟩ = false) (eSBC : strEq nm ⟨#[83, 66, 67]⟩ = false) (eCMP : strEq nm ⟨#[67, 77, 80]⟩ = true) : RdOk nm ⟨fun A X Y S P m => A, fun A X Y S P m => X, fun A X Y S P m => Y, fun A X Y S P m => S, fun A X Y S P m => cmpF A m P⟩ := by
  intro A X Y S P PC m
  refine ACalls.code tabOk h10 Tryd.func10 Tryd.call10 ok10 ?_
  conv => whnf
  refine Bif.knF ?_ fun h0 => ?_
  · with_reducible assumption
  conv => whnf
  refine Bif.knF ?_ fun h1 => ?_
  · with_reducible assumption
  conv => whnf
  refine Bif.knF ?_ fun h2 => ?_
  · with_reducible assumption
  conv => whnf
  refine Bif.knF ?_ fun h3 => ?_
  · with_reducible assumption
  conv => whnf
  refine Bif.knF ?_ fun h4 => ?_
  · with_reducible assumption
  conv => whnf
  refine Bif.knT ?_ fun h5 => ?_
  · with_reducible assumption
  conv => whnf
  refine ACalls.useE (x_compare _ _ _ _ _ _ _ _) [2] rfl (by (conv => whnf); try rfl) (by (conv => whnf); try rfl) ?_
  conv => whnf
  exact ⟨rfl, rfl⟩
theorem rd_CMP : RdOk ⟨#[67, 77, 80]⟩ ⟨fun A X Y S P m => A, fun A X Y S P m => X, fun A X Y S P m => Y, fun A X Y S P m => S, fun A X Y S P m => cmpF A m P⟩ := rdv_CMP _ (by unfold strEq; decide) (by unfold strEq; decide) (by unfold strEq; decide) (by unfold strEq; decide) (by unfold strEq; decide) (by unfold strEq; decide)
theorem rdv_CPX (nm : ByteArray) (eORA : strEq nm ⟨#[79, 82, 65]⟩ = false) (eAND : strEq nm ⟨#[65, 78, 68]⟩ = false) (eEOR : strEq nm ⟨#[69, 79, 82]⟩ = false) (eADC : strEq nm ⟨#[65, 68, 67]⟩ = false) (eSBC : strEq nm ⟨#[83, 66, 67]⟩ = false) (eCMP : strEq nm ⟨#[67, 77, 80]⟩ = false) (eCPX : strEq nm ⟨#[67, 80, 88]⟩ = true) : RdOk nm ⟨fun A X Y S P m => A, fun A X Y S P m => X, fun A X Y S P m => Y, fun A X Y S P m => S, fun A X Y S P m => cmpF X m P⟩ := by
  intro A X Y S P PC m
  refine ACalls.code tabOk h10 Tryd.func10 Tryd.call10 ok10 ?_
  conv => whnf
  refine Bif.knF ?_ fun h0 => ?_
  · with_reducible assumption
  conv => whnf
  refine Bif.knF ?_ fun h1 => ?_
  · with_reducible assumption
  conv => whnf
  refine Bif.knF ?_ fun h2 => ?_
  · with_reducible assumption
  conv => whnf
  refine Bif.knF ?_ fun h3 => ?_
  · with_reducible assumption
  conv => whnf
  refine Bif.knF ?_ fun h4 => ?_
  · with_reducible assumption
  conv => whnf
  refine Bif.knF ?_ fun h5 => ?_
  · with_reducible assumption
  conv => whnf
  refine Bif.knT ?_ fun h6 => ?_
  · with_reducible assumption
  conv => whnf
  refine ACalls.useE (x_compare _ _ _ _ _ _ _ _) [2] rfl (by (conv => whnf); try rfl) (by (conv => whnf); try rfl) ?_
  conv => whnf
  exact ⟨rfl, rfl⟩
theorem rd_CPX : RdOk ⟨#[67, 80, 88]⟩ ⟨fun A X Y S P m => A, fun A X Y S P m => X, fun A X Y S P m => Y, fun A X Y S P m => S, fun A X Y S P m => cmpF X m P⟩ := rdv_CPX _ (by unfold strEq; decide) (by unfold strEq; decide) (by unfold strEq; decide) (by unfold strEq; decide) (by unfold strEq; decide) (by unfold strEq; decide) (by unfold strEq; decide)
theorem rdv_CPY (nm : ByteArray) (eORA : strEq nm ⟨#[79, 82, 65]⟩ = false) (eAND : strEq nm ⟨#[65, 78, 68]⟩ = false) (eEOR : strEq nm ⟨#[69, 79, 82]⟩ = false) (eADC : strEq nm ⟨#[65, 68, 67]⟩ = false) (eSBC : strEq nm ⟨#[83, 66, 67]⟩ = false) (eCMP : strEq nm ⟨#[67, 77, 80]⟩ = false) (eCPX : strEq nm ⟨#[67, 80, 88]⟩ = false) (eCPY : strEq nm ⟨#[67, 80, 89]⟩ = true) : RdOk nm ⟨fun A X Y S P m => A, fun A X Y S P m => X, fun A X Y S P m => Y, fun A X Y S P m => S, fun A X Y S P m => cmpF Y m P⟩ := by
  intro A X Y S P PC m
  refine ACalls.code tabOk h10 Tryd.func10 Tryd.call10 ok10 ?_
  conv => whnf
  refine Bif.knF ?_ fun h0 => ?_
  · with_reducible assumption
  conv => whnf
  refine Bif.knF ?_ fun h1 => ?_
  · with_reducible assumption
  conv => whnf
  refine Bif.knF ?_ fun h2 => ?_
  · with_reducible assumption
  conv => whnf
  refine Bif.knF ?_ fun h3 => ?_
  · with_reducible assumption
  conv => whnf
  refine Bif.knF ?_ fun h4 => ?_
  · with_reducible assumption
  conv => whnf
  refine Bif.knF ?_ fun h5 => ?_
  · with_reducible assumption
  conv => whnf
  refine Bif.knF ?_ fun h6 => ?_
  · with_reducible assumption
  conv => whnf
  refine Bif.knT ?_ fun h7 => ?_
  · with_reducible assumption
  conv => whnf
  refine ACalls.useE (x_compare _ _ _ _ _ _ _ _) [2] rfl (by (conv => whnf); try rfl) (by (conv => whnf); try rfl) ?_
  conv => whnf
  exact ⟨rfl, rfl⟩
theorem rd_CPY : RdOk ⟨#[67, 80, 89]⟩ ⟨fun A X Y S P m => A, fun A X Y S P m => X, fun A X Y S P m => Y, fun A X Y S P m => S, fun A X Y S P m => cmpF Y m P⟩ := rdv_CPY _ (by unfold strEq; decide) (by unfold strEq; decide) (by unfold strEq; decide) (by unfold strEq; decide) (by unfold strEq; decide) (by unfold strEq; decide) (by unfold strEq; decide) (by unfold strEq; decide)
theorem rdv_BIT (nm : ByteArray) (eORA : strEq nm ⟨#[79, 82, 65]⟩ = false) (eAND : strEq nm ⟨#[65, 78, 68]⟩ = false) (eEOR : strEq nm ⟨#[69, 79, 82]⟩ = false) (eADC : strEq nm ⟨#[65, 68, 67]⟩ = false) (eSBC : strEq nm ⟨#[83, 66, 67]⟩ = false) (eCMP : strEq nm ⟨#[67, 77, 80]⟩ = false) (eCPX : strEq nm ⟨#[67, 80, 88]⟩ = false) (eCPY : strEq nm ⟨#[67, 80, 89]⟩ = false) (eBIT : strEq nm ⟨#[66, 73, 84]⟩ = true) : RdOk nm ⟨fun A X Y S P m => A, fun A X Y S P m => X, fun A X Y S P m => Y, fun A X Y S P m => S, fun A X Y S P m => bitF A m P⟩ := by
  intro A X Y S P PC m
  refine ACalls.code tabOk h10 Tryd.func10 Tryd.call10 ok10 ?_
  conv => whnf
  refine Bif.knF ?_ fun h0 => ?_
  · with_reducible assumption
  conv => whnf
  refine Bif.knF ?_ fun h1 => ?_
  · with_reducible assumption
  conv => whnf
  refine Bif.knF ?_ fun h2 => ?_
  · with_reducible assumption
  conv => whnf
  refine Bif.knF ?_ fun h3 => ?_
  · with_reducible assumption
  conv => whnf
  refine Bif.knF ?_ fun h4 => ?_
  · with_reducible assumption
  conv => whnf
  refine Bif.knF ?_ fun h5 => ?_
  · with_reducible assumption
  conv => whnf
  refine Bif.knF ?_ fun h6 => ?_
  · with_reducible assumption
  conv => whnf
  refine Bif.knF ?_ fun h7 => ?_
  · with_reducible assumption
  conv => whnf
  refine Bif.knT ?_ fun h8 => ?_
  · with_reducible assumption
  conv => whnf
  refine ACalls.useE (alu_bit _ _ _) [] rfl (by (conv => whnf); try rfl) (by (conv => whnf); try rfl) ?_
  conv => whnf
  exact ⟨rfl, rfl⟩
theorem rd_BIT : RdOk ⟨#[66, 73, 84]⟩ ⟨fun A X Y S P m => A, fun A X Y S P m => X, fun A X Y S P m => Y, fun A X Y S P m => S, fun A X Y S P m => bitF A m P⟩ := rdv_BIT _ (by unfold strEq; decide) (by unfold strEq; decide) (by unfold strEq; decide) (by unfold strEq; decide) (by unfold strEq; decide) (by unfold strEq; decide) (by unfold strEq; decide) (by unfold strEq; decide) (by unfold strEq; decide)
theorem rdv_LAX (nm : ByteArray) (eORA : strEq nm ⟨#[79, 82, 65]⟩ = false) (eAND : strEq nm ⟨#[65, 78, 68]⟩ = false) (eEOR : strEq nm ⟨#[69, 79, 82]⟩ = false) (eADC : strEq nm ⟨#[65, 68, 67]⟩ = false) (eSBC : strEq nm ⟨#[83, 66, 67]⟩ = false) (eCMP : strEq nm ⟨#[67, 77, 80]⟩ = false) (eCPX : strEq nm ⟨#[67, 80, 88]⟩ = false) (eCPY : strEq nm ⟨#[67, 80, 89]⟩ = false) (eBIT : strEq nm ⟨#[66, 73, 84]⟩ = false) (eLAX : strEq nm ⟨#[76, 65, 88]⟩ = true) : RdOk nm ⟨fun A X Y S P m => m, fun A X Y S P m => m, fun A X Y S P m => Y, fun A X Y S P m => S, fun A X Y S P m => markF P m⟩ := by
  intro A X Y S P PC m
  refine ACalls.code tabOk h10 Tryd.func10 Tryd.call10 ok10 ?_
  conv => whnf
  refine Bif.knF ?_ fun h0 => ?_
  · with_reducible assumption
  conv => whnf
  refine Bif.knF ?_ fun h1 => ?_
  · with_reducible assumption
  conv => whnf
  refine Bif.knF ?_ fun h2 => ?_
  · with_reducible assumption
  conv => whnf
  refine Bif.knF ?_ fun h3 => ?_
  · with_reducible assumption
  conv => whnf
  refine Bif.knF ?_ fun h4 => ?_
  · with_reducible assumption
  conv => whnf
  refine Bif.knF ?_ fun h5 => ?_
  · with_reducible assumption
  conv => whnf
  refine Bif.knF ?_ fun h6 => ?_
  · with_reducible assumption
  conv => whnf
  refine Bif.knF ?_ fun h7 => ?_
  · with_reducible assumption
  conv => whnf
  refine Bif.knF ?_ fun h8 => ?_
  · with_reducible assumption
  conv => whnf
  refine Bif.knT ?_ fun h9 => ?_
  · with_reducible assumption
  conv => whnf
  refine ACalls.useE (x_mark _ _ _ _ _ _ _) [2] rfl (by (conv => whnf); try rfl) (by (conv => whnf); try rfl) ?_
  conv => whnf
  exact ⟨rfl, rfl⟩
theorem rd_LAX : RdOk ⟨#[76, 65, 88]⟩ ⟨fun A X Y S P m => m, fun A X Y S P m => m, fun A X Y S P m => Y, fun A X Y S P m => S, fun A X Y S P m => markF P m⟩ := rdv_LAX _ (by unfold strEq; decide) (by unfold strEq; decide) (by unfold strEq; decide) (by unfold strEq; decide) (by unfold strEq; decide) (by unfold strEq; decide) (by unfold strEq; decide) (by unfold strEq; decide) (by unfold strEq; decide) (by unfold strEq; decide)
theorem rdv_LDA (nm : ByteArray) (eORA : strEq nm ⟨#[79, 82, 65]⟩ = false) (eAND : strEq nm ⟨#[65, 78, 68]⟩ = false) (eEOR : strEq nm ⟨#[69, 79, 82]⟩ = false) (eADC : strEq nm ⟨#[65, 68, 67]⟩ = false) (eSBC : strEq nm ⟨#[83, 66, 67]⟩ = false) (eCMP : strEq nm ⟨#[67, 77, 80]⟩ = false) (eCPX : strEq nm ⟨#[67, 80, 88]⟩ = false) (eCPY : strEq nm ⟨#[67, 80, 89]⟩ = false) (eBIT : strEq nm ⟨#[66, 73, 84]⟩ = false) (eLAX : strEq nm ⟨#[76, 65, 88]⟩ = false) (eLDA : strEq nm ⟨#[76, 68, 65]⟩ = true) : RdOk nm ⟨fun A X Y S P m => m, fun A X Y S P m => X, fun A X Y S P m => Y, fun A X Y S P m => S, fun A X Y S P m => markF P m⟩ := by
  intro A X Y S P PC m
  refine ACalls.code tabOk h10 Tryd.func10 Tryd.call10 ok10 ?_
  conv => whnf
  refine Bif.knF ?_ fun h0 => ?_
  · with_reducible assumption
  conv => whnf
  refine Bif.knF ?_ fun h1 => ?_
  · with_reducible assumption
  conv => whnf
  refine Bif.knF ?_ fun h2 => ?_
  · with_reducible assumption
  conv => whnf
  refine Bif.knF ?_ fun h3 => ?_
  · with_reducible assumption
  conv => whnf
  refine Bif.knF ?_ fun h4 => ?_
  · with_reducible assumption
  conv => whnf
  refine Bif.knF ?_ fun h5 => ?_
  · with_reducible assumption
  conv => whnf
  refine Bif.knF ?_ fun h6 => ?_
  · with_reducible assumption
  conv => whnf
  refine Bif.knF ?_ fun h7 => ?_
  · with_reducible assumption
  conv => whnf
  refine Bif.knF ?_ fun h8 => ?_
  · with_reducible assumption
  conv => whnf
  refine Bif.knF ?_ fun h9 => ?_
  · with_reducible assumption
  conv => whnf
  refine Bif.knT ?_ fun h10 => ?_
  · with_reducible assumption
  conv => whnf
  refine ACalls.useE (x_mark _ _ _ _ _ _ _) [2] rfl (by (conv => whnf); try rfl) (by (conv => whnf); try rfl) ?_
  conv => whnf
  exact ⟨rfl, rfl⟩
theorem rd_LDA : RdOk ⟨#[76, 68, 65]⟩ ⟨fun A X Y S P m => m, fun A X Y S P m => X, fun A X Y S P m => Y, fun A X Y S P m => S, fun A X Y S P m => markF P m⟩ := rdv_LDA _ (by unfold strEq; decide) (by unfold strEq; decide) (by unfold strEq; decide) (by unfold strEq; decide) (by unfold strEq; decide) (by unfold strEq; decide) (by unfold strEq; decide) (by unfold strEq; decide) (by unfold strEq; decide) (by unfold strEq; decide) (by unfold strEq; decide)
theorem rdv_LDX (nm : ByteArray) (eORA : strEq nm ⟨#[79, 82, 65]⟩ = false) (eAND : strEq nm ⟨#[65, 78, 68]⟩ = false) (eEOR : strEq nm ⟨#[69, 79, 82]⟩ = false) (eADC : strEq nm ⟨#[65, 68, 67]⟩ = false) (eSBC : strEq nm ⟨#[83, 66, 67]⟩ = false) (eCMP : strEq nm ⟨#[67, 77, 80]⟩ = false) (eCPX : strEq nm ⟨#[67, 80, 88]⟩ = false) (eCPY : strEq nm ⟨#[67, 80, 89]⟩ = false) (eBIT : strEq nm ⟨#[66, 73, 84]⟩ = false) (eLAX : strEq nm ⟨#[76, 65, 88]⟩ = false) (eLDA : strEq nm ⟨#[76, 68, 65]⟩ = false) (eLDX : strEq nm ⟨#[76, 68, 88]⟩ = true) : RdOk nm ⟨fun A X Y S P m => A, fun A X Y S P m => m, fun A X Y S P m => Y, fun A X Y S P m => S, fun A X Y S P m => markF P m⟩ := by
  intro A X Y S P PC m
  refine ACalls.code tabOk h10 Tryd.func10 Tryd.call10 ok10 ?_
  conv => whnf
  refine Bif.knF ?_ fun h0 => ?_
  · with_reducible assumption
  conv => whnf
  refine Bif.knF ?_ fun h1 => ?_
  · with_reducible assumption
  conv => whnf
  refine Bif.knF ?_ fun h2 => ?_
  · with_reducible assumption
  conv => whnf
  refine Bif.knF ?_ fun h3 => ?_
  · with_reducible assumption
  conv => whnf
  refine Bif.knF ?_ fun h4 => ?_
  · with_reducible assumption
  conv => whnf
  refine Bif.knF ?_ fun h5 => ?_
  · with_reducible assumption
  conv => whnf
  refine Bif.knF ?_ fun h6 => ?_
  · with_reducible assumption
  conv => whnf
  refine Bif.knF ?_ fun h7 => ?_
  · with_reducible assumption
  conv => whnf
  refine Bif.knF ?_ fun h8 => ?_
  · with_reducible assumption
  conv => whnf
  refine Bif.knF ?_ fun h9 => ?_
  · with_reducible assumption
  conv => whnf
  refine Bif.knF ?_ fun h10 => ?_
  · with_reducible assumption
  conv => whnf
  refine Bif.knT ?_ fun h11 => ?_
  · with_reducible assumption
  conv => whnf
  refine ACalls.useE (x_mark _ _ _ _ _ _ _) [2] rfl (by (conv => whnf); try rfl) (by (conv => whnf); try rfl) ?_
  conv => whnf
  exact ⟨rfl, rfl⟩
theorem rd_LDX : RdOk ⟨#[76, 68, 88]⟩ ⟨fun A X Y S P m => A, fun A X Y S P m => m, fun A X Y S P m => Y, fun A X Y S P m => S, fun A X Y S P m => markF P m⟩ := rdv_LDX _ (by unfold strEq; decide) (by unfold strEq; decide) (by unfold strEq; decide) (by unfold strEq; decide) (by unfold strEq; decide) (by unfold strEq; decide) (by unfold strEq; decide) (by unfold strEq; decide) (by unfold strEq; decide) (by unfold strEq; decide) (by unfold strEq; decide) (by unfold strEq; decide)
theorem rdv_LDY (nm : ByteArray) (eORA : strEq nm ⟨#[79, 82, 65]⟩ = false) (eAND : strEq nm ⟨#[65, 78, 68]⟩ = false) (eEOR : strEq nm ⟨#[69, 79, 82]⟩ = false) (eADC : strEq nm ⟨#[65, 68, 67]⟩ = false) (eSBC : strEq nm ⟨#[83, 66, 67]⟩ = false) (eCMP : strEq nm ⟨#[67, 77, 80]⟩ = false) (eCPX : strEq nm ⟨#[67, 80, 88]⟩ = false) (eCPY : strEq nm ⟨#[67, 80, 89]⟩ = false) (eBIT : strEq nm ⟨#[66, 73, 84]⟩ = false) (eLAX : strEq nm ⟨#[76, 65, 88]⟩ = false) (eLDA : strEq nm ⟨#[76, 68, 65]⟩ = false) (eLDX : strEq nm ⟨#[76, 68, 88]⟩ = false) (eLDY : strEq nm ⟨#[76, 68, 89]⟩ = true) : RdOk nm ⟨fun A X Y S P m => A, fun A X Y S P m => X, fun A X Y S P m => m, fun A X Y S P m => S, fun A X Y S P m => markF P m⟩ := by
  intro A X Y S P PC m
  refine ACalls.code tabOk h10 Tryd.func10 Tryd.call10 ok10 ?_
  conv => whnf
  refine Bif.knF ?_ fun h0 => ?_
  · with_reducible assumption
  conv => whnf
  refine Bif.knF ?_ fun h1 => ?_
  · with_reducible assumption
  conv => whnf
  refine Bif.knF ?_ fun h2 => ?_
  · with_reducible assumption
  conv => whnf
  refine Bif.knF ?_ fun h3 => ?_
  · with_reducible assumption
  conv => whnf
  refine Bif.knF ?_ fun h4 => ?_
  · with_reducible assumption
  conv => whnf
  refine Bif.knF ?_ fun h5 => ?_
  · with_reducible assumption
  conv => whnf
  refine Bif.knF ?_ fun h6 => ?_
  · with_reducible assumption
  conv => whnf
  refine Bif.knF ?_ fun h7 => ?_
  · with_reducible assumption
  conv => whnf
  refine Bif.knF ?_ fun h8 => ?_
  · with_reducible assumption
  conv => whnf
  refine Bif.knF ?_ fun h9 => ?_
  · with_reducible assumption
  conv => whnf
  refine Bif.knF ?_ fun h10 => ?_
  · with_reducible assumption
  conv => whnf
  refine Bif.knF ?_ fun h11 => ?_
  · with_reducible assumption
  conv => whnf
  refine Bif.knT ?_ fun h12 => ?_
  · with_reducible assumption
  conv => whnf
  refine ACalls.useE (x_mark _ _ _ _ _ _ _) [2] rfl (by (conv => whnf); try rfl) (by (conv => whnf); try rfl) ?_
  conv => whnf
  exact ⟨rfl, rfl⟩
theorem rd_LDY : RdOk ⟨#[76, 68, 89]⟩ ⟨fun A X Y S P m => A, fun A X Y S P m => X, fun A X Y S P m => m, fun A X Y S P m => S, fun A X Y S P m => markF P m⟩ := rdv_LDY _ (by unfold strEq; decide) (by unfold strEq; decide) (by unfold strEq; decide) (by unfold strEq; decide) (by unfold strEq; decide) (by unfold strEq; decide) (by unfold strEq; decide) (by unfold strEq; decide) (by unfold strEq; decide) (by unfold strEq; decide) (by unfold strEq; decide) (by unfold strEq; decide) (by unfold strEq; decide)
end Go.Proofs
