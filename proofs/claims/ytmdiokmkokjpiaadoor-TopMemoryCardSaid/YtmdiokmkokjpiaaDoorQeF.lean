/-
  The processor's steps.
-/
import Derived.Test.YtmdiokmkokjpiaaDoorQdF
set_option linter.all false
set_option linter.unusedVariables false
set_option linter.unusedSimpArgs false
set_option linter.unnecessarySimpa false
set_option linter.unusedSectionVars false
namespace Go.Proofs
open Go.Aw
variable [Base]
set_option maxRecDepth 100000
set_option maxHeartbeats 8000000
attribute [local irreducible] setF Go.Proofs.oneF markF overF binT binQ
/-- A processor's cells. -/
abbrev cpu (A X Y S P PC at' op : Int) (nm : ByteArray) (md kd : Int) (kn : Bool) (pl wr b : Int) : List Value :=
  [.int .u8 A, .int .u8 X, .int .u8 Y, .int .u8 S, .int .u8 P, .int .u16 PC, .int .u8 at', .int .u8 op, .string nm, .int .u8 md, .int .u8 kd, .bool kn, .int .u16 pl, .int .u16 wr, .int .u8 b]
abbrev cpH (A X Y S P PC at' op : Int) (nm : ByteArray) (md kd : Int) (kn : Bool) (pl wr b : Int) : List Blk := [.cells (cpu A X Y S P PC at' op nm md kd kn pl wr b) 60]
/-- What a byte is as a code. -/
def CdOk (v : Int) (nm : ByteArray) (md kd : Int) (kn : Bool) : Prop := ACalls Tryd.prog 6 [.int .u8 v] [] fun r H => r = .agg #[.string nm, .int .u8 md, .int .u8 kd, .bool kn] ∧ H = []
def wordF (l h : Int) : Int := bits .or .u16 (IntKind.u16.wrap (IntKind.u16.wrap h * 2 ^ min (8 : Int).toNat IntKind.u16.bits)) (IntKind.u16.wrap l)
def stkF (S : Int) : Int := bits .and .u16 (bits .or .u16 256 (IntKind.u16.wrap S)) 8191
def adrF (p : Int) : Int := bits .and .u16 p 8191
def clnF (p : Int) : Int := bits .or .u8 (bits .andNot .u8 p 16) 32
/-- It asks for this. -/
def PiOk (c : List Value) (a : Int) (w : Bool) (d : Int) : Prop := ACalls Tryd.prog 16 [.pointer (some ⟨0, 0, none⟩)] [.cells c 60] fun r H => r = .agg #[.int .u16 a, .bool w, .int .u8 d] ∧ H = [.cells c 60]
/-- With this byte, it goes on to that. -/
def CkOk (v : Int) (c c2 : List Value) : Prop := ACalls Tryd.prog 15 [.pointer (some ⟨0, 0, none⟩), .int .u8 v] [.cells c 60] fun r H => r = .tuple #[] ∧ H = [.cells c2 60]
section
variable {A X Y S P PC op : Int} {nm : ByteArray} {md kd : Int} {kn : Bool} {pl wr b : Int}
theorem pi_fetch  : PiOk (cpu A X Y S P PC 0 op nm md kd kn pl wr b) (adrF PC) false (0) := by
  refine ACalls.code tabOk h16 Tryd.func16 Tryd.call16 ok16 ?_
  conv => whnf
  refine ACalls.code tabOk h45 Tryd.func45 Tryd.call45 ok45 ?_
  conv => whnf
  exact ⟨rfl, rfl⟩
theorem pi_near  : PiOk (cpu A X Y S P PC 11 op nm md kd kn pl wr b) (adrF PC) false (0) := by
  refine ACalls.code tabOk h16 Tryd.func16 Tryd.call16 ok16 ?_
  conv => whnf
  refine ACalls.code tabOk h45 Tryd.func45 Tryd.call45 ok45 ?_
  conv => whnf
  exact ⟨rfl, rfl⟩
theorem pi_lower  : PiOk (cpu A X Y S P PC 13 op nm md kd kn pl wr b) (adrF PC) false (0) := by
  refine ACalls.code tabOk h16 Tryd.func16 Tryd.call16 ok16 ?_
  conv => whnf
  refine ACalls.code tabOk h45 Tryd.func45 Tryd.call45 ok45 ?_
  conv => whnf
  exact ⟨rfl, rfl⟩
theorem pi_upper  : PiOk (cpu A X Y S P PC 14 op nm md kd kn pl wr b) (adrF PC) false (0) := by
  refine ACalls.code tabOk h16 Tryd.func16 Tryd.call16 ok16 ?_
  conv => whnf
  refine ACalls.code tabOk h45 Tryd.func45 Tryd.call45 ok45 ?_
  conv => whnf
  exact ⟨rfl, rfl⟩
theorem pi_push1  : PiOk (cpu A X Y S P PC 27 op nm md kd kn pl wr b) (adrF PC) false (0) := by
  refine ACalls.code tabOk h16 Tryd.func16 Tryd.call16 ok16 ?_
  conv => whnf
  refine ACalls.code tabOk h45 Tryd.func45 Tryd.call45 ok45 ?_
  conv => whnf
  exact ⟨rfl, rfl⟩
theorem pi_pull1  : PiOk (cpu A X Y S P PC 29 op nm md kd kn pl wr b) (adrF PC) false (0) := by
  refine ACalls.code tabOk h16 Tryd.func16 Tryd.call16 ok16 ?_
  conv => whnf
  refine ACalls.code tabOk h45 Tryd.func45 Tryd.call45 ok45 ?_
  conv => whnf
  exact ⟨rfl, rfl⟩
theorem pi_call1  : PiOk (cpu A X Y S P PC 36 op nm md kd kn pl wr b) (adrF PC) false (0) := by
  refine ACalls.code tabOk h16 Tryd.func16 Tryd.call16 ok16 ?_
  conv => whnf
  refine ACalls.code tabOk h45 Tryd.func45 Tryd.call45 ok45 ?_
  conv => whnf
  exact ⟨rfl, rfl⟩
theorem pi_call5  : PiOk (cpu A X Y S P PC 40 op nm md kd kn pl wr b) (adrF PC) false (0) := by
  refine ACalls.code tabOk h16 Tryd.func16 Tryd.call16 ok16 ?_
  conv => whnf
  refine ACalls.code tabOk h45 Tryd.func45 Tryd.call45 ok45 ?_
  conv => whnf
  exact ⟨rfl, rfl⟩
theorem pi_back1  : PiOk (cpu A X Y S P PC 41 op nm md kd kn pl wr b) (adrF PC) false (0) := by
  refine ACalls.code tabOk h16 Tryd.func16 Tryd.call16 ok16 ?_
  conv => whnf
  refine ACalls.code tabOk h45 Tryd.func45 Tryd.call45 ok45 ?_
  conv => whnf
  exact ⟨rfl, rfl⟩
theorem pi_back5  : PiOk (cpu A X Y S P PC 45 op nm md kd kn pl wr b) (adrF PC) false (0) := by
  refine ACalls.code tabOk h16 Tryd.func16 Tryd.call16 ok16 ?_
  conv => whnf
  refine ACalls.code tabOk h45 Tryd.func45 Tryd.call45 ok45 ?_
  conv => whnf
  exact ⟨rfl, rfl⟩
theorem pi_pull2  : PiOk (cpu A X Y S P PC 30 op nm md kd kn pl wr b) (stkF S) false (0) := by
  refine ACalls.code tabOk h16 Tryd.func16 Tryd.call16 ok16 ?_
  conv => whnf
  refine ACalls.code tabOk h46 Tryd.func46 Tryd.call46 ok46 ?_
  conv => whnf
  refine ACalls.code tabOk h45 Tryd.func45 Tryd.call45 ok45 ?_
  conv => whnf
  exact ⟨rfl, rfl⟩
theorem pi_pull3  : PiOk (cpu A X Y S P PC 31 op nm md kd kn pl wr b) (stkF S) false (0) := by
  refine ACalls.code tabOk h16 Tryd.func16 Tryd.call16 ok16 ?_
  conv => whnf
  refine ACalls.code tabOk h46 Tryd.func46 Tryd.call46 ok46 ?_
  conv => whnf
  refine ACalls.code tabOk h45 Tryd.func45 Tryd.call45 ok45 ?_
  conv => whnf
  exact ⟨rfl, rfl⟩
theorem pi_call2  : PiOk (cpu A X Y S P PC 37 op nm md kd kn pl wr b) (stkF S) false (0) := by
  refine ACalls.code tabOk h16 Tryd.func16 Tryd.call16 ok16 ?_
  conv => whnf
  refine ACalls.code tabOk h46 Tryd.func46 Tryd.call46 ok46 ?_
  conv => whnf
  refine ACalls.code tabOk h45 Tryd.func45 Tryd.call45 ok45 ?_
  conv => whnf
  exact ⟨rfl, rfl⟩
theorem pi_back2  : PiOk (cpu A X Y S P PC 42 op nm md kd kn pl wr b) (stkF S) false (0) := by
  refine ACalls.code tabOk h16 Tryd.func16 Tryd.call16 ok16 ?_
  conv => whnf
  refine ACalls.code tabOk h46 Tryd.func46 Tryd.call46 ok46 ?_
  conv => whnf
  refine ACalls.code tabOk h45 Tryd.func45 Tryd.call45 ok45 ?_
  conv => whnf
  exact ⟨rfl, rfl⟩
theorem pi_back3  : PiOk (cpu A X Y S P PC 43 op nm md kd kn pl wr b) (stkF S) false (0) := by
  refine ACalls.code tabOk h16 Tryd.func16 Tryd.call16 ok16 ?_
  conv => whnf
  refine ACalls.code tabOk h46 Tryd.func46 Tryd.call46 ok46 ?_
  conv => whnf
  refine ACalls.code tabOk h45 Tryd.func45 Tryd.call45 ok45 ?_
  conv => whnf
  exact ⟨rfl, rfl⟩
theorem pi_back4  : PiOk (cpu A X Y S P PC 44 op nm md kd kn pl wr b) (stkF S) false (0) := by
  refine ACalls.code tabOk h16 Tryd.func16 Tryd.call16 ok16 ?_
  conv => whnf
  refine ACalls.code tabOk h46 Tryd.func46 Tryd.call46 ok46 ?_
  conv => whnf
  refine ACalls.code tabOk h45 Tryd.func45 Tryd.call45 ok45 ?_
  conv => whnf
  exact ⟨rfl, rfl⟩
theorem pi_load  : PiOk (cpu A X Y S P PC 20 op nm md kd kn pl wr b) (adrF pl) false (0) := by
  refine ACalls.code tabOk h16 Tryd.func16 Tryd.call16 ok16 ?_
  conv => whnf
  refine ACalls.code tabOk h45 Tryd.func45 Tryd.call45 ok45 ?_
  conv => whnf
  exact ⟨rfl, rfl⟩
theorem pi_store {V : Int → Int → Int → Int} (hS : StOk nm V) (hU : UnOk nm) : PiOk (cpu A X Y S P PC 21 op nm md kd kn pl wr b) (adrF pl) true (V A X Y) := by
  refine ACalls.code tabOk h16 Tryd.func16 Tryd.call16 ok16 ?_
  conv => whnf
  refine ACalls.code tabOk h42 Tryd.func42 Tryd.call42 ok42 ?_
  conv => whnf
  refine ACalls.code tabOk h62 Tryd.func62 Tryd.call62 ok62 ?_
  conv => whnf
  refine ⟨rfl, ?_⟩
  conv => whnf
  refine ⟨rfl, ?_⟩
  conv => whnf
  refine ACalls.useE (hS _ _ _ _ _ _ _) [] rfl (by (conv => whnf); try rfl) (by (conv => whnf); try rfl) ?_
  conv => whnf
  refine ACalls.useE (hU) [] rfl (by (conv => whnf); try rfl) (by (conv => whnf); try rfl) ?_
  conv => whnf
  refine ACalls.code tabOk h47 Tryd.func47 Tryd.call47 ok47 ?_
  conv => whnf
  exact ⟨rfl, rfl⟩
theorem pi_again  : PiOk (cpu A X Y S P PC 22 op nm md kd kn pl wr b) (adrF pl) true (b) := by
  refine ACalls.code tabOk h16 Tryd.func16 Tryd.call16 ok16 ?_
  conv => whnf
  refine ACalls.code tabOk h47 Tryd.func47 Tryd.call47 ok47 ?_
  conv => whnf
  exact ⟨rfl, rfl⟩
theorem pi_put {V : Int → Int → Int → Int → Int → Int → Int} {F : RdF} (hT : TnOk nm V F) : PiOk (cpu A X Y S P PC 23 op nm md kd kn pl wr b) (adrF pl) true (V A X Y S P b) := by
  refine ACalls.code tabOk h16 Tryd.func16 Tryd.call16 ok16 ?_
  conv => whnf
  refine ACalls.code tabOk h43 Tryd.func43 Tryd.call43 ok43 ?_
  conv => whnf
  refine ACalls.useE (hT _ _ _ _ _ _ _) [] rfl (by (conv => whnf); try rfl) (by (conv => whnf); try rfl) ?_
  conv => whnf
  refine ACalls.code tabOk h47 Tryd.func47 Tryd.call47 ok47 ?_
  conv => whnf
  exact ⟨rfl, rfl⟩
theorem pi_push2 (hn : strEq nm ⟨#[80, 72, 80]⟩ = false) : PiOk (cpu A X Y S P PC 28 op nm md kd kn pl wr b) (stkF S) true (A) := by
  refine ACalls.code tabOk h16 Tryd.func16 Tryd.call16 ok16 ?_
  conv => whnf
  refine Bif.knF ?_ fun h0 => ?_
  · with_reducible assumption
  conv => whnf
  refine ACalls.code tabOk h46 Tryd.func46 Tryd.call46 ok46 ?_
  conv => whnf
  refine ⟨rfl, ?_⟩
  conv => whnf
  refine ACalls.code tabOk h47 Tryd.func47 Tryd.call47 ok47 ?_
  conv => whnf
  exact ⟨rfl, rfl⟩
theorem pi_push2p (hn : strEq nm ⟨#[80, 72, 80]⟩ = true) : PiOk (cpu A X Y S P PC 28 op nm md kd kn pl wr b) (stkF S) true (bits .or .u8 P 16) := by
  refine ACalls.code tabOk h16 Tryd.func16 Tryd.call16 ok16 ?_
  conv => whnf
  refine Bif.knT ?_ fun h0 => ?_
  · with_reducible assumption
  conv => whnf
  refine ACalls.code tabOk h46 Tryd.func46 Tryd.call46 ok46 ?_
  conv => whnf
  refine ⟨rfl, ?_⟩
  conv => whnf
  refine ACalls.code tabOk h47 Tryd.func47 Tryd.call47 ok47 ?_
  conv => whnf
  exact ⟨rfl, rfl⟩
theorem pi_call3  : PiOk (cpu A X Y S P PC 38 op nm md kd kn pl wr b) (stkF S) true (IntKind.u8.wrap (PC.fdiv (2 ^ min (8 : Int).toNat IntKind.u16.bits))) := by
  refine ACalls.code tabOk h16 Tryd.func16 Tryd.call16 ok16 ?_
  conv => whnf
  refine ACalls.code tabOk h46 Tryd.func46 Tryd.call46 ok46 ?_
  conv => whnf
  refine ACalls.code tabOk h47 Tryd.func47 Tryd.call47 ok47 ?_
  conv => whnf
  exact ⟨rfl, rfl⟩
theorem pi_call4  : PiOk (cpu A X Y S P PC 39 op nm md kd kn pl wr b) (stkF S) true (IntKind.u8.wrap PC) := by
  refine ACalls.code tabOk h16 Tryd.func16 Tryd.call16 ok16 ?_
  conv => whnf
  refine ACalls.code tabOk h46 Tryd.func46 Tryd.call46 ok46 ?_
  conv => whnf
  refine ACalls.code tabOk h47 Tryd.func47 Tryd.call47 ok47 ?_
  conv => whnf
  exact ⟨rfl, rfl⟩
theorem ck_fetch1x6 (v : Int) {nm2 : ByteArray} {kn2 : Bool} (hO : CdOk v nm2 6 1 kn2) : CkOk v (cpu A X Y S P PC 0 op nm md kd kn pl wr b) (cpu A X Y S P (IntKind.u16.wrap (PC + 1)) 13 v nm2 6 1 kn2 pl wr b) := by
  refine ACalls.code tabOk h15 Tryd.func15 Tryd.call15 ok15 ?_
  conv => whnf
  refine ACalls.useE (hO) [] rfl (by (conv => whnf); try rfl) (by (conv => whnf); try rfl) ?_
  conv => whnf
  refine ACalls.code tabOk h35 Tryd.func35 Tryd.call35 ok35 ?_
  conv => whnf
  refine ACalls.code tabOk h34 Tryd.func34 Tryd.call34 ok34 ?_
  conv => whnf
  exact ⟨rfl, rfl⟩
theorem ck_fetch2x6 (v : Int) {nm2 : ByteArray} {kn2 : Bool} (hO : CdOk v nm2 6 2 kn2) : CkOk v (cpu A X Y S P PC 0 op nm md kd kn pl wr b) (cpu A X Y S P (IntKind.u16.wrap (PC + 1)) 13 v nm2 6 2 kn2 pl wr b) := by
  refine ACalls.code tabOk h15 Tryd.func15 Tryd.call15 ok15 ?_
  conv => whnf
  refine ACalls.useE (hO) [] rfl (by (conv => whnf); try rfl) (by (conv => whnf); try rfl) ?_
  conv => whnf
  refine ACalls.code tabOk h35 Tryd.func35 Tryd.call35 ok35 ?_
  conv => whnf
  refine ACalls.code tabOk h34 Tryd.func34 Tryd.call34 ok34 ?_
  conv => whnf
  exact ⟨rfl, rfl⟩
theorem ck_fetch3x6 (v : Int) {nm2 : ByteArray} {kn2 : Bool} (hO : CdOk v nm2 6 3 kn2) : CkOk v (cpu A X Y S P PC 0 op nm md kd kn pl wr b) (cpu A X Y S P (IntKind.u16.wrap (PC + 1)) 13 v nm2 6 3 kn2 pl wr b) := by
  refine ACalls.code tabOk h15 Tryd.func15 Tryd.call15 ok15 ?_
  conv => whnf
  refine ACalls.useE (hO) [] rfl (by (conv => whnf); try rfl) (by (conv => whnf); try rfl) ?_
  conv => whnf
  refine ACalls.code tabOk h35 Tryd.func35 Tryd.call35 ok35 ?_
  conv => whnf
  refine ACalls.code tabOk h34 Tryd.func34 Tryd.call34 ok34 ?_
  conv => whnf
  exact ⟨rfl, rfl⟩
theorem ck_fetch3x3 (v : Int) {nm2 : ByteArray} {kn2 : Bool} (hO : CdOk v nm2 3 3 kn2) : CkOk v (cpu A X Y S P PC 0 op nm md kd kn pl wr b) (cpu A X Y S P (IntKind.u16.wrap (PC + 1)) 11 v nm2 3 3 kn2 pl wr b) := by
  refine ACalls.code tabOk h15 Tryd.func15 Tryd.call15 ok15 ?_
  conv => whnf
  refine ACalls.useE (hO) [] rfl (by (conv => whnf); try rfl) (by (conv => whnf); try rfl) ?_
  conv => whnf
  refine ACalls.code tabOk h35 Tryd.func35 Tryd.call35 ok35 ?_
  conv => whnf
  refine ACalls.code tabOk h34 Tryd.func34 Tryd.call34 ok34 ?_
  conv => whnf
  exact ⟨rfl, rfl⟩
theorem ck_fetch5x0 (v : Int) {nm2 : ByteArray} {kn2 : Bool} (hO : CdOk v nm2 0 5 kn2) : CkOk v (cpu A X Y S P PC 0 op nm md kd kn pl wr b) (cpu A X Y S P (IntKind.u16.wrap (PC + 1)) 27 v nm2 0 5 kn2 pl wr b) := by
  refine ACalls.code tabOk h15 Tryd.func15 Tryd.call15 ok15 ?_
  conv => whnf
  refine ACalls.useE (hO) [] rfl (by (conv => whnf); try rfl) (by (conv => whnf); try rfl) ?_
  conv => whnf
  refine ACalls.code tabOk h35 Tryd.func35 Tryd.call35 ok35 ?_
  conv => whnf
  refine ACalls.code tabOk h34 Tryd.func34 Tryd.call34 ok34 ?_
  conv => whnf
  exact ⟨rfl, rfl⟩
theorem ck_fetch6x0 (v : Int) {nm2 : ByteArray} {kn2 : Bool} (hO : CdOk v nm2 0 6 kn2) : CkOk v (cpu A X Y S P PC 0 op nm md kd kn pl wr b) (cpu A X Y S P (IntKind.u16.wrap (PC + 1)) 29 v nm2 0 6 kn2 pl wr b) := by
  refine ACalls.code tabOk h15 Tryd.func15 Tryd.call15 ok15 ?_
  conv => whnf
  refine ACalls.useE (hO) [] rfl (by (conv => whnf); try rfl) (by (conv => whnf); try rfl) ?_
  conv => whnf
  refine ACalls.code tabOk h35 Tryd.func35 Tryd.call35 ok35 ?_
  conv => whnf
  refine ACalls.code tabOk h34 Tryd.func34 Tryd.call34 ok34 ?_
  conv => whnf
  exact ⟨rfl, rfl⟩
theorem ck_fetch8x6 (v : Int) {nm2 : ByteArray} {kn2 : Bool} (hO : CdOk v nm2 6 8 kn2) : CkOk v (cpu A X Y S P PC 0 op nm md kd kn pl wr b) (cpu A X Y S P (IntKind.u16.wrap (PC + 1)) 36 v nm2 6 8 kn2 pl wr b) := by
  refine ACalls.code tabOk h15 Tryd.func15 Tryd.call15 ok15 ?_
  conv => whnf
  refine ACalls.useE (hO) [] rfl (by (conv => whnf); try rfl) (by (conv => whnf); try rfl) ?_
  conv => whnf
  refine ACalls.code tabOk h35 Tryd.func35 Tryd.call35 ok35 ?_
  conv => whnf
  refine ACalls.code tabOk h34 Tryd.func34 Tryd.call34 ok34 ?_
  conv => whnf
  exact ⟨rfl, rfl⟩
theorem ck_fetch9x0 (v : Int) {nm2 : ByteArray} {kn2 : Bool} (hO : CdOk v nm2 0 9 kn2) : CkOk v (cpu A X Y S P PC 0 op nm md kd kn pl wr b) (cpu A X Y S P (IntKind.u16.wrap (PC + 1)) 41 v nm2 0 9 kn2 pl wr b) := by
  refine ACalls.code tabOk h15 Tryd.func15 Tryd.call15 ok15 ?_
  conv => whnf
  refine ACalls.useE (hO) [] rfl (by (conv => whnf); try rfl) (by (conv => whnf); try rfl) ?_
  conv => whnf
  refine ACalls.code tabOk h35 Tryd.func35 Tryd.call35 ok35 ?_
  conv => whnf
  refine ACalls.code tabOk h34 Tryd.func34 Tryd.call34 ok34 ?_
  conv => whnf
  exact ⟨rfl, rfl⟩
theorem ck_near (v : Int)  : CkOk v (cpu A X Y S P PC 11 op nm 3 3 kn pl wr b) (cpu A X Y S P (IntKind.u16.wrap (PC + 1)) 20 op nm 3 3 kn (IntKind.u16.wrap v) (IntKind.u16.wrap v) v) := by
  refine ACalls.code tabOk h15 Tryd.func15 Tryd.call15 ok15 ?_
  conv => whnf
  refine ACalls.code tabOk h38 Tryd.func38 Tryd.call38 ok38 ?_
  conv => whnf
  refine ACalls.code tabOk h34 Tryd.func34 Tryd.call34 ok34 ?_
  conv => whnf
  exact ⟨rfl, rfl⟩
theorem ck_lower (v : Int)  : CkOk v (cpu A X Y S P PC 13 op nm md kd kn pl wr b) (cpu A X Y S P (IntKind.u16.wrap (PC + 1)) 14 op nm md kd kn pl wr v) := by
  refine ACalls.code tabOk h15 Tryd.func15 Tryd.call15 ok15 ?_
  conv => whnf
  refine ACalls.code tabOk h34 Tryd.func34 Tryd.call34 ok34 ?_
  conv => whnf
  exact ⟨rfl, rfl⟩
theorem ck_upper1 (v : Int)  : CkOk v (cpu A X Y S P PC 14 op nm 6 1 kn pl wr b) (cpu A X Y S P (IntKind.u16.wrap (PC + 1)) 20 op nm 6 1 kn (IntKind.u16.wrap (wordF b v + IntKind.u16.wrap 0)) (wordF (IntKind.u8.wrap (IntKind.u16.wrap (wordF b v + IntKind.u16.wrap 0))) v) b) := by
  refine ACalls.code tabOk h15 Tryd.func15 Tryd.call15 ok15 ?_
  conv => whnf
  refine ACalls.code tabOk h40 Tryd.func40 Tryd.call40 ok40 ?_
  conv => whnf
  refine ACalls.code tabOk h41 Tryd.func41 Tryd.call41 ok41 ?_
  conv => whnf
  refine ACalls.code tabOk h39 Tryd.func39 Tryd.call39 ok39 ?_
  conv => whnf
  refine ACalls.code tabOk h41 Tryd.func41 Tryd.call41 ok41 ?_
  conv => whnf
  refine ACalls.code tabOk h38 Tryd.func38 Tryd.call38 ok38 ?_
  conv => whnf
  exact ⟨rfl, rfl⟩
theorem ck_upper2 (v : Int)  : CkOk v (cpu A X Y S P PC 14 op nm 6 2 kn pl wr b) (cpu A X Y S P (IntKind.u16.wrap (PC + 1)) 21 op nm 6 2 kn (IntKind.u16.wrap (wordF b v + IntKind.u16.wrap 0)) (wordF (IntKind.u8.wrap (IntKind.u16.wrap (wordF b v + IntKind.u16.wrap 0))) v) b) := by
  refine ACalls.code tabOk h15 Tryd.func15 Tryd.call15 ok15 ?_
  conv => whnf
  refine ACalls.code tabOk h40 Tryd.func40 Tryd.call40 ok40 ?_
  conv => whnf
  refine ACalls.code tabOk h41 Tryd.func41 Tryd.call41 ok41 ?_
  conv => whnf
  refine ACalls.code tabOk h39 Tryd.func39 Tryd.call39 ok39 ?_
  conv => whnf
  refine ACalls.code tabOk h41 Tryd.func41 Tryd.call41 ok41 ?_
  conv => whnf
  refine ACalls.code tabOk h38 Tryd.func38 Tryd.call38 ok38 ?_
  conv => whnf
  exact ⟨rfl, rfl⟩
theorem ck_upper3 (v : Int)  : CkOk v (cpu A X Y S P PC 14 op nm 6 3 kn pl wr b) (cpu A X Y S P (IntKind.u16.wrap (PC + 1)) 20 op nm 6 3 kn (IntKind.u16.wrap (wordF b v + IntKind.u16.wrap 0)) (wordF (IntKind.u8.wrap (IntKind.u16.wrap (wordF b v + IntKind.u16.wrap 0))) v) b) := by
  refine ACalls.code tabOk h15 Tryd.func15 Tryd.call15 ok15 ?_
  conv => whnf
  refine ACalls.code tabOk h40 Tryd.func40 Tryd.call40 ok40 ?_
  conv => whnf
  refine ACalls.code tabOk h41 Tryd.func41 Tryd.call41 ok41 ?_
  conv => whnf
  refine ACalls.code tabOk h39 Tryd.func39 Tryd.call39 ok39 ?_
  conv => whnf
  refine ACalls.code tabOk h41 Tryd.func41 Tryd.call41 ok41 ?_
  conv => whnf
  refine ACalls.code tabOk h38 Tryd.func38 Tryd.call38 ok38 ?_
  conv => whnf
  exact ⟨rfl, rfl⟩
theorem ck_load1 (v : Int) {F : RdF} (hR : RdOk nm F) : CkOk v (cpu A X Y S P PC 20 op nm md 1 kn pl wr b) (cpu (F.a A X Y S P v) (F.x A X Y S P v) (F.y A X Y S P v) (F.s A X Y S P v) (F.p A X Y S P v) PC 0 op nm md 1 kn pl wr v) := by
  refine ACalls.code tabOk h15 Tryd.func15 Tryd.call15 ok15 ?_
  conv => whnf
  refine ACalls.useE (hR _ _ _ _ _ _ _) [] rfl (by (conv => whnf); try rfl) (by (conv => whnf); try rfl) ?_
  conv => whnf
  exact ⟨rfl, rfl⟩
theorem ck_load3 (v : Int)  : CkOk v (cpu A X Y S P PC 20 op nm md 3 kn pl wr b) (cpu A X Y S P PC 22 op nm md 3 kn pl wr v) := by
  refine ACalls.code tabOk h15 Tryd.func15 Tryd.call15 ok15 ?_
  conv => whnf
  exact ⟨rfl, rfl⟩
theorem ck_store (v : Int) {V : Int → Int → Int → Int} (hS : StOk nm V) (hU : UnOk nm) : CkOk v (cpu A X Y S P PC 21 op nm md kd kn pl wr b) (cpu A X Y S P PC 0 op nm md kd kn pl wr b) := by
  refine ACalls.code tabOk h15 Tryd.func15 Tryd.call15 ok15 ?_
  conv => whnf
  refine ACalls.code tabOk h42 Tryd.func42 Tryd.call42 ok42 ?_
  conv => whnf
  refine ACalls.code tabOk h62 Tryd.func62 Tryd.call62 ok62 ?_
  conv => whnf
  refine ⟨rfl, ?_⟩
  conv => whnf
  refine ⟨rfl, ?_⟩
  conv => whnf
  refine ACalls.useE (hS _ _ _ _ _ _ _) [] rfl (by (conv => whnf); try rfl) (by (conv => whnf); try rfl) ?_
  conv => whnf
  refine ACalls.useE (hU) [] rfl (by (conv => whnf); try rfl) (by (conv => whnf); try rfl) ?_
  conv => whnf
  exact ⟨rfl, rfl⟩
theorem ck_again (v : Int)  : CkOk v (cpu A X Y S P PC 22 op nm md kd kn pl wr b) (cpu A X Y S P PC 23 op nm md kd kn pl wr b) := by
  refine ACalls.code tabOk h15 Tryd.func15 Tryd.call15 ok15 ?_
  conv => whnf
  exact ⟨rfl, rfl⟩
theorem ck_put (v : Int) {V : Int → Int → Int → Int → Int → Int → Int} {F : RdF} (hT : TnOk nm V F) : CkOk v (cpu A X Y S P PC 23 op nm md kd kn pl wr b) (cpu (F.a A X Y S P b) (F.x A X Y S P b) (F.y A X Y S P b) (F.s A X Y S P b) (F.p A X Y S P b) PC 0 op nm md kd kn pl wr b) := by
  refine ACalls.code tabOk h15 Tryd.func15 Tryd.call15 ok15 ?_
  conv => whnf
  refine ACalls.code tabOk h43 Tryd.func43 Tryd.call43 ok43 ?_
  conv => whnf
  refine ACalls.useE (hT _ _ _ _ _ _ _) [] rfl (by (conv => whnf); try rfl) (by (conv => whnf); try rfl) ?_
  conv => whnf
  exact ⟨rfl, rfl⟩
theorem ck_push1 (v : Int)  : CkOk v (cpu A X Y S P PC 27 op nm md kd kn pl wr b) (cpu A X Y S P PC 28 op nm md kd kn pl wr b) := by
  refine ACalls.code tabOk h15 Tryd.func15 Tryd.call15 ok15 ?_
  conv => whnf
  refine ACalls.code tabOk h44 Tryd.func44 Tryd.call44 ok44 ?_
  conv => whnf
  exact ⟨rfl, rfl⟩
theorem ck_push2 (v : Int)  : CkOk v (cpu A X Y S P PC 28 op nm md kd kn pl wr b) (cpu A X Y (IntKind.u8.wrap (S - 1)) P PC 0 op nm md kd kn pl wr b) := by
  refine ACalls.code tabOk h15 Tryd.func15 Tryd.call15 ok15 ?_
  conv => whnf
  refine ACalls.code tabOk h44 Tryd.func44 Tryd.call44 ok44 ?_
  conv => whnf
  exact ⟨rfl, rfl⟩
theorem ck_pull1 (v : Int)  : CkOk v (cpu A X Y S P PC 29 op nm md kd kn pl wr b) (cpu A X Y S P PC 30 op nm md kd kn pl wr b) := by
  refine ACalls.code tabOk h15 Tryd.func15 Tryd.call15 ok15 ?_
  conv => whnf
  refine ACalls.code tabOk h44 Tryd.func44 Tryd.call44 ok44 ?_
  conv => whnf
  exact ⟨rfl, rfl⟩
theorem ck_pull2 (v : Int)  : CkOk v (cpu A X Y S P PC 30 op nm md kd kn pl wr b) (cpu A X Y (IntKind.u8.wrap (S + 1)) P PC 31 op nm md kd kn pl wr b) := by
  refine ACalls.code tabOk h15 Tryd.func15 Tryd.call15 ok15 ?_
  conv => whnf
  refine ACalls.code tabOk h44 Tryd.func44 Tryd.call44 ok44 ?_
  conv => whnf
  exact ⟨rfl, rfl⟩
theorem ck_pull3 (v : Int) (hn : strEq nm ⟨#[80, 76, 80]⟩ = false) : CkOk v (cpu A X Y S P PC 31 op nm md kd kn pl wr b) (cpu v X Y S (markF P v) PC 0 op nm md kd kn pl wr b) := by
  refine ACalls.code tabOk h15 Tryd.func15 Tryd.call15 ok15 ?_
  conv => whnf
  refine ACalls.code tabOk h44 Tryd.func44 Tryd.call44 ok44 ?_
  conv => whnf
  refine Bif.knF ?_ fun h0 => ?_
  · with_reducible assumption
  conv => whnf
  refine ACalls.useE (rd_LDA _ _ _ _ _ _ _) [] rfl (by (conv => whnf); try rfl) (by (conv => whnf); try rfl) ?_
  conv => whnf
  exact ⟨rfl, rfl⟩
theorem ck_pull3p (v : Int) (hn : strEq nm ⟨#[80, 76, 80]⟩ = true) : CkOk v (cpu A X Y S P PC 31 op nm md kd kn pl wr b) (cpu A X Y S (clnF v) PC 0 op nm md kd kn pl wr b) := by
  refine ACalls.code tabOk h15 Tryd.func15 Tryd.call15 ok15 ?_
  conv => whnf
  refine ACalls.code tabOk h44 Tryd.func44 Tryd.call44 ok44 ?_
  conv => whnf
  refine Bif.knT ?_ fun h0 => ?_
  · with_reducible assumption
  conv => whnf
  refine ACalls.code tabOk h51 Tryd.func51 Tryd.call51 ok51 ?_
  conv => whnf
  exact ⟨rfl, rfl⟩
theorem ck_call1 (v : Int)  : CkOk v (cpu A X Y S P PC 36 op nm md kd kn pl wr b) (cpu A X Y S P (IntKind.u16.wrap (PC + 1)) 37 op nm md kd kn pl wr v) := by
  refine ACalls.code tabOk h15 Tryd.func15 Tryd.call15 ok15 ?_
  conv => whnf
  refine ACalls.code tabOk h44 Tryd.func44 Tryd.call44 ok44 ?_
  conv => whnf
  refine ACalls.code tabOk h34 Tryd.func34 Tryd.call34 ok34 ?_
  conv => whnf
  exact ⟨rfl, rfl⟩
theorem ck_call2 (v : Int)  : CkOk v (cpu A X Y S P PC 37 op nm md kd kn pl wr b) (cpu A X Y S P PC 38 op nm md kd kn pl wr b) := by
  refine ACalls.code tabOk h15 Tryd.func15 Tryd.call15 ok15 ?_
  conv => whnf
  refine ACalls.code tabOk h36 Tryd.func36 Tryd.call36 ok36 ?_
  conv => whnf
  exact ⟨rfl, rfl⟩
theorem ck_call3 (v : Int)  : CkOk v (cpu A X Y S P PC 38 op nm md kd kn pl wr b) (cpu A X Y (IntKind.u8.wrap (S - 1)) P PC 39 op nm md kd kn pl wr b) := by
  refine ACalls.code tabOk h15 Tryd.func15 Tryd.call15 ok15 ?_
  conv => whnf
  refine ACalls.code tabOk h44 Tryd.func44 Tryd.call44 ok44 ?_
  conv => whnf
  exact ⟨rfl, rfl⟩
theorem ck_call4 (v : Int)  : CkOk v (cpu A X Y S P PC 39 op nm md kd kn pl wr b) (cpu A X Y (IntKind.u8.wrap (S - 1)) P PC 40 op nm md kd kn pl wr b) := by
  refine ACalls.code tabOk h15 Tryd.func15 Tryd.call15 ok15 ?_
  conv => whnf
  refine ACalls.code tabOk h44 Tryd.func44 Tryd.call44 ok44 ?_
  conv => whnf
  exact ⟨rfl, rfl⟩
theorem ck_call5 (v : Int)  : CkOk v (cpu A X Y S P PC 40 op nm md kd kn pl wr b) (cpu A X Y S P (wordF b v) 0 op nm md kd kn pl wr b) := by
  refine ACalls.code tabOk h15 Tryd.func15 Tryd.call15 ok15 ?_
  conv => whnf
  refine ACalls.code tabOk h44 Tryd.func44 Tryd.call44 ok44 ?_
  conv => whnf
  refine ACalls.code tabOk h41 Tryd.func41 Tryd.call41 ok41 ?_
  conv => whnf
  exact ⟨rfl, rfl⟩
theorem ck_back1 (v : Int)  : CkOk v (cpu A X Y S P PC 41 op nm md kd kn pl wr b) (cpu A X Y S P PC 42 op nm md kd kn pl wr b) := by
  refine ACalls.code tabOk h15 Tryd.func15 Tryd.call15 ok15 ?_
  conv => whnf
  refine ACalls.code tabOk h44 Tryd.func44 Tryd.call44 ok44 ?_
  conv => whnf
  exact ⟨rfl, rfl⟩
theorem ck_back2 (v : Int)  : CkOk v (cpu A X Y S P PC 42 op nm md kd kn pl wr b) (cpu A X Y (IntKind.u8.wrap (S + 1)) P PC 43 op nm md kd kn pl wr b) := by
  refine ACalls.code tabOk h15 Tryd.func15 Tryd.call15 ok15 ?_
  conv => whnf
  refine ACalls.code tabOk h36 Tryd.func36 Tryd.call36 ok36 ?_
  conv => whnf
  exact ⟨rfl, rfl⟩
theorem ck_back3 (v : Int)  : CkOk v (cpu A X Y S P PC 43 op nm md kd kn pl wr b) (cpu A X Y (IntKind.u8.wrap (S + 1)) P PC 44 op nm md kd kn pl wr v) := by
  refine ACalls.code tabOk h15 Tryd.func15 Tryd.call15 ok15 ?_
  conv => whnf
  refine ACalls.code tabOk h44 Tryd.func44 Tryd.call44 ok44 ?_
  conv => whnf
  exact ⟨rfl, rfl⟩
theorem ck_back4 (v : Int)  : CkOk v (cpu A X Y S P PC 44 op nm md kd kn pl wr b) (cpu A X Y S P (wordF b v) 45 op nm md kd kn pl wr b) := by
  refine ACalls.code tabOk h15 Tryd.func15 Tryd.call15 ok15 ?_
  conv => whnf
  refine ACalls.code tabOk h44 Tryd.func44 Tryd.call44 ok44 ?_
  conv => whnf
  refine ACalls.code tabOk h41 Tryd.func41 Tryd.call41 ok41 ?_
  conv => whnf
  exact ⟨rfl, rfl⟩
theorem ck_back5 (v : Int)  : CkOk v (cpu A X Y S P PC 45 op nm md kd kn pl wr b) (cpu A X Y S P (IntKind.u16.wrap (PC + 1)) 0 op nm md kd kn pl wr b) := by
  refine ACalls.code tabOk h15 Tryd.func15 Tryd.call15 ok15 ?_
  conv => whnf
  refine ACalls.code tabOk h44 Tryd.func44 Tryd.call44 ok44 ?_
  conv => whnf
  refine ACalls.code tabOk h34 Tryd.func34 Tryd.call34 ok34 ?_
  conv => whnf
  exact ⟨rfl, rfl⟩
end
end Go.Proofs
