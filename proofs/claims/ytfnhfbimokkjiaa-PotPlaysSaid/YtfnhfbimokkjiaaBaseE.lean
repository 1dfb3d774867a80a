/-
  The types, the plans of the regions that draw their order, and what is checked of each function's code. (Printed by a program of ours, wip/core/GenB.lean.)
-/
import Derived.Test.YtfnhfbimokkjiaaChecked
import Derived.Test.YtfnhfbimokkjiaaCore15
set_option linter.all false
set_option linter.unusedVariables false
set_option linter.unusedSimpArgs false
set_option linter.unnecessarySimpa false
namespace Go.Proofs
open Go.Aw
set_option maxRecDepth 100000

def T : Tab := [
  none,
  none,
  none,
  some ⟨(.int .i64), 1, 8, [.int .i64 0], false⟩,
  some ⟨.bool, 1, 1, [.bool false], false⟩,
  some ⟨(.int .u8), 1, 1, [.int .u8 0], false⟩,
  none,
  none,
  none,
  none,
  none,
  none,
  none,
  none,
  none,
  none,
  none,
  none,
  none,
  none,
  none,
  none,
  some ⟨(.int .u16), 1, 2, [.int .u16 0], false⟩,
  some ⟨(.pointer 58), 1, 8, [.pointer none], false⟩,
  none,
  none,
  none,
  none,
  none,
  none,
  some ⟨(.slice 5), 1, 24, [.slice none 0 0], false⟩,
  none,
  some ⟨(.slice 40), 1, 24, [.slice none 0 0], false⟩,
  some ⟨(.array 4 3), 4, 32, [.int .i64 0, .int .i64 0, .int .i64 0, .int .i64 0], true⟩,
  some ⟨(.array 2 4), 2, 2, [.bool false, .bool false], true⟩,
  none,
  some ⟨(.struct #[⟨ "Values", 33, 0, false, "", "", 0⟩, ⟨ "Charge", 3, 4, false, "", "", 32⟩, ⟨ "Dumped", 4, 5, false, "", "", 40⟩, ⟨ "High", 34, 6, false, "", "", 41⟩, ⟨ "Latched", 4, 8, false, "", "", 43⟩, ⟨ "Latch", 34, 9, false, "", "", 44⟩]), 11, 48, [.int .i64 0, .int .i64 0, .int .i64 0, .int .i64 0, .int .i64 0, .bool false, .bool false, .bool false, .bool false, .bool false, .bool false], true⟩,
  none,
  some ⟨(.array 11 3), 11, 88, [.int .i64 0, .int .i64 0, .int .i64 0, .int .i64 0, .int .i64 0, .int .i64 0, .int .i64 0, .int .i64 0, .int .i64 0, .int .i64 0, .int .i64 0], true⟩,
  none,
  some ⟨(.struct #[⟨ "Kind", 3, 0, false, "", "", 0⟩, ⟨ "N", 3, 1, false, "", "", 8⟩, ⟨ "V", 5, 2, false, "", "", 16⟩, ⟨ "Lines", 22, 3, false, "", "", 18⟩, ⟨ "On", 4, 4, false, "", "", 20⟩, ⟨ "W", 38, 5, false, "", "", 24⟩]), 16, 112, [.int .i64 0, .int .i64 0, .int .u8 0, .int .u16 0, .bool false, .int .i64 0, .int .i64 0, .int .i64 0, .int .i64 0, .int .i64 0, .int .i64 0, .int .i64 0, .int .i64 0, .int .i64 0, .int .i64 0, .int .i64 0], true⟩,
  none,
  none,
  none,
  some ⟨(.int .i64), 1, 8, [.int .i64 0], false⟩,
  none,
  none,
  none,
  none,
  none,
  none,
  none,
  none,
  none,
  some ⟨(.struct #[⟨ "high", 4, 0, false, "", "woodgrain/pot", 0⟩, ⟨ "latch", 4, 1, false, "", "woodgrain/pot", 1⟩]), 2, 2, [.bool false, .bool false], true⟩,
  some ⟨(.array 2 54), 4, 4, [.bool false, .bool false, .bool false, .bool false], true⟩,
  some ⟨(.array 4 5), 4, 4, [.int .u8 0, .int .u8 0, .int .u8 0, .int .u8 0], true⟩,
  none,
  some ⟨(.struct #[⟨ "values", 56, 0, false, "", "woodgrain/pot", 0⟩, ⟨ "charge", 3, 4, false, "", "woodgrain/pot", 8⟩, ⟨ "dumped", 4, 5, false, "", "woodgrain/pot", 16⟩, ⟨ "fire", 55, 6, false, "", "woodgrain/pot", 17⟩, ⟨ "latched", 4, 10, false, "", "woodgrain/pot", 21⟩]), 11, 24, [.int .u8 0, .int .u8 0, .int .u8 0, .int .u8 0, .int .i64 0, .bool false, .bool false, .bool false, .bool false, .bool false, .bool false], true⟩,
  some ⟨(.slice 3), 1, 24, [.slice none 0 0], false⟩]

theorem tabOk : TabOk Try.prog T :=
  TabOk.of (by kernel_rfl) ⟨trivial,
    trivial,
    trivial,
    ⟨by kernel_rfl, ⟨Try.t3, .int .i64 0, by kernel_rfl, by kernel_rfl, by kernel_rfl, by kernel_rfl, by kernel_rfl⟩, by kernel_rfl, (fun h => (by cases h)), (fun fs h => (by cases h))⟩,
    ⟨by kernel_rfl, ⟨Try.t4, .bool false, by kernel_rfl, by kernel_rfl, by kernel_rfl, by kernel_rfl, by kernel_rfl⟩, by kernel_rfl, (fun h => (by cases h)), (fun fs h => (by cases h))⟩,
    ⟨by kernel_rfl, ⟨Try.t5, .int .u8 0, by kernel_rfl, by kernel_rfl, by kernel_rfl, by kernel_rfl, by kernel_rfl⟩, by kernel_rfl, (fun h => (by cases h)), (fun fs h => (by cases h))⟩,
    trivial,
    trivial,
    trivial,
    trivial,
    trivial,
    trivial,
    trivial,
    trivial,
    trivial,
    trivial,
    trivial,
    trivial,
    trivial,
    trivial,
    trivial,
    trivial,
    ⟨by kernel_rfl, ⟨Try.t22, .int .u16 0, by kernel_rfl, by kernel_rfl, by kernel_rfl, by kernel_rfl, by kernel_rfl⟩, by kernel_rfl, (fun h => (by cases h)), (fun fs h => (by cases h))⟩,
    ⟨by kernel_rfl, ⟨Try.t23, .pointer none, by kernel_rfl, by kernel_rfl, by kernel_rfl, by kernel_rfl, by kernel_rfl⟩, by kernel_rfl, (fun h => (by cases h)), (fun fs h => (by cases h))⟩,
    trivial,
    trivial,
    trivial,
    trivial,
    trivial,
    trivial,
    ⟨by kernel_rfl, ⟨Try.t30, .slice none 0 0, by kernel_rfl, by kernel_rfl, by kernel_rfl, by kernel_rfl, by kernel_rfl⟩, by kernel_rfl, (fun h => (by cases h)), (fun fs h => (by cases h))⟩,
    trivial,
    ⟨by kernel_rfl, ⟨Try.t32, .slice none 0 0, by kernel_rfl, by kernel_rfl, by kernel_rfl, by kernel_rfl, by kernel_rfl⟩, by kernel_rfl, (fun h => (by cases h)), (fun fs h => (by cases h))⟩,
    ⟨by kernel_rfl, ⟨Try.t33, .agg #[.int .i64 0, .int .i64 0, .int .i64 0, .int .i64 0], by kernel_rfl, by kernel_rfl, by kernel_rfl, by kernel_rfl, by kernel_rfl⟩, by kernel_rfl, (fun _ => ⟨by kernel_rfl, by kernel_rfl⟩), (fun fs h => (by cases h))⟩,
    ⟨by kernel_rfl, ⟨Try.t34, .agg #[.bool false, .bool false], by kernel_rfl, by kernel_rfl, by kernel_rfl, by kernel_rfl, by kernel_rfl⟩, by kernel_rfl, (fun _ => ⟨by kernel_rfl, by kernel_rfl⟩), (fun fs h => (by cases h))⟩,
    trivial,
    ⟨by kernel_rfl, ⟨Try.t36, .agg #[.int .i64 0, .int .i64 0, .int .i64 0, .int .i64 0, .int .i64 0, .bool false, .bool false, .bool false, .bool false, .bool false, .bool false], by kernel_rfl, by kernel_rfl, by kernel_rfl, by kernel_rfl, by kernel_rfl⟩, by kernel_rfl, (fun _ => ⟨by kernel_rfl, by kernel_rfl⟩), (fun fs h => (by cases h; exact flds_of (by kernel_rfl)))⟩,
    trivial,
    ⟨by kernel_rfl, ⟨Try.t38, .agg #[.int .i64 0, .int .i64 0, .int .i64 0, .int .i64 0, .int .i64 0, .int .i64 0, .int .i64 0, .int .i64 0, .int .i64 0, .int .i64 0, .int .i64 0], by kernel_rfl, by kernel_rfl, by kernel_rfl, by kernel_rfl, by kernel_rfl⟩, by kernel_rfl, (fun _ => ⟨by kernel_rfl, by kernel_rfl⟩), (fun fs h => (by cases h))⟩,
    trivial,
    ⟨by kernel_rfl, ⟨Try.t40, .agg #[.int .i64 0, .int .i64 0, .int .u8 0, .int .u16 0, .bool false, .int .i64 0, .int .i64 0, .int .i64 0, .int .i64 0, .int .i64 0, .int .i64 0, .int .i64 0, .int .i64 0, .int .i64 0, .int .i64 0, .int .i64 0], by kernel_rfl, by kernel_rfl, by kernel_rfl, by kernel_rfl, by kernel_rfl⟩, by kernel_rfl, (fun _ => ⟨by kernel_rfl, by kernel_rfl⟩), (fun fs h => (by cases h; exact flds_of (by kernel_rfl)))⟩,
    trivial,
    trivial,
    trivial,
    ⟨by kernel_rfl, ⟨Try.t44, .int .i64 0, by kernel_rfl, by kernel_rfl, by kernel_rfl, by kernel_rfl, by kernel_rfl⟩, by kernel_rfl, (fun h => (by cases h)), (fun fs h => (by cases h))⟩,
    trivial,
    trivial,
    trivial,
    trivial,
    trivial,
    trivial,
    trivial,
    trivial,
    trivial,
    ⟨by kernel_rfl, ⟨Try.t54, .agg #[.bool false, .bool false], by kernel_rfl, by kernel_rfl, by kernel_rfl, by kernel_rfl, by kernel_rfl⟩, by kernel_rfl, (fun _ => ⟨by kernel_rfl, by kernel_rfl⟩), (fun fs h => (by cases h; exact flds_of (by kernel_rfl)))⟩,
    ⟨by kernel_rfl, ⟨Try.t55, .agg #[.bool false, .bool false, .bool false, .bool false], by kernel_rfl, by kernel_rfl, by kernel_rfl, by kernel_rfl, by kernel_rfl⟩, by kernel_rfl, (fun _ => ⟨by kernel_rfl, by kernel_rfl⟩), (fun fs h => (by cases h))⟩,
    ⟨by kernel_rfl, ⟨Try.t56, .agg #[.int .u8 0, .int .u8 0, .int .u8 0, .int .u8 0], by kernel_rfl, by kernel_rfl, by kernel_rfl, by kernel_rfl, by kernel_rfl⟩, by kernel_rfl, (fun _ => ⟨by kernel_rfl, by kernel_rfl⟩), (fun fs h => (by cases h))⟩,
    trivial,
    ⟨by kernel_rfl, ⟨Try.t58, .agg #[.int .u8 0, .int .u8 0, .int .u8 0, .int .u8 0, .int .i64 0, .bool false, .bool false, .bool false, .bool false, .bool false, .bool false], by kernel_rfl, by kernel_rfl, by kernel_rfl, by kernel_rfl, by kernel_rfl⟩, by kernel_rfl, (fun _ => ⟨by kernel_rfl, by kernel_rfl⟩), (fun fs h => (by cases h; exact flds_of (by kernel_rfl)))⟩,
    ⟨by kernel_rfl, ⟨Try.t59, .slice none 0 0, by kernel_rfl, by kernel_rfl, by kernel_rfl, by kernel_rfl, by kernel_rfl⟩, by kernel_rfl, (fun h => (by cases h)), (fun fs h => (by cases h))⟩, trivial⟩

def h2 : Hints := []
theorem ok2 : codeOk T h2 (bodyOf Try.f2) = true := by kernel_rfl
def h3 : Hints := []
theorem ok3 : codeOk T h3 (bodyOf Try.f3) = true := by kernel_rfl
def h4 : Hints := []
theorem ok4 : codeOk T h4 (bodyOf Try.f4) = true := by kernel_rfl
def h5 : Hints := [(33, [(0, []), (1, []), (3, []), (4, []), (2, [3]), (5, []), (6, [])]), (35, [(0, []), (2, []), (1, [2]), (3, []), (4, []), (5, []), (6, []), (7, []), (8, []), (10, []), (11, []), (12, []), (9, [10, 12]), (13, []), (14, []), (15, [])])]
theorem ok5 : codeOk T h5 (bodyOf Try.f5) = true := by kernel_rfl
def h6 : Hints := []
theorem ok6 : codeOk T h6 (bodyOf Try.f6) = true := by kernel_rfl
def h7 : Hints := []
theorem ok7 : codeOk T h7 (bodyOf Try.f7) = true := by kernel_rfl
def h8 : Hints := []
theorem ok8 : codeOk T h8 (bodyOf Try.f8) = true := by kernel_rfl
def h9 : Hints := []
theorem ok9 : codeOk T h9 (bodyOf Try.f9) = true := by kernel_rfl
def h10 : Hints := []
theorem ok10 : codeOk T h10 (bodyOf Try.f10) = true := by kernel_rfl
def h11 : Hints := [(4, [(0, []), (1, []), (2, []), (3, []), (4, []), (5, []), (6, []), (7, []), (8, []), (9, []), (10, []), (11, []), (12, []), (13, []), (14, []), (15, []), (16, []), (17, []), (18, []), (19, [])])]
theorem ok11 : codeOk T h11 (bodyOf Try.f11) = true := by kernel_rfl
def h12 : Hints := []
theorem ok12 : codeOk T h12 (bodyOf Try.f12) = true := by kernel_rfl
def h13 : Hints := []
theorem ok13 : codeOk T h13 (bodyOf Try.f13) = true := by kernel_rfl
def h14 : Hints := []
theorem ok14 : codeOk T h14 (bodyOf Try.f14) = true := by kernel_rfl
def h15 : Hints := []
theorem ok15 : codeOk T h15 (bodyOf Try.f15) = true := by kernel_rfl
def h16 : Hints := []
theorem ok16 : codeOk T h16 (bodyOf Try.f16) = true := by kernel_rfl
def h17 : Hints := []
theorem ok17 : codeOk T h17 (bodyOf Try.f17) = true := by kernel_rfl
def h18 : Hints := []
theorem ok18 : codeOk T h18 (bodyOf Try.f18) = true := by kernel_rfl
def h19 : Hints := [(15, [(0, []), (1, []), (2, []), (3, []), (4, []), (5, []), (6, []), (7, []), (8, []), (9, []), (10, []), (11, []), (12, []), (13, []), (14, [])]), (22, [(0, []), (1, []), (2, []), (3, []), (4, [])])]
theorem ok19 : codeOk T h19 (bodyOf Try.f19) = true := by kernel_rfl
def h20 : Hints := []
theorem ok20 : codeOk T h20 (bodyOf Try.f20) = true := by kernel_rfl
def h21 : Hints := []
theorem ok21 : codeOk T h21 (bodyOf Try.f21) = true := by kernel_rfl
def h22 : Hints := [(2, [(0, []), (1, []), (2, []), (3, []), (4, []), (5, []), (6, []), (7, []), (8, []), (9, []), (10, []), (11, []), (12, [])])]
theorem ok22 : codeOk T h22 (bodyOf Try.f22) = true := by kernel_rfl
def h23 : Hints := [(3, [(0, []), (1, []), (2, []), (3, []), (4, []), (5, []), (6, []), (7, []), (9, []), (10, []), (11, []), (12, []), (8, [3, 12]), (13, [3]), (14, []), (15, []), (16, [])]), (12, [(0, []), (1, []), (2, []), (3, []), (4, []), (5, []), (7, []), (8, []), (6, [8]), (10, []), (9, []), (11, []), (12, []), (13, [])])]
theorem ok23 : codeOk T h23 (bodyOf Try.f23) = true := by kernel_rfl
def h24 : Hints := [(1, [(0, []), (1, []), (2, []), (3, []), (4, []), (5, []), (6, []), (7, []), (8, []), (9, []), (10, []), (11, []), (12, []), (13, []), (14, []), (15, []), (17, []), (18, []), (19, []), (21, []), (22, []), (23, []), (25, []), (26, []), (28, []), (29, []), (30, []), (32, []), (33, []), (34, []), (16, [2, 5, 8, 11, 13, 19, 23, 26, 30, 34]), (20, [2, 5, 8, 11, 13, 23, 26, 30, 34]), (24, [2, 5, 8, 11, 13, 26, 30, 34]), (27, [2, 5, 8, 11, 13, 30, 34]), (31, [2, 5, 8, 11, 13, 34]), (35, [2, 5, 8, 11, 13]), (36, []), (37, [])])]
theorem ok24 : codeOk T h24 (bodyOf Try.f24) = true := by kernel_rfl
def h25 : Hints := []
theorem ok25 : codeOk T h25 (bodyOf Try.f25) = true := by kernel_rfl
def h26 : Hints := []
theorem ok26 : codeOk T h26 (bodyOf Try.f26) = true := by kernel_rfl
def h27 : Hints := []
theorem ok27 : codeOk T h27 (bodyOf Try.f27) = true := by kernel_rfl
def h28 : Hints := []
theorem ok28 : codeOk T h28 (bodyOf Try.f28) = true := by kernel_rfl
def h29 : Hints := []
theorem ok29 : codeOk T h29 (bodyOf Try.f29) = true := by kernel_rfl

end Go.Proofs
