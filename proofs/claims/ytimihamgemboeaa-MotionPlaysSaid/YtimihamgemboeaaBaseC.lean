/-
  The types, the plans of the regions that draw their order, and what is checked of each function's code. (Printed by a program of ours, wip/core/GenB.lean.)
-/
import Derived.Test.YtimihamgemboeaaChecked
import Derived.Test.YtimihamgemboeaaCore15
set_option linter.all false
set_option linter.unusedVariables false
set_option linter.unusedSimpArgs false
set_option linter.unnecessarySimpa false
namespace Go.Proofs
open Go.Aw
set_option maxRecDepth 100000

def T : Tab := [
  none,
  none,
  none,
  some ⟨(.int .i64), 1, 8, [.int .i64 0], false⟩,
  some ⟨.bool, 1, 1, [.bool false], false⟩,
  some ⟨(.int .u8), 1, 1, [.int .u8 0], false⟩,
  none,
  none,
  none,
  none,
  none,
  none,
  none,
  none,
  none,
  none,
  none,
  none,
  none,
  none,
  none,
  none,
  none,
  none,
  none,
  none,
  some ⟨(.array 5 5), 5, 5, [.int .u8 0, .int .u8 0, .int .u8 0, .int .u8 0, .int .u8 0], true⟩,
  some ⟨(.pointer 54), 1, 8, [.pointer none], false⟩,
  none,
  some ⟨(.array 5 3), 5, 40, [.int .i64 0, .int .i64 0, .int .i64 0, .int .i64 0, .int .i64 0], true⟩,
  some ⟨(.array 5 4), 5, 5, [.bool false, .bool false, .bool false, .bool false, .bool false], true⟩,
  none,
  none,
  none,
  some ⟨(.slice 40), 1, 24, [.slice none 0 0], false⟩,
  none,
  some ⟨(.struct #[⟨ "Count", 3, 0, false, "", "", 0⟩, ⟨ "Gone", 3, 1, false, "", "", 8⟩, ⟨ "More", 30, 2, false, "", "", 16⟩]), 7, 24, [.int .i64 0, .int .i64 0, .bool false, .bool false, .bool false, .bool false, .bool false], true⟩,
  none,
  some ⟨(.array 3 3), 3, 24, [.int .i64 0, .int .i64 0, .int .i64 0], true⟩,
  none,
  some ⟨(.struct #[⟨ "Kind", 3, 0, false, "", "", 0⟩, ⟨ "Clock", 3, 1, false, "", "", 8⟩, ⟨ "Nibbles", 26, 2, false, "", "", 16⟩, ⟨ "W", 38, 7, false, "", "", 24⟩]), 10, 48, [.int .i64 0, .int .i64 0, .int .u8 0, .int .u8 0, .int .u8 0, .int .u8 0, .int .u8 0, .int .i64 0, .int .i64 0, .int .i64 0], true⟩,
  some ⟨(.int .i64), 1, 8, [.int .i64 0], false⟩,
  none,
  none,
  none,
  none,
  none,
  none,
  none,
  none,
  none,
  none,
  none,
  none,
  some ⟨(.struct #[⟨ "count", 3, 0, false, "", "woodgrain/motion", 0⟩, ⟨ "gone", 3, 1, false, "", "woodgrain/motion", 8⟩, ⟨ "more", 5, 2, false, "", "woodgrain/motion", 16⟩]), 3, 24, [.int .i64 0, .int .i64 0, .int .u8 0], true⟩]

theorem tabOk : TabOk Try.prog T :=
  TabOk.of (by kernel_rfl) ⟨trivial,
    trivial,
    trivial,
    ⟨by kernel_rfl, ⟨Try.t3, .int .i64 0, by kernel_rfl, by kernel_rfl, by kernel_rfl, by kernel_rfl, by kernel_rfl⟩, by kernel_rfl, (fun h => (by cases h)), (fun fs h => (by cases h))⟩,
    ⟨by kernel_rfl, ⟨Try.t4, .bool false, by kernel_rfl, by kernel_rfl, by kernel_rfl, by kernel_rfl, by kernel_rfl⟩, by kernel_rfl, (fun h => (by cases h)), (fun fs h => (by cases h))⟩,
    ⟨by kernel_rfl, ⟨Try.t5, .int .u8 0, by kernel_rfl, by kernel_rfl, by kernel_rfl, by kernel_rfl, by kernel_rfl⟩, by kernel_rfl, (fun h => (by cases h)), (fun fs h => (by cases h))⟩,
    trivial,
    trivial,
    trivial,
    trivial,
    trivial,
    trivial,
    trivial,
    trivial,
    trivial,
    trivial,
    trivial,
    trivial,
    trivial,
    trivial,
    trivial,
    trivial,
    trivial,
    trivial,
    trivial,
    trivial,
    ⟨by kernel_rfl, ⟨Try.t26, .agg #[.int .u8 0, .int .u8 0, .int .u8 0, .int .u8 0, .int .u8 0], by kernel_rfl, by kernel_rfl, by kernel_rfl, by kernel_rfl, by kernel_rfl⟩, by kernel_rfl, (fun _ => ⟨by kernel_rfl, by kernel_rfl⟩), (fun fs h => (by cases h))⟩,
    ⟨by kernel_rfl, ⟨Try.t27, .pointer none, by kernel_rfl, by kernel_rfl, by kernel_rfl, by kernel_rfl, by kernel_rfl⟩, by kernel_rfl, (fun h => (by cases h)), (fun fs h => (by cases h))⟩,
    trivial,
    ⟨by kernel_rfl, ⟨Try.t29, .agg #[.int .i64 0, .int .i64 0, .int .i64 0, .int .i64 0, .int .i64 0], by kernel_rfl, by kernel_rfl, by kernel_rfl, by kernel_rfl, by kernel_rfl⟩, by kernel_rfl, (fun _ => ⟨by kernel_rfl, by kernel_rfl⟩), (fun fs h => (by cases h))⟩,
    ⟨by kernel_rfl, ⟨Try.t30, .agg #[.bool false, .bool false, .bool false, .bool false, .bool false], by kernel_rfl, by kernel_rfl, by kernel_rfl, by kernel_rfl, by kernel_rfl⟩, by kernel_rfl, (fun _ => ⟨by kernel_rfl, by kernel_rfl⟩), (fun fs h => (by cases h))⟩,
    trivial,
    trivial,
    trivial,
    ⟨by kernel_rfl, ⟨Try.t34, .slice none 0 0, by kernel_rfl, by kernel_rfl, by kernel_rfl, by kernel_rfl, by kernel_rfl⟩, by kernel_rfl, (fun h => (by cases h)), (fun fs h => (by cases h))⟩,
    trivial,
    ⟨by kernel_rfl, ⟨Try.t36, .agg #[.int .i64 0, .int .i64 0, .bool false, .bool false, .bool false, .bool false, .bool false], by kernel_rfl, by kernel_rfl, by kernel_rfl, by kernel_rfl, by kernel_rfl⟩, by kernel_rfl, (fun _ => ⟨by kernel_rfl, by kernel_rfl⟩), (fun fs h => (by cases h; exact flds_of (by kernel_rfl)))⟩,
    trivial,
    ⟨by kernel_rfl, ⟨Try.t38, .agg #[.int .i64 0, .int .i64 0, .int .i64 0], by kernel_rfl, by kernel_rfl, by kernel_rfl, by kernel_rfl, by kernel_rfl⟩, by kernel_rfl, (fun _ => ⟨by kernel_rfl, by kernel_rfl⟩), (fun fs h => (by cases h))⟩,
    trivial,
    ⟨by kernel_rfl, ⟨Try.t40, .agg #[.int .i64 0, .int .i64 0, .int .u8 0, .int .u8 0, .int .u8 0, .int .u8 0, .int .u8 0, .int .i64 0, .int .i64 0, .int .i64 0], by kernel_rfl, by kernel_rfl, by kernel_rfl, by kernel_rfl, by kernel_rfl⟩, by kernel_rfl, (fun _ => ⟨by kernel_rfl, by kernel_rfl⟩), (fun fs h => (by cases h; exact flds_of (by kernel_rfl)))⟩,
    ⟨by kernel_rfl, ⟨Try.t41, .int .i64 0, by kernel_rfl, by kernel_rfl, by kernel_rfl, by kernel_rfl, by kernel_rfl⟩, by kernel_rfl, (fun h => (by cases h)), (fun fs h => (by cases h))⟩,
    trivial,
    trivial,
    trivial,
    trivial,
    trivial,
    trivial,
    trivial,
    trivial,
    trivial,
    trivial,
    trivial,
    trivial,
    ⟨by kernel_rfl, ⟨Try.t54, .agg #[.int .i64 0, .int .i64 0, .int .u8 0], by kernel_rfl, by kernel_rfl, by kernel_rfl, by kernel_rfl, by kernel_rfl⟩, by kernel_rfl, (fun _ => ⟨by kernel_rfl, by kernel_rfl⟩), (fun fs h => (by cases h; exact flds_of (by kernel_rfl)))⟩, trivial⟩

def h2 : Hints := []
theorem ok2 : codeOk T h2 (bodyOf Try.f2) = true := by kernel_rfl
def h3 : Hints := []
theorem ok3 : codeOk T h3 (bodyOf Try.f3) = true := by kernel_rfl
def h4 : Hints := [(16, [(0, []), (1, []), (2, []), (3, []), (4, []), (5, []), (6, []), (7, []), (8, []), (9, [])])]
theorem ok4 : codeOk T h4 (bodyOf Try.f4) = true := by kernel_rfl
def h5 : Hints := []
theorem ok5 : codeOk T h5 (bodyOf Try.f5) = true := by kernel_rfl
def h6 : Hints := [(8, [(0, []), (1, []), (2, []), (3, []), (4, []), (5, []), (6, []), (7, []), (8, []), (9, []), (10, []), (11, []), (12, []), (13, [])]), (9, [(0, []), (1, []), (2, []), (3, []), (4, []), (5, []), (6, []), (7, []), (8, []), (9, []), (10, []), (11, []), (12, []), (13, []), (14, []), (15, []), (16, []), (17, []), (18, [])]), (23, [(0, []), (2, []), (1, [2]), (3, []), (4, []), (5, []), (6, []), (8, []), (9, []), (10, []), (7, [9]), (11, []), (12, [])])]
theorem ok6 : codeOk T h6 (bodyOf Try.f6) = true := by kernel_rfl
def h7 : Hints := [(8, [(0, []), (1, []), (2, []), (3, []), (4, []), (5, []), (6, []), (7, []), (8, []), (9, []), (10, []), (11, [])]), (16, [(0, []), (1, []), (2, []), (4, []), (5, []), (6, []), (3, [6]), (7, []), (8, []), (9, []), (10, []), (11, [])]), (17, [(0, []), (1, []), (2, []), (3, []), (4, []), (5, []), (6, []), (7, []), (8, []), (10, []), (9, [3, 4]), (11, [3, 4]), (12, []), (13, []), (14, []), (15, []), (17, []), (16, [3, 4, 17]), (18, []), (19, []), (20, []), (21, [3, 4, 17]), (22, []), (23, [])])]
theorem ok7 : codeOk T h7 (bodyOf Try.f7) = true := by kernel_rfl
def h8 : Hints := []
theorem ok8 : codeOk T h8 (bodyOf Try.f8) = true := by kernel_rfl
def h9 : Hints := []
theorem ok9 : codeOk T h9 (bodyOf Try.f9) = true := by kernel_rfl
def h10 : Hints := []
theorem ok10 : codeOk T h10 (bodyOf Try.f10) = true := by kernel_rfl
def h11 : Hints := []
theorem ok11 : codeOk T h11 (bodyOf Try.f11) = true := by kernel_rfl
def h12 : Hints := []
theorem ok12 : codeOk T h12 (bodyOf Try.f12) = true := by kernel_rfl
def h13 : Hints := []
theorem ok13 : codeOk T h13 (bodyOf Try.f13) = true := by kernel_rfl
def h14 : Hints := []
theorem ok14 : codeOk T h14 (bodyOf Try.f14) = true := by kernel_rfl
def h15 : Hints := []
theorem ok15 : codeOk T h15 (bodyOf Try.f15) = true := by kernel_rfl
def h16 : Hints := []
theorem ok16 : codeOk T h16 (bodyOf Try.f16) = true := by kernel_rfl
def h17 : Hints := []
theorem ok17 : codeOk T h17 (bodyOf Try.f17) = true := by kernel_rfl
def h18 : Hints := []
theorem ok18 : codeOk T h18 (bodyOf Try.f18) = true := by kernel_rfl
def h19 : Hints := []
theorem ok19 : codeOk T h19 (bodyOf Try.f19) = true := by kernel_rfl
def h20 : Hints := []
theorem ok20 : codeOk T h20 (bodyOf Try.f20) = true := by kernel_rfl
def h21 : Hints := [(3, [(0, []), (1, []), (2, [1]), (3, [])]), (6, [(0, []), (1, []), (2, [1]), (3, [])]), (8, [(0, []), (1, []), (2, [1]), (3, [])]), (12, [(0, []), (1, []), (2, []), (3, []), (4, []), (5, []), (6, []), (7, []), (8, []), (9, []), (11, []), (12, []), (15, []), (10, [12]), (13, []), (14, []), (16, []), (17, [])]), (16, [(1, []), (0, [1]), (2, [1]), (3, [])]), (17, [(0, []), (1, []), (2, [1]), (3, [])])]
theorem ok21 : codeOk T h21 (bodyOf Try.f21) = true := by kernel_rfl
def h22 : Hints := [(3, [(0, []), (1, []), (2, []), (3, []), (4, []), (5, []), (6, []), (7, []), (8, []), (9, []), (10, []), (11, []), (12, []), (13, []), (14, [])])]
theorem ok22 : codeOk T h22 (bodyOf Try.f22) = true := by kernel_rfl
def h23 : Hints := []
theorem ok23 : codeOk T h23 (bodyOf Try.f23) = true := by kernel_rfl
def h24 : Hints := []
theorem ok24 : codeOk T h24 (bodyOf Try.f24) = true := by kernel_rfl
def h25 : Hints := []
theorem ok25 : codeOk T h25 (bodyOf Try.f25) = true := by kernel_rfl
def h26 : Hints := [(1, [(0, []), (1, []), (2, []), (3, []), (4, []), (5, []), (6, []), (7, []), (8, []), (9, []), (10, []), (11, [])])]
theorem ok26 : codeOk T h26 (bodyOf Try.f26) = true := by kernel_rfl

end Go.Proofs
