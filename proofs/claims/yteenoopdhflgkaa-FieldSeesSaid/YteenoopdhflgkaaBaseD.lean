/-
  The types, the plans of the regions that draw their order, and what is checked of each function's code. (Printed by a program of ours, wip/core/GenB.lean.)
-/
import Derived.Test.YteenoopdhflgkaaChecked
import Derived.Test.YteenoopdhflgkaaCore15
set_option linter.all false
set_option linter.unusedVariables false
set_option linter.unusedSimpArgs false
set_option linter.unnecessarySimpa false
namespace Go.Proofs
open Go.Aw
set_option maxRecDepth 100000

def T : Tab := [
  none,
  none,
  none,
  some ⟨(.int .i64), 1, 8, [.int .i64 0], false⟩,
  some ⟨.bool, 1, 1, [.bool false], false⟩,
  some ⟨(.int .u8), 1, 1, [.int .u8 0], false⟩,
  none,
  none,
  none,
  some ⟨.string, 1, 16, [.string ByteArray.empty], false⟩,
  none,
  none,
  none,
  none,
  none,
  none,
  none,
  none,
  none,
  none,
  none,
  none,
  some ⟨(.array 3 5), 3, 3, [.int .u8 0, .int .u8 0, .int .u8 0], true⟩,
  none,
  none,
  none,
  none,
  some ⟨(.array 6 4), 6, 6, [.bool false, .bool false, .bool false, .bool false, .bool false, .bool false], true⟩,
  some ⟨(.int .u16), 1, 2, [.int .u16 0], false⟩,
  none,
  none,
  none,
  some ⟨(.struct #[⟨ "Bits", 5, 0, false, "", "", 0⟩, ⟨ "Mirror", 4, 1, false, "", "", 1⟩, ⟨ "Width", 3, 2, false, "", "", 8⟩, ⟨ "Dot", 3, 3, false, "", "", 16⟩]), 4, 24, [.int .u8 0, .bool false, .int .i64 0, .int .i64 0], true⟩,
  none,
  none,
  none,
  none,
  none,
  none,
  none,
  none,
  none,
  none,
  none,
  some ⟨(.int .u32), 1, 4, [.int .u32 0], false⟩,
  none,
  none,
  some ⟨(.array 2 3), 2, 16, [.int .i64 0, .int .i64 0], true⟩,
  some ⟨(.array 15 47), 30, 240, [.int .i64 0, .int .i64 0, .int .i64 0, .int .i64 0, .int .i64 0, .int .i64 0, .int .i64 0, .int .i64 0, .int .i64 0, .int .i64 0, .int .i64 0, .int .i64 0, .int .i64 0, .int .i64 0, .int .i64 0, .int .i64 0, .int .i64 0, .int .i64 0, .int .i64 0, .int .i64 0, .int .i64 0, .int .i64 0, .int .i64 0, .int .i64 0, .int .i64 0, .int .i64 0, .int .i64 0, .int .i64 0, .int .i64 0, .int .i64 0], true⟩,
  none,
  none,
  none,
  none,
  none,
  none,
  none,
  some ⟨(.int .u64), 1, 8, [.int .u64 0], false⟩,
  some ⟨(.array 15 3), 15, 120, [.int .i64 0, .int .i64 0, .int .i64 0, .int .i64 0, .int .i64 0, .int .i64 0, .int .i64 0, .int .i64 0, .int .i64 0, .int .i64 0, .int .i64 0, .int .i64 0, .int .i64 0, .int .i64 0, .int .i64 0], true⟩]

theorem tabOk : TabOk Try.prog T :=
  TabOk.of (by kernel_rfl) ⟨trivial,
    trivial,
    trivial,
    ⟨by kernel_rfl, ⟨Try.t3, .int .i64 0, by kernel_rfl, by kernel_rfl, by kernel_rfl, by kernel_rfl, by kernel_rfl⟩, by kernel_rfl, (fun h => (by cases h)), (fun fs h => (by cases h))⟩,
    ⟨by kernel_rfl, ⟨Try.t4, .bool false, by kernel_rfl, by kernel_rfl, by kernel_rfl, by kernel_rfl, by kernel_rfl⟩, by kernel_rfl, (fun h => (by cases h)), (fun fs h => (by cases h))⟩,
    ⟨by kernel_rfl, ⟨Try.t5, .int .u8 0, by kernel_rfl, by kernel_rfl, by kernel_rfl, by kernel_rfl, by kernel_rfl⟩, by kernel_rfl, (fun h => (by cases h)), (fun fs h => (by cases h))⟩,
    trivial,
    trivial,
    trivial,
    ⟨by kernel_rfl, ⟨Try.t9, .string ByteArray.empty, by kernel_rfl, by kernel_rfl, by kernel_rfl, by kernel_rfl, by kernel_rfl⟩, by kernel_rfl, (fun h => (by cases h)), (fun fs h => (by cases h))⟩,
    trivial,
    trivial,
    trivial,
    trivial,
    trivial,
    trivial,
    trivial,
    trivial,
    trivial,
    trivial,
    trivial,
    trivial,
    ⟨by kernel_rfl, ⟨Try.t22, .agg #[.int .u8 0, .int .u8 0, .int .u8 0], by kernel_rfl, by kernel_rfl, by kernel_rfl, by kernel_rfl, by kernel_rfl⟩, by kernel_rfl, (fun _ => ⟨by kernel_rfl, by kernel_rfl⟩), (fun fs h => (by cases h))⟩,
    trivial,
    trivial,
    trivial,
    trivial,
    ⟨by kernel_rfl, ⟨Try.t27, .agg #[.bool false, .bool false, .bool false, .bool false, .bool false, .bool false], by kernel_rfl, by kernel_rfl, by kernel_rfl, by kernel_rfl, by kernel_rfl⟩, by kernel_rfl, (fun _ => ⟨by kernel_rfl, by kernel_rfl⟩), (fun fs h => (by cases h))⟩,
    ⟨by kernel_rfl, ⟨Try.t28, .int .u16 0, by kernel_rfl, by kernel_rfl, by kernel_rfl, by kernel_rfl, by kernel_rfl⟩, by kernel_rfl, (fun h => (by cases h)), (fun fs h => (by cases h))⟩,
    trivial,
    trivial,
    trivial,
    ⟨by kernel_rfl, ⟨Try.t32, .agg #[.int .u8 0, .bool false, .int .i64 0, .int .i64 0], by kernel_rfl, by kernel_rfl, by kernel_rfl, by kernel_rfl, by kernel_rfl⟩, by kernel_rfl, (fun _ => ⟨by kernel_rfl, by kernel_rfl⟩), (fun fs h => (by cases h; exact flds_of (by kernel_rfl)))⟩,
    trivial,
    trivial,
    trivial,
    trivial,
    trivial,
    trivial,
    trivial,
    trivial,
    trivial,
    trivial,
    trivial,
    ⟨by kernel_rfl, ⟨Try.t44, .int .u32 0, by kernel_rfl, by kernel_rfl, by kernel_rfl, by kernel_rfl, by kernel_rfl⟩, by kernel_rfl, (fun h => (by cases h)), (fun fs h => (by cases h))⟩,
    trivial,
    trivial,
    ⟨by kernel_rfl, ⟨Try.t47, .agg #[.int .i64 0, .int .i64 0], by kernel_rfl, by kernel_rfl, by kernel_rfl, by kernel_rfl, by kernel_rfl⟩, by kernel_rfl, (fun _ => ⟨by kernel_rfl, by kernel_rfl⟩), (fun fs h => (by cases h))⟩,
    ⟨by kernel_rfl, ⟨Try.t48, .agg #[.int .i64 0, .int .i64 0, .int .i64 0, .int .i64 0, .int .i64 0, .int .i64 0, .int .i64 0, .int .i64 0, .int .i64 0, .int .i64 0, .int .i64 0, .int .i64 0, .int .i64 0, .int .i64 0, .int .i64 0, .int .i64 0, .int .i64 0, .int .i64 0, .int .i64 0, .int .i64 0, .int .i64 0, .int .i64 0, .int .i64 0, .int .i64 0, .int .i64 0, .int .i64 0, .int .i64 0, .int .i64 0, .int .i64 0, .int .i64 0], by kernel_rfl, by kernel_rfl, by kernel_rfl, by kernel_rfl, by kernel_rfl⟩, by kernel_rfl, (fun _ => ⟨by kernel_rfl, by kernel_rfl⟩), (fun fs h => (by cases h))⟩,
    trivial,
    trivial,
    trivial,
    trivial,
    trivial,
    trivial,
    trivial,
    ⟨by kernel_rfl, ⟨Try.t56, .int .u64 0, by kernel_rfl, by kernel_rfl, by kernel_rfl, by kernel_rfl, by kernel_rfl⟩, by kernel_rfl, (fun h => (by cases h)), (fun fs h => (by cases h))⟩,
    ⟨by kernel_rfl, ⟨Try.t57, .agg #[.int .i64 0, .int .i64 0, .int .i64 0, .int .i64 0, .int .i64 0, .int .i64 0, .int .i64 0, .int .i64 0, .int .i64 0, .int .i64 0, .int .i64 0, .int .i64 0, .int .i64 0, .int .i64 0, .int .i64 0], by kernel_rfl, by kernel_rfl, by kernel_rfl, by kernel_rfl, by kernel_rfl⟩, by kernel_rfl, (fun _ => ⟨by kernel_rfl, by kernel_rfl⟩), (fun fs h => (by cases h))⟩, trivial⟩

def h2 : Hints := []
theorem ok2 : codeOk T h2 (bodyOf Try.f2) = true := by kernel_rfl
def h3 : Hints := [(1, [(0, []), (1, []), (2, []), (4, []), (5, []), (6, []), (7, []), (3, [4]), (8, []), (9, []), (10, []), (11, []), (12, []), (13, [])])]
theorem ok3 : codeOk T h3 (bodyOf Try.f3) = true := by kernel_rfl
def h4 : Hints := []
theorem ok4 : codeOk T h4 (bodyOf Try.f4) = true := by kernel_rfl
def h5 : Hints := []
theorem ok5 : codeOk T h5 (bodyOf Try.f5) = true := by kernel_rfl
def h6 : Hints := [(1, [(0, []), (1, []), (2, []), (3, []), (4, []), (5, []), (6, []), (7, []), (9, []), (10, []), (11, []), (12, []), (13, []), (14, []), (15, []), (16, []), (17, []), (8, [10, 13, 15, 17]), (18, []), (19, []), (20, []), (21, []), (22, []), (23, [])])]
theorem ok6 : codeOk T h6 (bodyOf Try.f6) = true := by kernel_rfl
def h7 : Hints := [(3, [(0, []), (1, []), (2, []), (4, []), (5, []), (6, []), (7, []), (8, []), (9, []), (10, []), (3, []), (11, []), (12, []), (13, []), (14, []), (15, []), (16, []), (18, []), (19, []), (20, []), (21, []), (17, []), (22, []), (23, []), (24, []), (25, []), (26, []), (27, []), (28, [])])]
theorem ok7 : codeOk T h7 (bodyOf Try.f7) = true := by kernel_rfl
def h8 : Hints := [(2, [(0, []), (1, []), (2, []), (4, []), (5, []), (6, []), (7, []), (3, [4]), (8, []), (9, []), (10, []), (11, []), (12, []), (13, []), (14, []), (15, []), (16, []), (17, []), (18, []), (19, []), (22, []), (23, []), (24, []), (20, []), (21, []), (25, []), (26, []), (27, []), (28, []), (29, []), (30, []), (31, [])])]
theorem ok8 : codeOk T h8 (bodyOf Try.f8) = true := by kernel_rfl
def h9 : Hints := []
theorem ok9 : codeOk T h9 (bodyOf Try.f9) = true := by kernel_rfl
def h10 : Hints := []
theorem ok10 : codeOk T h10 (bodyOf Try.f10) = true := by kernel_rfl
def h11 : Hints := []
theorem ok11 : codeOk T h11 (bodyOf Try.f11) = true := by kernel_rfl
def h12 : Hints := []
theorem ok12 : codeOk T h12 (bodyOf Try.f12) = true := by kernel_rfl
def h13 : Hints := []
theorem ok13 : codeOk T h13 (bodyOf Try.f13) = true := by kernel_rfl
def h14 : Hints := []
theorem ok14 : codeOk T h14 (bodyOf Try.f14) = true := by kernel_rfl
def h15 : Hints := []
theorem ok15 : codeOk T h15 (bodyOf Try.f15) = true := by kernel_rfl
def h16 : Hints := []
theorem ok16 : codeOk T h16 (bodyOf Try.f16) = true := by kernel_rfl
def h17 : Hints := []
theorem ok17 : codeOk T h17 (bodyOf Try.f17) = true := by kernel_rfl
def h18 : Hints := []
theorem ok18 : codeOk T h18 (bodyOf Try.f18) = true := by kernel_rfl
def h19 : Hints := [(6, [(0, []), (1, []), (2, []), (3, []), (4, []), (5, []), (6, []), (7, []), (8, []), (9, []), (10, []), (11, []), (12, [])])]
theorem ok19 : codeOk T h19 (bodyOf Try.f19) = true := by kernel_rfl
def h20 : Hints := []
theorem ok20 : codeOk T h20 (bodyOf Try.f20) = true := by kernel_rfl
def h21 : Hints := [(1, [(0, []), (1, []), (2, []), (3, []), (4, []), (5, []), (10, []), (11, []), (12, []), (13, []), (6, [1, 11]), (7, []), (8, []), (9, []), (14, []), (15, [])])]
theorem ok21 : codeOk T h21 (bodyOf Try.f21) = true := by kernel_rfl
def h22 : Hints := [(2, [(0, []), (1, []), (2, []), (3, []), (4, []), (5, [1]), (6, []), (7, [])]), (4, [(0, []), (1, []), (2, []), (3, []), (4, []), (5, [1]), (6, []), (7, [])]), (5, [(0, []), (1, []), (2, []), (3, []), (4, []), (5, [1]), (6, []), (7, [])])]
theorem ok22 : codeOk T h22 (bodyOf Try.f22) = true := by kernel_rfl
def h23 : Hints := []
theorem ok23 : codeOk T h23 (bodyOf Try.f23) = true := by kernel_rfl
def h24 : Hints := []
theorem ok24 : codeOk T h24 (bodyOf Try.f24) = true := by kernel_rfl
def h25 : Hints := []
theorem ok25 : codeOk T h25 (bodyOf Try.f25) = true := by kernel_rfl
def h26 : Hints := []
theorem ok26 : codeOk T h26 (bodyOf Try.f26) = true := by kernel_rfl
def h27 : Hints := []
theorem ok27 : codeOk T h27 (bodyOf Try.f27) = true := by kernel_rfl
def h28 : Hints := []
theorem ok28 : codeOk T h28 (bodyOf Try.f28) = true := by kernel_rfl
def h29 : Hints := [(3, [(0, []), (1, []), (2, []), (3, []), (4, []), (5, []), (6, []), (7, [])])]
theorem ok29 : codeOk T h29 (bodyOf Try.f29) = true := by kernel_rfl

end Go.Proofs
