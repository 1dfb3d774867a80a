/-
  The types, the plans of the regions that draw their order, and what is checked of each function's code. (Printed by a program of ours, wip/core/GenB.lean.)
-/
import Derived.Test.YtlodkcpaoljdlaaChecked
import Derived.Test.YtlodkcpaoljdlaaCore15
set_option linter.all false
set_option linter.unusedVariables false
set_option linter.unusedSimpArgs false
set_option linter.unnecessarySimpa false
namespace Go.Proofs
open Go.Aw
set_option maxRecDepth 100000

def T : Tab := [
  none,
  none,
  none,
  some ⟨(.int .i64), 1, 8, [.int .i64 0], false⟩,
  some ⟨.bool, 1, 1, [.bool false], false⟩,
  some ⟨(.int .u8), 1, 1, [.int .u8 0], false⟩,
  none,
  none,
  none,
  some ⟨.string, 1, 16, [.string ByteArray.empty], false⟩,
  none,
  none,
  none,
  none,
  none,
  none,
  none,
  none,
  none,
  none,
  none,
  none,
  none,
  some ⟨(.struct #[⟨ "Size", 3, 0, false, "", "", 0⟩, ⟨ "Tap", 3, 1, false, "", "", 8⟩, ⟨ "State", 5, 2, false, "", "", 16⟩, ⟨ "Steps", 5, 3, false, "", "", 17⟩]), 4, 24, [.int .i64 0, .int .i64 0, .int .u8 0, .int .u8 0], true⟩,
  some ⟨(.pointer 76), 1, 8, [.pointer none], false⟩,
  none,
  none,
  none,
  some ⟨(.int .i64), 1, 8, [.int .i64 0], false⟩,
  none,
  none,
  none,
  some ⟨(.slice 5), 1, 24, [.slice none 0 0], false⟩,
  none,
  some ⟨(.slice 3), 1, 24, [.slice none 0 0], false⟩,
  none,
  none,
  some ⟨(.int .u16), 1, 2, [.int .u16 0], false⟩,
  none,
  some ⟨(.struct #[⟨ "Size", 3, 0, false, "", "", 0⟩, ⟨ "Tap", 3, 1, false, "", "", 8⟩, ⟨ "State", 37, 2, false, "", "", 16⟩, ⟨ "Bits", 3, 3, false, "", "", 24⟩]), 4, 32, [.int .i64 0, .int .i64 0, .int .u16 0, .int .i64 0], true⟩,
  some ⟨(.pointer 81), 1, 8, [.pointer none], false⟩,
  none,
  none,
  none,
  none,
  none,
  none,
  none,
  none,
  none,
  some ⟨(.array 4 3), 4, 32, [.int .i64 0, .int .i64 0, .int .i64 0, .int .i64 0], true⟩,
  none,
  some ⟨(.array 2 37), 2, 4, [.int .u16 0, .int .u16 0], true⟩,
  none,
  some ⟨(.array 4 5), 4, 4, [.int .u8 0, .int .u8 0, .int .u8 0, .int .u8 0], true⟩,
  some ⟨(.pointer 87), 1, 8, [.pointer none], false⟩,
  none,
  none,
  none,
  some ⟨(.array 8 3), 8, 64, [.int .i64 0, .int .i64 0, .int .i64 0, .int .i64 0, .int .i64 0, .int .i64 0, .int .i64 0, .int .i64 0], true⟩,
  none,
  none,
  some ⟨(.slice 64), 1, 24, [.slice none 0 0], false⟩,
  none,
  some ⟨(.struct #[⟨ "Kind", 3, 0, false, "", "", 0⟩, ⟨ "Ticks", 37, 1, false, "", "", 8⟩, ⟨ "N", 5, 2, false, "", "", 10⟩, ⟨ "W", 59, 3, false, "", "", 16⟩]), 11, 80, [.int .i64 0, .int .u16 0, .int .u8 0, .int .i64 0, .int .i64 0, .int .i64 0, .int .i64 0, .int .i64 0, .int .i64 0, .int .i64 0, .int .i64 0], true⟩,
  none,
  none,
  none,
  some ⟨(.struct #[⟨ "Control", 3, 0, false, "", "", 0⟩, ⟨ "Rate", 3, 1, false, "", "", 8⟩, ⟨ "Volume", 3, 2, false, "", "", 16⟩, ⟨ "Four", 3, 3, false, "", "", 24⟩, ⟨ "Five", 3, 4, false, "", "", 32⟩, ⟨ "Nine", 3, 5, false, "", "", 40⟩, ⟨ "Count", 3, 6, false, "", "", 48⟩, ⟨ "High", 4, 7, false, "", "", 56⟩]), 8, 64, [.int .i64 0, .int .i64 0, .int .i64 0, .int .i64 0, .int .i64 0, .int .i64 0, .int .i64 0, .bool false], true⟩,
  none,
  none,
  none,
  none,
  none,
  none,
  none,
  some ⟨(.struct #[⟨ "state", 5, 0, false, "", "woodgrain/poly", 0⟩, ⟨ "size", 3, 1, false, "", "woodgrain/poly", 8⟩, ⟨ "tap", 3, 2, false, "", "woodgrain/poly", 16⟩]), 3, 24, [.int .u8 0, .int .i64 0, .int .i64 0], true⟩,
  none,
  none,
  none,
  none,
  some ⟨(.struct #[⟨ "state", 37, 0, false, "", "woodgrain/poly", 0⟩, ⟨ "size", 3, 1, false, "", "woodgrain/poly", 8⟩, ⟨ "tap", 3, 2, false, "", "woodgrain/poly", 16⟩]), 3, 24, [.int .u16 0, .int .i64 0, .int .i64 0], true⟩,
  none,
  none,
  none,
  none,
  none,
  some ⟨(.struct #[⟨ "control", 5, 0, false, "", "woodgrain/tone", 0⟩, ⟨ "rate", 5, 1, false, "", "woodgrain/tone", 1⟩, ⟨ "volume", 5, 2, false, "", "woodgrain/tone", 2⟩, ⟨ "four", 24, 3, false, "", "woodgrain/tone", 8⟩, ⟨ "five", 24, 4, false, "", "woodgrain/tone", 16⟩, ⟨ "nine", 40, 5, false, "", "woodgrain/tone", 24⟩, ⟨ "count", 3, 6, false, "", "woodgrain/tone", 32⟩, ⟨ "high", 4, 7, false, "", "woodgrain/tone", 40⟩]), 8, 48, [.int .u8 0, .int .u8 0, .int .u8 0, .pointer none, .pointer none, .pointer none, .int .i64 0, .bool false], true⟩,
  none,
  none,
  some ⟨(.func #[55] #[89] false), 1, 8, [.nilFunc], false⟩,
  none,
  none,
  none,
  some ⟨(.int .u64), 1, 8, [.int .u64 0], false⟩]

theorem tabOk : TabOk Try.prog T :=
  TabOk.of (by kernel_rfl) ⟨trivial,
    trivial,
    trivial,
    ⟨by kernel_rfl, ⟨Try.t3, .int .i64 0, by kernel_rfl, by kernel_rfl, by kernel_rfl, by kernel_rfl, by kernel_rfl⟩, by kernel_rfl, (fun h => (by cases h)), (fun fs h => (by cases h))⟩,
    ⟨by kernel_rfl, ⟨Try.t4, .bool false, by kernel_rfl, by kernel_rfl, by kernel_rfl, by kernel_rfl, by kernel_rfl⟩, by kernel_rfl, (fun h => (by cases h)), (fun fs h => (by cases h))⟩,
    ⟨by kernel_rfl, ⟨Try.t5, .int .u8 0, by kernel_rfl, by kernel_rfl, by kernel_rfl, by kernel_rfl, by kernel_rfl⟩, by kernel_rfl, (fun h => (by cases h)), (fun fs h => (by cases h))⟩,
    trivial,
    trivial,
    trivial,
    ⟨by kernel_rfl, ⟨Try.t9, .string ByteArray.empty, by kernel_rfl, by kernel_rfl, by kernel_rfl, by kernel_rfl, by kernel_rfl⟩, by kernel_rfl, (fun h => (by cases h)), (fun fs h => (by cases h))⟩,
    trivial,
    trivial,
    trivial,
    trivial,
    trivial,
    trivial,
    trivial,
    trivial,
    trivial,
    trivial,
    trivial,
    trivial,
    trivial,
    ⟨by kernel_rfl, ⟨Try.t23, .agg #[.int .i64 0, .int .i64 0, .int .u8 0, .int .u8 0], by kernel_rfl, by kernel_rfl, by kernel_rfl, by kernel_rfl, by kernel_rfl⟩, by kernel_rfl, (fun _ => ⟨by kernel_rfl, by kernel_rfl⟩), (fun fs h => (by cases h; exact flds_of (by kernel_rfl)))⟩,
    ⟨by kernel_rfl, ⟨Try.t24, .pointer none, by kernel_rfl, by kernel_rfl, by kernel_rfl, by kernel_rfl, by kernel_rfl⟩, by kernel_rfl, (fun h => (by cases h)), (fun fs h => (by cases h))⟩,
    trivial,
    trivial,
    trivial,
    ⟨by kernel_rfl, ⟨Try.t28, .int .i64 0, by kernel_rfl, by kernel_rfl, by kernel_rfl, by kernel_rfl, by kernel_rfl⟩, by kernel_rfl, (fun h => (by cases h)), (fun fs h => (by cases h))⟩,
    trivial,
    trivial,
    trivial,
    ⟨by kernel_rfl, ⟨Try.t32, .slice none 0 0, by kernel_rfl, by kernel_rfl, by kernel_rfl, by kernel_rfl, by kernel_rfl⟩, by kernel_rfl, (fun h => (by cases h)), (fun fs h => (by cases h))⟩,
    trivial,
    ⟨by kernel_rfl, ⟨Try.t34, .slice none 0 0, by kernel_rfl, by kernel_rfl, by kernel_rfl, by kernel_rfl, by kernel_rfl⟩, by kernel_rfl, (fun h => (by cases h)), (fun fs h => (by cases h))⟩,
    trivial,
    trivial,
    ⟨by kernel_rfl, ⟨Try.t37, .int .u16 0, by kernel_rfl, by kernel_rfl, by kernel_rfl, by kernel_rfl, by kernel_rfl⟩, by kernel_rfl, (fun h => (by cases h)), (fun fs h => (by cases h))⟩,
    trivial,
    ⟨by kernel_rfl, ⟨Try.t39, .agg #[.int .i64 0, .int .i64 0, .int .u16 0, .int .i64 0], by kernel_rfl, by kernel_rfl, by kernel_rfl, by kernel_rfl, by kernel_rfl⟩, by kernel_rfl, (fun _ => ⟨by kernel_rfl, by kernel_rfl⟩), (fun fs h => (by cases h; exact flds_of (by kernel_rfl)))⟩,
    ⟨by kernel_rfl, ⟨Try.t40, .pointer none, by kernel_rfl, by kernel_rfl, by kernel_rfl, by kernel_rfl, by kernel_rfl⟩, by kernel_rfl, (fun h => (by cases h)), (fun fs h => (by cases h))⟩,
    trivial,
    trivial,
    trivial,
    trivial,
    trivial,
    trivial,
    trivial,
    trivial,
    trivial,
    ⟨by kernel_rfl, ⟨Try.t50, .agg #[.int .i64 0, .int .i64 0, .int .i64 0, .int .i64 0], by kernel_rfl, by kernel_rfl, by kernel_rfl, by kernel_rfl, by kernel_rfl⟩, by kernel_rfl, (fun _ => ⟨by kernel_rfl, by kernel_rfl⟩), (fun fs h => (by cases h))⟩,
    trivial,
    ⟨by kernel_rfl, ⟨Try.t52, .agg #[.int .u16 0, .int .u16 0], by kernel_rfl, by kernel_rfl, by kernel_rfl, by kernel_rfl, by kernel_rfl⟩, by kernel_rfl, (fun _ => ⟨by kernel_rfl, by kernel_rfl⟩), (fun fs h => (by cases h))⟩,
    trivial,
    ⟨by kernel_rfl, ⟨Try.t54, .agg #[.int .u8 0, .int .u8 0, .int .u8 0, .int .u8 0], by kernel_rfl, by kernel_rfl, by kernel_rfl, by kernel_rfl, by kernel_rfl⟩, by kernel_rfl, (fun _ => ⟨by kernel_rfl, by kernel_rfl⟩), (fun fs h => (by cases h))⟩,
    ⟨by kernel_rfl, ⟨Try.t55, .pointer none, by kernel_rfl, by kernel_rfl, by kernel_rfl, by kernel_rfl, by kernel_rfl⟩, by kernel_rfl, (fun h => (by cases h)), (fun fs h => (by cases h))⟩,
    trivial,
    trivial,
    trivial,
    ⟨by kernel_rfl, ⟨Try.t59, .agg #[.int .i64 0, .int .i64 0, .int .i64 0, .int .i64 0, .int .i64 0, .int .i64 0, .int .i64 0, .int .i64 0], by kernel_rfl, by kernel_rfl, by kernel_rfl, by kernel_rfl, by kernel_rfl⟩, by kernel_rfl, (fun _ => ⟨by kernel_rfl, by kernel_rfl⟩), (fun fs h => (by cases h))⟩,
    trivial,
    trivial,
    ⟨by kernel_rfl, ⟨Try.t62, .slice none 0 0, by kernel_rfl, by kernel_rfl, by kernel_rfl, by kernel_rfl, by kernel_rfl⟩, by kernel_rfl, (fun h => (by cases h)), (fun fs h => (by cases h))⟩,
    trivial,
    ⟨by kernel_rfl, ⟨Try.t64, .agg #[.int .i64 0, .int .u16 0, .int .u8 0, .int .i64 0, .int .i64 0, .int .i64 0, .int .i64 0, .int .i64 0, .int .i64 0, .int .i64 0, .int .i64 0], by kernel_rfl, by kernel_rfl, by kernel_rfl, by kernel_rfl, by kernel_rfl⟩, by kernel_rfl, (fun _ => ⟨by kernel_rfl, by kernel_rfl⟩), (fun fs h => (by cases h; exact flds_of (by kernel_rfl)))⟩,
    trivial,
    trivial,
    trivial,
    ⟨by kernel_rfl, ⟨Try.t68, .agg #[.int .i64 0, .int .i64 0, .int .i64 0, .int .i64 0, .int .i64 0, .int .i64 0, .int .i64 0, .bool false], by kernel_rfl, by kernel_rfl, by kernel_rfl, by kernel_rfl, by kernel_rfl⟩, by kernel_rfl, (fun _ => ⟨by kernel_rfl, by kernel_rfl⟩), (fun fs h => (by cases h; exact flds_of (by kernel_rfl)))⟩,
    trivial,
    trivial,
    trivial,
    trivial,
    trivial,
    trivial,
    trivial,
    ⟨by kernel_rfl, ⟨Try.t76, .agg #[.int .u8 0, .int .i64 0, .int .i64 0], by kernel_rfl, by kernel_rfl, by kernel_rfl, by kernel_rfl, by kernel_rfl⟩, by kernel_rfl, (fun _ => ⟨by kernel_rfl, by kernel_rfl⟩), (fun fs h => (by cases h; exact flds_of (by kernel_rfl)))⟩,
    trivial,
    trivial,
    trivial,
    trivial,
    ⟨by kernel_rfl, ⟨Try.t81, .agg #[.int .u16 0, .int .i64 0, .int .i64 0], by kernel_rfl, by kernel_rfl, by kernel_rfl, by kernel_rfl, by kernel_rfl⟩, by kernel_rfl, (fun _ => ⟨by kernel_rfl, by kernel_rfl⟩), (fun fs h => (by cases h; exact flds_of (by kernel_rfl)))⟩,
    trivial,
    trivial,
    trivial,
    trivial,
    trivial,
    ⟨by kernel_rfl, ⟨Try.t87, .agg #[.int .u8 0, .int .u8 0, .int .u8 0, .pointer none, .pointer none, .pointer none, .int .i64 0, .bool false], by kernel_rfl, by kernel_rfl, by kernel_rfl, by kernel_rfl, by kernel_rfl⟩, by kernel_rfl, (fun _ => ⟨by kernel_rfl, by kernel_rfl⟩), (fun fs h => (by cases h; exact flds_of (by kernel_rfl)))⟩,
    trivial,
    trivial,
    ⟨by kernel_rfl, ⟨Try.t90, .nilFunc, by kernel_rfl, by kernel_rfl, by kernel_rfl, by kernel_rfl, by kernel_rfl⟩, by kernel_rfl, (fun h => (by cases h)), (fun fs h => (by cases h))⟩,
    trivial,
    trivial,
    trivial,
    ⟨by kernel_rfl, ⟨Try.t94, .int .u64 0, by kernel_rfl, by kernel_rfl, by kernel_rfl, by kernel_rfl, by kernel_rfl⟩, by kernel_rfl, (fun h => (by cases h)), (fun fs h => (by cases h))⟩, trivial⟩

def h2 : Hints := []
theorem ok2 : codeOk T h2 (bodyOf Try.f2) = true := by kernel_rfl
def h3 : Hints := [(12, [(0, []), (3, []), (4, []), (5, []), (6, []), (1, [6]), (2, []), (7, []), (8, []), (9, []), (11, []), (12, []), (13, []), (14, []), (10, [14]), (15, []), (16, [])]), (14, [(0, []), (1, []), (2, []), (3, []), (6, []), (7, []), (8, []), (9, []), (10, []), (4, [10]), (5, []), (11, []), (12, []), (13, []), (14, [10, 5]), (15, []), (16, [])])]
theorem ok3 : codeOk T h3 (bodyOf Try.f3) = true := by kernel_rfl
def h4 : Hints := [(9, [(0, []), (1, []), (2, []), (3, []), (4, []), (5, []), (8, []), (9, []), (10, []), (11, []), (12, []), (13, []), (14, []), (15, []), (16, []), (6, [9, 11, 13, 14, 16]), (7, []), (17, [7]), (18, []), (19, []), (20, []), (21, []), (22, []), (24, []), (25, []), (23, [7, 18, 25]), (26, []), (27, []), (28, []), (29, [7, 18, 25]), (30, []), (31, [])])]
theorem ok4 : codeOk T h4 (bodyOf Try.f4) = true := by kernel_rfl
def h5 : Hints := [(14, [(0, []), (2, []), (3, []), (4, []), (5, []), (6, []), (7, []), (8, []), (1, [3, 5, 7, 8]), (9, []), (10, []), (11, []), (12, []), (13, []), (14, [])])]
theorem ok5 : codeOk T h5 (bodyOf Try.f5) = true := by kernel_rfl
def h6 : Hints := [(5, [(0, []), (1, []), (2, []), (3, []), (4, []), (5, []), (6, []), (7, [])])]
theorem ok6 : codeOk T h6 (bodyOf Try.f6) = true := by kernel_rfl
def h7 : Hints := [(2, [(0, []), (1, []), (2, []), (4, []), (5, []), (6, []), (3, [6]), (7, []), (8, []), (9, [])]), (7, [(0, []), (2, []), (5, []), (6, []), (7, []), (8, []), (9, []), (1, [6, 8]), (3, [6, 8]), (4, []), (10, []), (11, []), (12, [6, 8]), (13, []), (14, [])])]
theorem ok7 : codeOk T h7 (bodyOf Try.f7) = true := by kernel_rfl
def h8 : Hints := [(9, [(0, []), (2, []), (3, []), (1, [3]), (4, []), (5, []), (6, []), (7, []), (8, []), (9, []), (10, [3]), (11, []), (12, [])])]
theorem ok8 : codeOk T h8 (bodyOf Try.f8) = true := by kernel_rfl
def h9 : Hints := []
theorem ok9 : codeOk T h9 (bodyOf Try.f9) = true := by kernel_rfl
def h10 : Hints := []
theorem ok10 : codeOk T h10 (bodyOf Try.f10) = true := by kernel_rfl
def h11 : Hints := [(7, [(0, []), (1, []), (2, []), (3, []), (4, []), (5, []), (6, []), (7, []), (8, []), (9, []), (10, []), (11, []), (12, [])]), (9, [(0, []), (1, []), (2, []), (3, []), (5, []), (4, [5]), (6, []), (7, []), (8, []), (9, []), (10, []), (13, []), (11, [13]), (12, []), (14, [12]), (15, []), (16, [])])]
theorem ok11 : codeOk T h11 (bodyOf Try.f11) = true := by kernel_rfl
def h12 : Hints := [(19, [(0, []), (2, []), (1, []), (3, []), (4, []), (5, []), (6, []), (8, []), (7, [8]), (9, []), (10, []), (11, []), (12, [8]), (13, []), (14, [])])]
theorem ok12 : codeOk T h12 (bodyOf Try.f12) = true := by kernel_rfl
def h13 : Hints := []
theorem ok13 : codeOk T h13 (bodyOf Try.f13) = true := by kernel_rfl
def h14 : Hints := []
theorem ok14 : codeOk T h14 (bodyOf Try.f14) = true := by kernel_rfl
def h15 : Hints := []
theorem ok15 : codeOk T h15 (bodyOf Try.f15) = true := by kernel_rfl
def h16 : Hints := []
theorem ok16 : codeOk T h16 (bodyOf Try.f16) = true := by kernel_rfl
def h17 : Hints := []
theorem ok17 : codeOk T h17 (bodyOf Try.f17) = true := by kernel_rfl
def h18 : Hints := []
theorem ok18 : codeOk T h18 (bodyOf Try.f18) = true := by kernel_rfl
def h19 : Hints := []
theorem ok19 : codeOk T h19 (bodyOf Try.f19) = true := by kernel_rfl
def h20 : Hints := []
theorem ok20 : codeOk T h20 (bodyOf Try.f20) = true := by kernel_rfl
def h21 : Hints := [(7, [(0, []), (1, []), (2, []), (3, []), (4, []), (5, []), (6, []), (7, []), (8, []), (9, []), (10, []), (11, []), (12, []), (13, []), (14, [])])]
theorem ok21 : codeOk T h21 (bodyOf Try.f21) = true := by kernel_rfl
def h22 : Hints := [(10, [(0, []), (1, []), (2, []), (3, []), (4, []), (5, []), (6, []), (7, []), (8, []), (9, [6, 7]), (10, []), (11, []), (12, [])])]
theorem ok22 : codeOk T h22 (bodyOf Try.f22) = true := by kernel_rfl
def h23 : Hints := []
theorem ok23 : codeOk T h23 (bodyOf Try.f23) = true := by kernel_rfl
-- not taken: 24 (*woodgrain/poly.Poly[uint16]).Bits []
-- not taken: 25 (*woodgrain/poly.Poly[uint16]).Period []
def h26 : Hints := []
theorem ok26 : codeOk T h26 (bodyOf Try.f26) = true := by kernel_rfl
def h27 : Hints := []
theorem ok27 : codeOk T h27 (bodyOf Try.f27) = true := by kernel_rfl
-- not taken: 28 (*woodgrain/poly.Poly[uint16]).Place []
def h29 : Hints := []
theorem ok29 : codeOk T h29 (bodyOf Try.f29) = true := by kernel_rfl
def h30 : Hints := []
theorem ok30 : codeOk T h30 (bodyOf Try.f30) = true := by kernel_rfl
def h31 : Hints := []
theorem ok31 : codeOk T h31 (bodyOf Try.f31) = true := by kernel_rfl
def h32 : Hints := []
theorem ok32 : codeOk T h32 (bodyOf Try.f32) = true := by kernel_rfl
def h33 : Hints := []
theorem ok33 : codeOk T h33 (bodyOf Try.f33) = true := by kernel_rfl
def h34 : Hints := []
theorem ok34 : codeOk T h34 (bodyOf Try.f34) = true := by kernel_rfl
def h35 : Hints := []
theorem ok35 : codeOk T h35 (bodyOf Try.f35) = true := by kernel_rfl
def h36 : Hints := []
theorem ok36 : codeOk T h36 (bodyOf Try.f36) = true := by kernel_rfl
def h37 : Hints := [(3, [(0, []), (1, []), (2, []), (3, []), (4, []), (5, []), (6, []), (7, []), (8, []), (9, []), (10, []), (11, []), (12, []), (13, []), (14, []), (15, []), (16, []), (17, []), (18, []), (21, []), (22, []), (23, []), (24, []), (27, []), (28, []), (29, []), (30, []), (33, []), (34, []), (35, []), (36, []), (19, [3, 4, 8, 9, 13, 14, 24, 30, 36]), (20, []), (25, [3, 4, 8, 9, 13, 14, 30, 36, 20]), (26, []), (31, [3, 4, 8, 9, 13, 14, 36, 20, 26]), (32, []), (37, []), (38, []), (39, [])])]
theorem ok37 : codeOk T h37 (bodyOf Try.f37) = true := by kernel_rfl
def h38 : Hints := []
theorem ok38 : codeOk T h38 (bodyOf Try.f38) = true := by kernel_rfl
def h39 : Hints := []
theorem ok39 : codeOk T h39 (bodyOf Try.f39) = true := by kernel_rfl
def h40 : Hints := [(9, [(0, []), (1, []), (2, []), (3, []), (4, []), (5, []), (6, []), (7, []), (8, []), (9, []), (10, []), (11, []), (12, []), (13, []), (14, [7, 8, 10, 11]), (15, []), (16, []), (17, [10, 11]), (18, []), (19, []), (20, [])]), (10, [(0, []), (1, []), (2, []), (3, []), (4, []), (5, []), (6, []), (7, [])]), (11, [(0, []), (1, []), (2, []), (3, []), (4, []), (5, []), (6, []), (7, [])]), (12, [(0, []), (1, []), (2, []), (3, []), (4, []), (5, []), (6, []), (7, [])]), (13, [(0, []), (1, []), (2, []), (3, []), (4, []), (5, []), (6, []), (7, []), (8, []), (9, [5]), (10, []), (11, []), (12, [])])]
theorem ok40 : codeOk T h40 (bodyOf Try.f40) = true := by kernel_rfl
def h41 : Hints := [(7, [(0, []), (3, []), (1, [3]), (2, []), (4, [2]), (5, [])])]
theorem ok41 : codeOk T h41 (bodyOf Try.f41) = true := by kernel_rfl
def h42 : Hints := []
theorem ok42 : codeOk T h42 (bodyOf Try.f42) = true := by kernel_rfl
def h43 : Hints := []
theorem ok43 : codeOk T h43 (bodyOf Try.f43) = true := by kernel_rfl
def h44 : Hints := []
theorem ok44 : codeOk T h44 (bodyOf Try.f44) = true := by kernel_rfl
def h45 : Hints := [(2, [(0, []), (1, []), (2, []), (3, []), (4, []), (5, [3]), (6, [])])]
theorem ok45 : codeOk T h45 (bodyOf Try.f45) = true := by kernel_rfl
def h46 : Hints := []
theorem ok46 : codeOk T h46 (bodyOf Try.f46) = true := by kernel_rfl
def h47 : Hints := []
theorem ok47 : codeOk T h47 (bodyOf Try.f47) = true := by kernel_rfl
-- not taken: 48 (*woodgrain/poly.Poly[uint8]).Place []
-- not taken: 49 (*woodgrain/poly.Poly[uint8]).Period []
-- not taken: 50 (*woodgrain/poly.Poly[uint8]).Bits []
def h51 : Hints := []
theorem ok51 : codeOk T h51 (bodyOf Try.f51) = true := by kernel_rfl
def h52 : Hints := []
theorem ok52 : codeOk T h52 (bodyOf Try.f52) = true := by kernel_rfl
def h53 : Hints := []
theorem ok53 : codeOk T h53 (bodyOf Try.f53) = true := by kernel_rfl
def h54 : Hints := []
theorem ok54 : codeOk T h54 (bodyOf Try.f54) = true := by kernel_rfl
def h55 : Hints := []
theorem ok55 : codeOk T h55 (bodyOf Try.f55) = true := by kernel_rfl
def h56 : Hints := []
theorem ok56 : codeOk T h56 (bodyOf Try.f56) = true := by kernel_rfl
def h57 : Hints := []
theorem ok57 : codeOk T h57 (bodyOf Try.f57) = true := by kernel_rfl
def h58 : Hints := []
theorem ok58 : codeOk T h58 (bodyOf Try.f58) = true := by kernel_rfl
def h59 : Hints := [(5, [(0, []), (1, []), (2, []), (3, []), (4, []), (5, []), (6, []), (7, []), (8, []), (9, []), (10, []), (11, []), (12, [])])]
theorem ok59 : codeOk T h59 (bodyOf Try.f59) = true := by kernel_rfl
def h60 : Hints := []
theorem ok60 : codeOk T h60 (bodyOf Try.f60) = true := by kernel_rfl
def h61 : Hints := [(1, [(0, []), (1, []), (2, []), (3, []), (4, [1]), (5, [])])]
theorem ok61 : codeOk T h61 (bodyOf Try.f61) = true := by kernel_rfl
def h62 : Hints := []
theorem ok62 : codeOk T h62 (bodyOf Try.f62) = true := by kernel_rfl
def h63 : Hints := []
theorem ok63 : codeOk T h63 (bodyOf Try.f63) = true := by kernel_rfl
def h64 : Hints := []
theorem ok64 : codeOk T h64 (bodyOf Try.f64) = true := by kernel_rfl
def h65 : Hints := []
theorem ok65 : codeOk T h65 (bodyOf Try.f65) = true := by kernel_rfl
def h66 : Hints := []
theorem ok66 : codeOk T h66 (bodyOf Try.f66) = true := by kernel_rfl
def h67 : Hints := []
theorem ok67 : codeOk T h67 (bodyOf Try.f67) = true := by kernel_rfl
def h68 : Hints := []
theorem ok68 : codeOk T h68 (bodyOf Try.f68) = true := by kernel_rfl
def h69 : Hints := [(1, [(0, []), (1, []), (2, []), (3, []), (4, []), (5, []), (6, []), (7, []), (8, [3]), (9, []), (10, []), (11, []), (12, []), (13, []), (14, [])])]
theorem ok69 : codeOk T h69 (bodyOf Try.f69) = true := by kernel_rfl
def h70 : Hints := []
theorem ok70 : codeOk T h70 (bodyOf Try.f70) = true := by kernel_rfl
def h71 : Hints := []
theorem ok71 : codeOk T h71 (bodyOf Try.f71) = true := by kernel_rfl
def h72 : Hints := []
theorem ok72 : codeOk T h72 (bodyOf Try.f72) = true := by kernel_rfl
def h73 : Hints := [(6, [(0, []), (1, []), (2, []), (3, []), (4, []), (5, []), (6, []), (7, []), (8, []), (9, [6, 7]), (10, []), (11, []), (12, [])])]
theorem ok73 : codeOk T h73 (bodyOf Try.f73) = true := by kernel_rfl

end Go.Proofs
