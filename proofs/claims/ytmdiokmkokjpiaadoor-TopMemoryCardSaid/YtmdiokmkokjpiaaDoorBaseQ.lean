/-
  The types, the plans of the regions that draw their order, and what is checked of each function's code. (Printed by a program of ours, wip/core/GenB.lean.)
-/
import Derived.Test.YtmdiokmkokjpiaaDoorChecked
import Derived.Test.YtmdiokmkokjpiaaDoorCoreC
set_option linter.all false
set_option linter.unusedVariables false
set_option linter.unusedSimpArgs false
set_option linter.unnecessarySimpa false
set_option linter.unusedSectionVars false
namespace Go.Proofs
variable [Go.Aw.Base]
open Go.Aw
set_option maxRecDepth 100000

def T : Tab := [
  none,
  none,
  none,
  some ⟨(.int .i64), 1, 8, [.int .i64 0], false⟩,
  some ⟨.bool, 1, 1, [.bool false], false⟩,
  some ⟨(.int .u8), 1, 1, [.int .u8 0], false⟩,
  none,
  none,
  none,
  some ⟨.string, 1, 16, [.string ByteArray.empty], false⟩,
  none,
  none,
  none,
  none,
  none,
  none,
  none,
  none,
  none,
  none,
  none,
  some ⟨(.int .i32), 1, 4, [.int .i32 0], false⟩,
  some ⟨(.int .u16), 1, 2, [.int .u16 0], false⟩,
  none,
  some ⟨(.struct #[⟨ "A", 5, 0, false, "", "", 0⟩, ⟨ "X", 5, 1, false, "", "", 1⟩, ⟨ "Y", 5, 2, false, "", "", 2⟩, ⟨ "S", 5, 3, false, "", "", 3⟩, ⟨ "P", 5, 4, false, "", "", 4⟩, ⟨ "PC", 22, 5, false, "", "", 6⟩]), 6, 8, [.int .u8 0, .int .u8 0, .int .u8 0, .int .u8 0, .int .u8 0, .int .u16 0], true⟩,
  none,
  some ⟨(.struct #[⟨ "Op", 5, 0, false, "", "", 0⟩, ⟨ "B", 5, 1, false, "", "", 1⟩, ⟨ "At", 22, 2, false, "", "", 2⟩, ⟨ "Regs", 24, 3, false, "", "", 4⟩]), 9, 12, [.int .u8 0, .int .u8 0, .int .u16 0, .int .u8 0, .int .u8 0, .int .u8 0, .int .u8 0, .int .u8 0, .int .u16 0], true⟩,
  none,
  some ⟨(.int .u8), 1, 1, [.int .u8 0], false⟩,
  some ⟨(.int .u8), 1, 1, [.int .u8 0], false⟩,
  none,
  some ⟨(.struct #[⟨ "Name", 9, 0, false, "", "", 0⟩, ⟨ "Mode", 28, 1, false, "", "", 16⟩, ⟨ "Kind", 29, 2, false, "", "", 17⟩, ⟨ "Known", 4, 3, false, "", "", 18⟩]), 4, 24, [.string ByteArray.empty, .int .u8 0, .int .u8 0, .bool false], true⟩,
  none,
  some ⟨(.slice 5), 1, 24, [.slice none 0 0], false⟩,
  some ⟨(.int .u64), 1, 8, [.int .u64 0], false⟩,
  some ⟨(.pointer 60), 1, 8, [.pointer none], false⟩,
  none,
  some ⟨(.slice 39), 1, 24, [.slice none 0 0], false⟩,
  none,
  some ⟨(.struct #[⟨ "Addr", 22, 0, false, "", "", 0⟩, ⟨ "Write", 4, 1, false, "", "", 2⟩, ⟨ "Data", 5, 2, false, "", "", 3⟩]), 3, 4, [.int .u16 0, .bool false, .int .u8 0], true⟩,
  none,
  none,
  none,
  none,
  none,
  none,
  none,
  none,
  none,
  none,
  some ⟨(.array 16 9), 16, 256, [.string ByteArray.empty, .string ByteArray.empty, .string ByteArray.empty, .string ByteArray.empty, .string ByteArray.empty, .string ByteArray.empty, .string ByteArray.empty, .string ByteArray.empty, .string ByteArray.empty, .string ByteArray.empty, .string ByteArray.empty, .string ByteArray.empty, .string ByteArray.empty, .string ByteArray.empty, .string ByteArray.empty, .string ByteArray.empty], true⟩,
  none,
  none,
  none,
  none,
  none,
  none,
  none,
  some ⟨(.int .u8), 1, 1, [.int .u8 0], false⟩,
  none,
  some ⟨(.struct #[⟨ "regs", 24, 0, false, "", "woodgrain/micro", 0⟩, ⟨ "at", 58, 6, false, "", "woodgrain/micro", 8⟩, ⟨ "op", 5, 7, false, "", "woodgrain/micro", 9⟩, ⟨ "code", 31, 8, false, "", "woodgrain/micro", 16⟩, ⟨ "place", 22, 12, false, "", "woodgrain/micro", 40⟩, ⟨ "wrong", 22, 13, false, "", "woodgrain/micro", 42⟩, ⟨ "b", 5, 14, false, "", "woodgrain/micro", 44⟩]), 15, 48, [.int .u8 0, .int .u8 0, .int .u8 0, .int .u8 0, .int .u8 0, .int .u16 0, .int .u8 0, .int .u8 0, .string ByteArray.empty, .int .u8 0, .int .u8 0, .bool false, .int .u16 0, .int .u16 0, .int .u8 0], true⟩,
  some ⟨(.pointer 63), 1, 8, [.pointer none], false⟩,
  none,
  some ⟨(.struct #[⟨ "Regs", 24, 0, true, "", "", 0⟩]), 6, 8, [.int .u8 0, .int .u8 0, .int .u8 0, .int .u8 0, .int .u8 0, .int .u16 0], true⟩,
  none,
  none,
  none,
  none,
  none,
  none,
  none,
  none,
  none,
  none,
  none,
  none,
  none,
  none,
  none,
  none,
  none,
  none,
  none,
  none,
  some ⟨(.slice 9), 1, 24, [.slice none 0 0], false⟩,
  none,
  none,
  none,
  none,
  some ⟨(.array 2 3), 2, 16, [.int .i64 0, .int .i64 0], true⟩,
  none,
  none,
  none,
  none,
  none,
  none,
  none,
  some ⟨(.func #[21] #[4] false), 1, 8, [.nilFunc], false⟩,
  none,
  some ⟨(.int .i16), 1, 2, [.int .i16 0], false⟩,
  some ⟨(.int .i8), 1, 1, [.int .i8 0], false⟩,
  some ⟨(.slice 103), 1, 24, [.slice none 0 0], false⟩,
  none,
  some ⟨(.struct #[⟨ "start", 3, 0, false, "", "strings", 0⟩, ⟨ "end", 3, 1, false, "", "strings", 8⟩]), 2, 16, [.int .i64 0, .int .i64 0], true⟩,
  some ⟨(.int .u32), 1, 4, [.int .u32 0], false⟩,
  none,
  some ⟨(.pointer 111), 1, 8, [.pointer none], false⟩,
  none,
  some ⟨(.slice 113), 1, 24, [.slice none 0 0], false⟩,
  some ⟨(.slice 116), 1, 24, [.slice none 0 0], false⟩,
  none,
  some ⟨(.struct #[⟨ "R16", 108, 0, false, "", "", 0⟩, ⟨ "R32", 109, 1, false, "", "", 24⟩, ⟨ "LatinOffset", 3, 2, false, "", "", 48⟩]), 3, 56, [.slice none 0 0, .slice none 0 0, .int .i64 0], true⟩,
  none,
  some ⟨(.struct #[⟨ "Lo", 22, 0, false, "", "", 0⟩, ⟨ "Hi", 22, 1, false, "", "", 2⟩, ⟨ "Stride", 22, 2, false, "", "", 4⟩]), 3, 6, [.int .u16 0, .int .u16 0, .int .u16 0], true⟩,
  none,
  none,
  some ⟨(.struct #[⟨ "Lo", 104, 0, false, "", "", 0⟩, ⟨ "Hi", 104, 1, false, "", "", 4⟩, ⟨ "Stride", 104, 2, false, "", "", 8⟩]), 3, 12, [.int .u32 0, .int .u32 0, .int .u32 0], true⟩]

theorem tabOk : TabOk Tryd.prog T :=
  TabOk.of (by kernel_rfl) ⟨trivial,
    trivial,
    trivial,
    ⟨by kernel_rfl, ⟨Tryd.t3, .int .i64 0, by kernel_rfl, by kernel_rfl, by kernel_rfl, by kernel_rfl, by kernel_rfl⟩, by kernel_rfl, (fun h => (by cases h)), (fun fs h => (by cases h))⟩,
    ⟨by kernel_rfl, ⟨Tryd.t4, .bool false, by kernel_rfl, by kernel_rfl, by kernel_rfl, by kernel_rfl, by kernel_rfl⟩, by kernel_rfl, (fun h => (by cases h)), (fun fs h => (by cases h))⟩,
    ⟨by kernel_rfl, ⟨Tryd.t5, .int .u8 0, by kernel_rfl, by kernel_rfl, by kernel_rfl, by kernel_rfl, by kernel_rfl⟩, by kernel_rfl, (fun h => (by cases h)), (fun fs h => (by cases h))⟩,
    trivial,
    trivial,
    trivial,
    ⟨by kernel_rfl, ⟨Tryd.t9, .string ByteArray.empty, by kernel_rfl, by kernel_rfl, by kernel_rfl, by kernel_rfl, by kernel_rfl⟩, by kernel_rfl, (fun h => (by cases h)), (fun fs h => (by cases h))⟩,
    trivial,
    trivial,
    trivial,
    trivial,
    trivial,
    trivial,
    trivial,
    trivial,
    trivial,
    trivial,
    trivial,
    ⟨by kernel_rfl, ⟨Tryd.t21, .int .i32 0, by kernel_rfl, by kernel_rfl, by kernel_rfl, by kernel_rfl, by kernel_rfl⟩, by kernel_rfl, (fun h => (by cases h)), (fun fs h => (by cases h))⟩,
    ⟨by kernel_rfl, ⟨Tryd.t22, .int .u16 0, by kernel_rfl, by kernel_rfl, by kernel_rfl, by kernel_rfl, by kernel_rfl⟩, by kernel_rfl, (fun h => (by cases h)), (fun fs h => (by cases h))⟩,
    trivial,
    ⟨by kernel_rfl, ⟨Tryd.t24, .agg #[.int .u8 0, .int .u8 0, .int .u8 0, .int .u8 0, .int .u8 0, .int .u16 0], by kernel_rfl, by kernel_rfl, by kernel_rfl, by kernel_rfl, by kernel_rfl⟩, by kernel_rfl, (fun _ => ⟨by kernel_rfl, by kernel_rfl⟩), (fun fs h => (by cases h; exact flds_of (by kernel_rfl)))⟩,
    trivial,
    ⟨by kernel_rfl, ⟨Tryd.t26, .agg #[.int .u8 0, .int .u8 0, .int .u16 0, .int .u8 0, .int .u8 0, .int .u8 0, .int .u8 0, .int .u8 0, .int .u16 0], by kernel_rfl, by kernel_rfl, by kernel_rfl, by kernel_rfl, by kernel_rfl⟩, by kernel_rfl, (fun _ => ⟨by kernel_rfl, by kernel_rfl⟩), (fun fs h => (by cases h; exact flds_of (by kernel_rfl)))⟩,
    trivial,
    ⟨by kernel_rfl, ⟨Tryd.t28, .int .u8 0, by kernel_rfl, by kernel_rfl, by kernel_rfl, by kernel_rfl, by kernel_rfl⟩, by kernel_rfl, (fun h => (by cases h)), (fun fs h => (by cases h))⟩,
    ⟨by kernel_rfl, ⟨Tryd.t29, .int .u8 0, by kernel_rfl, by kernel_rfl, by kernel_rfl, by kernel_rfl, by kernel_rfl⟩, by kernel_rfl, (fun h => (by cases h)), (fun fs h => (by cases h))⟩,
    trivial,
    ⟨by kernel_rfl, ⟨Tryd.t31, .agg #[.string ByteArray.empty, .int .u8 0, .int .u8 0, .bool false], by kernel_rfl, by kernel_rfl, by kernel_rfl, by kernel_rfl, by kernel_rfl⟩, by kernel_rfl, (fun _ => ⟨by kernel_rfl, by kernel_rfl⟩), (fun fs h => (by cases h; exact flds_of (by kernel_rfl)))⟩,
    trivial,
    ⟨by kernel_rfl, ⟨Tryd.t33, .slice none 0 0, by kernel_rfl, by kernel_rfl, by kernel_rfl, by kernel_rfl, by kernel_rfl⟩, by kernel_rfl, (fun h => (by cases h)), (fun fs h => (by cases h))⟩,
    ⟨by kernel_rfl, ⟨Tryd.t34, .int .u64 0, by kernel_rfl, by kernel_rfl, by kernel_rfl, by kernel_rfl, by kernel_rfl⟩, by kernel_rfl, (fun h => (by cases h)), (fun fs h => (by cases h))⟩,
    ⟨by kernel_rfl, ⟨Tryd.t35, .pointer none, by kernel_rfl, by kernel_rfl, by kernel_rfl, by kernel_rfl, by kernel_rfl⟩, by kernel_rfl, (fun h => (by cases h)), (fun fs h => (by cases h))⟩,
    trivial,
    ⟨by kernel_rfl, ⟨Tryd.t37, .slice none 0 0, by kernel_rfl, by kernel_rfl, by kernel_rfl, by kernel_rfl, by kernel_rfl⟩, by kernel_rfl, (fun h => (by cases h)), (fun fs h => (by cases h))⟩,
    trivial,
    ⟨by kernel_rfl, ⟨Tryd.t39, .agg #[.int .u16 0, .bool false, .int .u8 0], by kernel_rfl, by kernel_rfl, by kernel_rfl, by kernel_rfl, by kernel_rfl⟩, by kernel_rfl, (fun _ => ⟨by kernel_rfl, by kernel_rfl⟩), (fun fs h => (by cases h; exact flds_of (by kernel_rfl)))⟩,
    trivial,
    trivial,
    trivial,
    trivial,
    trivial,
    trivial,
    trivial,
    trivial,
    trivial,
    trivial,
    ⟨by kernel_rfl, ⟨Tryd.t50, .agg #[.string ByteArray.empty, .string ByteArray.empty, .string ByteArray.empty, .string ByteArray.empty, .string ByteArray.empty, .string ByteArray.empty, .string ByteArray.empty, .string ByteArray.empty, .string ByteArray.empty, .string ByteArray.empty, .string ByteArray.empty, .string ByteArray.empty, .string ByteArray.empty, .string ByteArray.empty, .string ByteArray.empty, .string ByteArray.empty], by kernel_rfl, by kernel_rfl, by kernel_rfl, by kernel_rfl, by kernel_rfl⟩, by kernel_rfl, (fun _ => ⟨by kernel_rfl, by kernel_rfl⟩), (fun fs h => (by cases h))⟩,
    trivial,
    trivial,
    trivial,
    trivial,
    trivial,
    trivial,
    trivial,
    ⟨by kernel_rfl, ⟨Tryd.t58, .int .u8 0, by kernel_rfl, by kernel_rfl, by kernel_rfl, by kernel_rfl, by kernel_rfl⟩, by kernel_rfl, (fun h => (by cases h)), (fun fs h => (by cases h))⟩,
    trivial,
    ⟨by kernel_rfl, ⟨Tryd.t60, .agg #[.int .u8 0, .int .u8 0, .int .u8 0, .int .u8 0, .int .u8 0, .int .u16 0, .int .u8 0, .int .u8 0, .string ByteArray.empty, .int .u8 0, .int .u8 0, .bool false, .int .u16 0, .int .u16 0, .int .u8 0], by kernel_rfl, by kernel_rfl, by kernel_rfl, by kernel_rfl, by kernel_rfl⟩, by kernel_rfl, (fun _ => ⟨by kernel_rfl, by kernel_rfl⟩), (fun fs h => (by cases h; exact flds_of (by kernel_rfl)))⟩,
    ⟨by kernel_rfl, ⟨Tryd.t61, .pointer none, by kernel_rfl, by kernel_rfl, by kernel_rfl, by kernel_rfl, by kernel_rfl⟩, by kernel_rfl, (fun h => (by cases h)), (fun fs h => (by cases h))⟩,
    trivial,
    ⟨by kernel_rfl, ⟨Tryd.t63, .agg #[.int .u8 0, .int .u8 0, .int .u8 0, .int .u8 0, .int .u8 0, .int .u16 0], by kernel_rfl, by kernel_rfl, by kernel_rfl, by kernel_rfl, by kernel_rfl⟩, by kernel_rfl, (fun _ => ⟨by kernel_rfl, by kernel_rfl⟩), (fun fs h => (by cases h; exact flds_of (by kernel_rfl)))⟩,
    trivial,
    trivial,
    trivial,
    trivial,
    trivial,
    trivial,
    trivial,
    trivial,
    trivial,
    trivial,
    trivial,
    trivial,
    trivial,
    trivial,
    trivial,
    trivial,
    trivial,
    trivial,
    trivial,
    trivial,
    ⟨by kernel_rfl, ⟨Tryd.t84, .slice none 0 0, by kernel_rfl, by kernel_rfl, by kernel_rfl, by kernel_rfl, by kernel_rfl⟩, by kernel_rfl, (fun h => (by cases h)), (fun fs h => (by cases h))⟩,
    trivial,
    trivial,
    trivial,
    trivial,
    ⟨by kernel_rfl, ⟨Tryd.t89, .agg #[.int .i64 0, .int .i64 0], by kernel_rfl, by kernel_rfl, by kernel_rfl, by kernel_rfl, by kernel_rfl⟩, by kernel_rfl, (fun _ => ⟨by kernel_rfl, by kernel_rfl⟩), (fun fs h => (by cases h))⟩,
    trivial,
    trivial,
    trivial,
    trivial,
    trivial,
    trivial,
    trivial,
    ⟨by kernel_rfl, ⟨Tryd.t97, .nilFunc, by kernel_rfl, by kernel_rfl, by kernel_rfl, by kernel_rfl, by kernel_rfl⟩, by kernel_rfl, (fun h => (by cases h)), (fun fs h => (by cases h))⟩,
    trivial,
    ⟨by kernel_rfl, ⟨Tryd.t99, .int .i16 0, by kernel_rfl, by kernel_rfl, by kernel_rfl, by kernel_rfl, by kernel_rfl⟩, by kernel_rfl, (fun h => (by cases h)), (fun fs h => (by cases h))⟩,
    ⟨by kernel_rfl, ⟨Tryd.t100, .int .i8 0, by kernel_rfl, by kernel_rfl, by kernel_rfl, by kernel_rfl, by kernel_rfl⟩, by kernel_rfl, (fun h => (by cases h)), (fun fs h => (by cases h))⟩,
    ⟨by kernel_rfl, ⟨Tryd.t101, .slice none 0 0, by kernel_rfl, by kernel_rfl, by kernel_rfl, by kernel_rfl, by kernel_rfl⟩, by kernel_rfl, (fun h => (by cases h)), (fun fs h => (by cases h))⟩,
    trivial,
    ⟨by kernel_rfl, ⟨Tryd.t103, .agg #[.int .i64 0, .int .i64 0], by kernel_rfl, by kernel_rfl, by kernel_rfl, by kernel_rfl, by kernel_rfl⟩, by kernel_rfl, (fun _ => ⟨by kernel_rfl, by kernel_rfl⟩), (fun fs h => (by cases h; exact flds_of (by kernel_rfl)))⟩,
    ⟨by kernel_rfl, ⟨Tryd.t104, .int .u32 0, by kernel_rfl, by kernel_rfl, by kernel_rfl, by kernel_rfl, by kernel_rfl⟩, by kernel_rfl, (fun h => (by cases h)), (fun fs h => (by cases h))⟩,
    trivial,
    ⟨by kernel_rfl, ⟨Tryd.t106, .pointer none, by kernel_rfl, by kernel_rfl, by kernel_rfl, by kernel_rfl, by kernel_rfl⟩, by kernel_rfl, (fun h => (by cases h)), (fun fs h => (by cases h))⟩,
    trivial,
    ⟨by kernel_rfl, ⟨Tryd.t108, .slice none 0 0, by kernel_rfl, by kernel_rfl, by kernel_rfl, by kernel_rfl, by kernel_rfl⟩, by kernel_rfl, (fun h => (by cases h)), (fun fs h => (by cases h))⟩,
    ⟨by kernel_rfl, ⟨Tryd.t109, .slice none 0 0, by kernel_rfl, by kernel_rfl, by kernel_rfl, by kernel_rfl, by kernel_rfl⟩, by kernel_rfl, (fun h => (by cases h)), (fun fs h => (by cases h))⟩,
    trivial,
    ⟨by kernel_rfl, ⟨Tryd.t111, .agg #[.slice none 0 0, .slice none 0 0, .int .i64 0], by kernel_rfl, by kernel_rfl, by kernel_rfl, by kernel_rfl, by kernel_rfl⟩, by kernel_rfl, (fun _ => ⟨by kernel_rfl, by kernel_rfl⟩), (fun fs h => (by cases h; exact flds_of (by kernel_rfl)))⟩,
    trivial,
    ⟨by kernel_rfl, ⟨Tryd.t113, .agg #[.int .u16 0, .int .u16 0, .int .u16 0], by kernel_rfl, by kernel_rfl, by kernel_rfl, by kernel_rfl, by kernel_rfl⟩, by kernel_rfl, (fun _ => ⟨by kernel_rfl, by kernel_rfl⟩), (fun fs h => (by cases h; exact flds_of (by kernel_rfl)))⟩,
    trivial,
    trivial,
    ⟨by kernel_rfl, ⟨Tryd.t116, .agg #[.int .u32 0, .int .u32 0, .int .u32 0], by kernel_rfl, by kernel_rfl, by kernel_rfl, by kernel_rfl, by kernel_rfl⟩, by kernel_rfl, (fun _ => ⟨by kernel_rfl, by kernel_rfl⟩), (fun fs h => (by cases h; exact flds_of (by kernel_rfl)))⟩, trivial⟩

def h2 : Hints := []
theorem ok2 : codeOk T h2 (bodyOf Tryd.f2) = true := by kernel_rfl
def h3 : Hints := [(1, [(0, []), (1, []), (2, []), (3, []), (4, []), (5, []), (6, []), (7, []), (8, []), (9, []), (10, []), (11, []), (12, [])]), (24, [(0, []), (1, []), (2, []), (3, []), (4, []), (5, []), (6, []), (7, []), (8, []), (10, []), (9, [10]), (11, []), (12, []), (13, [])]), (30, [(0, []), (1, []), (2, []), (3, []), (4, []), (5, []), (6, []), (7, []), (8, []), (9, []), (10, []), (11, []), (12, []), (13, []), (14, []), (15, []), (16, []), (17, []), (18, []), (19, []), (20, []), (21, []), (22, []), (23, []), (24, []), (25, []), (26, []), (28, []), (27, [10, 19, 28]), (29, []), (30, []), (31, [])])]
theorem ok3 : codeOk T h3 (bodyOf Tryd.f3) = true := by kernel_rfl
def h4 : Hints := [(10, [(0, []), (1, []), (2, []), (3, []), (4, []), (5, []), (6, []), (7, []), (8, []), (9, []), (10, []), (11, []), (12, []), (13, []), (14, []), (15, []), (16, []), (17, []), (18, []), (19, []), (20, []), (21, []), (22, [])])]
theorem ok4 : codeOk T h4 (bodyOf Tryd.f4) = true := by kernel_rfl
def h5 : Hints := []
theorem ok5 : codeOk T h5 (bodyOf Tryd.f5) = true := by kernel_rfl
def h6 : Hints := [(5, [(1, []), (2, []), (0, [2]), (3, []), (4, []), (5, []), (6, []), (7, []), (8, [])])]
theorem ok6 : codeOk T h6 (bodyOf Tryd.f6) = true := by kernel_rfl
def h7 : Hints := []
theorem ok7 : codeOk T h7 (bodyOf Tryd.f7) = true := by kernel_rfl
def h8 : Hints := []
theorem ok8 : codeOk T h8 (bodyOf Tryd.f8) = true := by kernel_rfl
def h9 : Hints := []
theorem ok9 : codeOk T h9 (bodyOf Tryd.f9) = true := by kernel_rfl
def h10 : Hints := [(31, [(0, []), (1, []), (2, []), (3, []), (4, []), (5, []), (6, []), (7, []), (8, []), (9, []), (10, []), (11, []), (12, []), (13, []), (14, []), (15, []), (16, [])]), (37, [(0, []), (1, []), (2, []), (3, []), (4, []), (5, []), (6, []), (7, []), (8, []), (9, []), (10, []), (11, []), (12, []), (13, []), (14, []), (15, []), (16, []), (17, []), (18, []), (19, [])]), (40, [(0, []), (1, []), (2, []), (3, []), (4, []), (5, []), (6, []), (7, []), (8, []), (9, []), (10, []), (11, []), (12, []), (13, []), (14, []), (15, []), (16, []), (17, []), (18, []), (19, []), (20, []), (21, []), (22, []), (23, []), (24, []), (25, [])]), (41, [(0, []), (1, []), (2, []), (3, []), (4, []), (5, []), (6, []), (7, []), (8, []), (9, []), (10, []), (11, []), (12, []), (13, []), (14, []), (15, []), (16, []), (17, []), (18, []), (19, []), (20, []), (21, []), (22, []), (23, []), (24, [])]), (42, [(0, []), (1, []), (2, []), (3, []), (4, []), (5, []), (6, []), (7, []), (8, []), (9, []), (10, []), (11, []), (12, []), (13, []), (14, []), (15, []), (16, [6]), (17, []), (18, []), (19, []), (20, [])]), (45, [(0, []), (1, []), (2, []), (3, []), (4, []), (5, []), (6, []), (7, []), (8, []), (9, []), (10, []), (11, [])])]
theorem ok10 : codeOk T h10 (bodyOf Tryd.f10) = true := by kernel_rfl
def h11 : Hints := []
theorem ok11 : codeOk T h11 (bodyOf Tryd.f11) = true := by kernel_rfl
def h12 : Hints := [(4, [(0, []), (1, []), (2, []), (3, []), (4, [])]), (6, [(0, []), (1, []), (2, []), (3, []), (4, [])]), (8, [(0, []), (1, []), (2, []), (3, []), (4, [])]), (10, [(0, []), (1, []), (2, []), (3, []), (4, []), (5, []), (6, []), (7, [])]), (12, [(0, []), (1, []), (2, []), (3, []), (4, []), (5, []), (6, []), (7, []), (8, []), (9, [])]), (14, [(0, []), (1, []), (2, []), (3, []), (4, []), (5, []), (6, [])]), (16, [(0, []), (1, []), (2, []), (3, []), (4, []), (5, []), (6, [])]), (19, [(0, []), (1, []), (2, []), (3, []), (4, []), (5, []), (6, [])]), (20, [(0, []), (1, []), (2, [])])]
theorem ok12 : codeOk T h12 (bodyOf Tryd.f12) = true := by kernel_rfl
def h13 : Hints := [(23, [(0, []), (1, []), (3, []), (4, []), (5, []), (6, []), (7, []), (2, [6]), (8, []), (9, []), (10, [])])]
theorem ok13 : codeOk T h13 (bodyOf Tryd.f13) = true := by kernel_rfl
def h14 : Hints := []
theorem ok14 : codeOk T h14 (bodyOf Tryd.f14) = true := by kernel_rfl
def h15 : Hints := [(26, [(0, []), (1, []), (2, []), (3, []), (4, []), (5, []), (6, []), (7, []), (8, []), (9, []), (10, []), (11, []), (12, []), (13, []), (14, [])]), (34, [(0, []), (1, []), (2, []), (3, []), (4, []), (5, []), (6, [4]), (7, []), (8, []), (9, []), (10, []), (11, [])]), (51, [(0, []), (1, []), (2, []), (3, []), (4, []), (5, []), (6, []), (7, []), (8, []), (9, []), (10, []), (11, []), (12, []), (13, []), (14, [])]), (67, [(0, []), (1, []), (2, []), (3, []), (4, []), (5, []), (6, []), (7, []), (8, []), (9, []), (10, []), (11, []), (12, []), (13, []), (14, [])])]
theorem ok15 : codeOk T h15 (bodyOf Tryd.f15) = true := by kernel_rfl
def h16 : Hints := [(41, [(0, []), (1, []), (2, []), (3, []), (4, []), (5, []), (6, []), (7, []), (8, []), (9, [])]), (47, [(0, []), (2, []), (3, []), (4, []), (5, []), (6, []), (7, []), (1, [6]), (8, []), (9, [])]), (48, [(0, []), (2, []), (3, []), (4, []), (5, []), (6, []), (1, [6]), (7, []), (8, [])]), (56, [(0, []), (2, []), (3, []), (4, []), (5, []), (6, []), (7, []), (1, [6]), (8, []), (9, [])])]
theorem ok16 : codeOk T h16 (bodyOf Tryd.f16) = true := by kernel_rfl
def h17 : Hints := []
theorem ok17 : codeOk T h17 (bodyOf Tryd.f17) = true := by kernel_rfl
def h18 : Hints := []
theorem ok18 : codeOk T h18 (bodyOf Tryd.f18) = true := by kernel_rfl
def h19 : Hints := []
theorem ok19 : codeOk T h19 (bodyOf Tryd.f19) = true := by kernel_rfl
def h20 : Hints := []
theorem ok20 : codeOk T h20 (bodyOf Tryd.f20) = true := by kernel_rfl
-- not taken: 21 woodgrain/code.kinds []
def h22 : Hints := []
theorem ok22 : codeOk T h22 (bodyOf Tryd.f22) = true := by kernel_rfl
def h23 : Hints := []
theorem ok23 : codeOk T h23 (bodyOf Tryd.f23) = true := by kernel_rfl
def h24 : Hints := [(0, [(0, []), (1, []), (2, []), (3, []), (4, []), (5, []), (6, []), (7, []), (8, []), (9, []), (10, []), (11, []), (12, []), (13, []), (14, []), (15, []), (16, []), (17, []), (18, []), (19, []), (20, []), (21, []), (22, []), (23, []), (24, [])])]
theorem ok24 : codeOk T h24 (bodyOf Tryd.f24) = true := by kernel_rfl
def h25 : Hints := [(0, [(0, []), (1, []), (2, []), (3, []), (4, []), (5, []), (6, []), (7, []), (8, []), (9, []), (10, []), (11, []), (12, []), (13, []), (14, []), (15, []), (16, []), (17, []), (18, []), (19, []), (20, []), (21, []), (22, []), (23, []), (24, [])])]
theorem ok25 : codeOk T h25 (bodyOf Tryd.f25) = true := by kernel_rfl
def h26 : Hints := []
theorem ok26 : codeOk T h26 (bodyOf Tryd.f26) = true := by kernel_rfl
def h27 : Hints := []
theorem ok27 : codeOk T h27 (bodyOf Tryd.f27) = true := by kernel_rfl
def h28 : Hints := []
theorem ok28 : codeOk T h28 (bodyOf Tryd.f28) = true := by kernel_rfl
def h29 : Hints := []
theorem ok29 : codeOk T h29 (bodyOf Tryd.f29) = true := by kernel_rfl
def h30 : Hints := []
theorem ok30 : codeOk T h30 (bodyOf Tryd.f30) = true := by kernel_rfl
def h31 : Hints := []
theorem ok31 : codeOk T h31 (bodyOf Tryd.f31) = true := by kernel_rfl
def h32 : Hints := []
theorem ok32 : codeOk T h32 (bodyOf Tryd.f32) = true := by kernel_rfl
def h33 : Hints := []
theorem ok33 : codeOk T h33 (bodyOf Tryd.f33) = true := by kernel_rfl
def h34 : Hints := []
theorem ok34 : codeOk T h34 (bodyOf Tryd.f34) = true := by kernel_rfl
def h35 : Hints := []
theorem ok35 : codeOk T h35 (bodyOf Tryd.f35) = true := by kernel_rfl
def h36 : Hints := []
theorem ok36 : codeOk T h36 (bodyOf Tryd.f36) = true := by kernel_rfl
def h37 : Hints := [(1, [(0, []), (1, []), (2, []), (3, []), (4, []), (5, []), (6, []), (7, []), (8, []), (9, []), (10, []), (11, []), (12, []), (13, [])]), (2, [(0, []), (1, []), (2, []), (3, []), (4, []), (5, []), (6, []), (7, []), (8, []), (9, []), (10, []), (11, []), (12, []), (13, [])])]
theorem ok37 : codeOk T h37 (bodyOf Tryd.f37) = true := by kernel_rfl
def h38 : Hints := []
theorem ok38 : codeOk T h38 (bodyOf Tryd.f38) = true := by kernel_rfl
def h39 : Hints := []
theorem ok39 : codeOk T h39 (bodyOf Tryd.f39) = true := by kernel_rfl
def h40 : Hints := [(4, [(0, []), (1, []), (2, []), (3, []), (4, []), (5, []), (6, []), (7, []), (8, []), (9, []), (10, []), (11, []), (12, []), (13, []), (14, []), (15, []), (16, []), (17, []), (18, []), (19, [])])]
theorem ok40 : codeOk T h40 (bodyOf Tryd.f40) = true := by kernel_rfl
def h41 : Hints := []
theorem ok41 : codeOk T h41 (bodyOf Tryd.f41) = true := by kernel_rfl
def h42 : Hints := [(1, [(0, []), (1, []), (2, []), (3, []), (4, []), (5, []), (6, []), (7, []), (8, []), (9, []), (10, [4, 8]), (11, []), (12, []), (13, []), (14, []), (15, []), (16, []), (17, [])]), (3, [(0, []), (1, []), (2, []), (3, []), (4, []), (5, []), (6, []), (7, []), (8, []), (9, []), (10, []), (11, []), (12, []), (13, []), (14, []), (15, []), (16, [])]), (5, [(0, []), (1, []), (2, []), (3, []), (4, []), (5, [])])]
theorem ok42 : codeOk T h42 (bodyOf Tryd.f42) = true := by kernel_rfl
def h43 : Hints := [(1, [(0, []), (1, []), (2, []), (3, []), (4, []), (5, []), (6, []), (7, []), (8, []), (9, []), (10, []), (11, []), (12, []), (13, []), (14, []), (15, []), (16, []), (17, [])])]
theorem ok43 : codeOk T h43 (bodyOf Tryd.f43) = true := by kernel_rfl
def h44 : Hints := [(4, [(0, []), (1, []), (2, []), (3, []), (4, []), (5, []), (6, []), (7, []), (8, []), (9, []), (10, [])]), (37, [(0, []), (1, []), (2, []), (3, []), (4, []), (5, []), (6, []), (7, []), (8, []), (9, []), (10, []), (11, []), (12, []), (13, []), (14, []), (15, [])])]
theorem ok44 : codeOk T h44 (bodyOf Tryd.f44) = true := by kernel_rfl
def h45 : Hints := []
theorem ok45 : codeOk T h45 (bodyOf Tryd.f45) = true := by kernel_rfl
def h46 : Hints := []
theorem ok46 : codeOk T h46 (bodyOf Tryd.f46) = true := by kernel_rfl
def h47 : Hints := []
theorem ok47 : codeOk T h47 (bodyOf Tryd.f47) = true := by kernel_rfl
def h48 : Hints := []
theorem ok48 : codeOk T h48 (bodyOf Tryd.f48) = true := by kernel_rfl
def h49 : Hints := []
theorem ok49 : codeOk T h49 (bodyOf Tryd.f49) = true := by kernel_rfl
-- not taken: 50 strings.Fields []
def h51 : Hints := []
theorem ok51 : codeOk T h51 (bodyOf Tryd.f51) = true := by kernel_rfl
def h52 : Hints := []
theorem ok52 : codeOk T h52 (bodyOf Tryd.f52) = true := by kernel_rfl
def h53 : Hints := []
theorem ok53 : codeOk T h53 (bodyOf Tryd.f53) = true := by kernel_rfl
def h54 : Hints := []
theorem ok54 : codeOk T h54 (bodyOf Tryd.f54) = true := by kernel_rfl
def h55 : Hints := []
theorem ok55 : codeOk T h55 (bodyOf Tryd.f55) = true := by kernel_rfl
def h56 : Hints := []
theorem ok56 : codeOk T h56 (bodyOf Tryd.f56) = true := by kernel_rfl
def h57 : Hints := []
theorem ok57 : codeOk T h57 (bodyOf Tryd.f57) = true := by kernel_rfl
def h58 : Hints := []
theorem ok58 : codeOk T h58 (bodyOf Tryd.f58) = true := by kernel_rfl
def h59 : Hints := []
theorem ok59 : codeOk T h59 (bodyOf Tryd.f59) = true := by kernel_rfl
def h60 : Hints := []
theorem ok60 : codeOk T h60 (bodyOf Tryd.f60) = true := by kernel_rfl
def h61 : Hints := []
theorem ok61 : codeOk T h61 (bodyOf Tryd.f61) = true := by kernel_rfl
def h62 : Hints := []
theorem ok62 : codeOk T h62 (bodyOf Tryd.f62) = true := by kernel_rfl
def h63 : Hints := []
theorem ok63 : codeOk T h63 (bodyOf Tryd.f63) = true := by kernel_rfl
def h64 : Hints := []
theorem ok64 : codeOk T h64 (bodyOf Tryd.f64) = true := by kernel_rfl
def h65 : Hints := []
theorem ok65 : codeOk T h65 (bodyOf Tryd.f65) = true := by kernel_rfl
def h67 : Hints := []
theorem ok67 : codeOk T h67 (bodyOf Tryd.f67) = true := by kernel_rfl
def h68 : Hints := []
theorem ok68 : codeOk T h68 (bodyOf Tryd.f68) = true := by kernel_rfl
-- not taken: 69 unicode.IsSpace []
def h70 : Hints := []
theorem ok70 : codeOk T h70 (bodyOf Tryd.f70) = true := by kernel_rfl
def h71 : Hints := []
theorem ok71 : codeOk T h71 (bodyOf Tryd.f71) = true := by kernel_rfl
-- not taken: 72 internal/stringslite.Index []
def h73 : Hints := []
theorem ok73 : codeOk T h73 (bodyOf Tryd.f73) = true := by kernel_rfl
def h75 : Hints := []
theorem ok75 : codeOk T h75 (bodyOf Tryd.f75) = true := by kernel_rfl
def h76 : Hints := []
theorem ok76 : codeOk T h76 (bodyOf Tryd.f76) = true := by kernel_rfl
def h77 : Hints := [(9, [(0, []), (1, []), (2, []), (3, []), (4, []), (5, []), (6, []), (7, []), (8, []), (9, []), (10, []), (11, []), (12, []), (13, []), (14, []), (15, []), (16, []), (17, []), (18, []), (19, [])]), (18, [(0, []), (1, []), (2, []), (3, []), (4, []), (5, []), (6, []), (7, []), (8, []), (9, []), (10, []), (11, []), (12, []), (13, []), (14, []), (15, []), (16, []), (17, []), (18, []), (19, [])])]
theorem ok77 : codeOk T h77 (bodyOf Tryd.f77) = true := by kernel_rfl
def h78 : Hints := [(9, [(0, []), (1, []), (2, []), (3, []), (4, []), (5, []), (6, []), (7, []), (8, []), (9, []), (10, []), (11, []), (12, []), (13, []), (14, []), (15, []), (16, []), (17, []), (18, []), (19, [])])]
theorem ok78 : codeOk T h78 (bodyOf Tryd.f78) = true := by kernel_rfl
def h79 : Hints := []
theorem ok79 : codeOk T h79 (bodyOf Tryd.f79) = true := by kernel_rfl
-- not taken: 103 gosem.cut.vars []

end Go.Proofs
