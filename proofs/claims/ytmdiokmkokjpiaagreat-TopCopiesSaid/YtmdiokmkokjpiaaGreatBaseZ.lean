/-
  The types, the plans of the regions that draw their order, and what is checked of each function's code. (Printed by a program of ours, wip/core/GenB.lean.)
-/
import Derived.Test.YtmdiokmkokjpiaaGreatChecked
import Derived.Test.YtmdiokmkokjpiaaGreatCoreC
set_option linter.all false
set_option linter.unusedVariables false
set_option linter.unusedSimpArgs false
set_option linter.unnecessarySimpa false
namespace Go.Proofs
open Go.Aw
set_option maxRecDepth 100000

def T : Tab := [
  none,
  none,
  none,
  some ⟨(.int .i64), 1, 8, [.int .i64 0], false⟩,
  some ⟨.bool, 1, 1, [.bool false], false⟩,
  some ⟨(.int .u8), 1, 1, [.int .u8 0], false⟩,
  none,
  none,
  none,
  some ⟨.string, 1, 16, [.string ByteArray.empty], false⟩,
  none,
  none,
  none,
  none,
  none,
  none,
  none,
  none,
  none,
  none,
  none,
  none,
  some ⟨(.array 3 5), 3, 3, [.int .u8 0, .int .u8 0, .int .u8 0], true⟩,
  some ⟨(.array 4 5), 4, 4, [.int .u8 0, .int .u8 0, .int .u8 0, .int .u8 0], true⟩,
  none,
  some ⟨(.pointer 61), 1, 8, [.pointer none], false⟩,
  none,
  none,
  some ⟨(.int .u16), 1, 2, [.int .u16 0], false⟩,
  some ⟨(.array 160 5), 160, 160, (List.replicate 160 (.int .u8 0)), true⟩,
  none,
  none,
  some ⟨(.array 6 4), 6, 6, [.bool false, .bool false, .bool false, .bool false, .bool false, .bool false], true⟩,
  none,
  none,
  none,
  some ⟨(.struct #[⟨ "Clock", 3, 0, false, "", "", 0⟩, ⟨ "Pixel", 5, 1, false, "", "", 8⟩, ⟨ "Blank", 4, 2, false, "", "", 9⟩, ⟨ "Sync", 4, 3, false, "", "", 10⟩, ⟨ "Audio", 5, 4, false, "", "", 11⟩, ⟨ "Begins", 4, 5, false, "", "", 12⟩]), 6, 16, [.int .i64 0, .int .u8 0, .bool false, .bool false, .int .u8 0, .bool false], true⟩,
  none,
  some ⟨(.array 8 3), 8, 64, [.int .i64 0, .int .i64 0, .int .i64 0, .int .i64 0, .int .i64 0, .int .i64 0, .int .i64 0, .int .i64 0], true⟩,
  some ⟨(.slice 3), 1, 24, [.slice none 0 0], false⟩,
  some ⟨(.array 8 39), 8, 192, [.slice none 0 0, .slice none 0 0, .slice none 0 0, .slice none 0 0, .slice none 0 0, .slice none 0 0, .slice none 0 0, .slice none 0 0], true⟩,
  some ⟨(.array 160 4), 160, 160, (List.replicate 160 (.bool false)), true⟩,
  none,
  none,
  some ⟨(.array 2 5), 2, 2, [.int .u8 0, .int .u8 0], true⟩,
  none,
  none,
  some ⟨(.pointer 93), 1, 8, [.pointer none], false⟩,
  none,
  some ⟨(.pointer 95), 1, 8, [.pointer none], false⟩,
  none,
  some ⟨(.pointer 100), 1, 8, [.pointer none], false⟩,
  none,
  some ⟨(.pointer 104), 1, 8, [.pointer none], false⟩,
  some ⟨(.array 5 53), 5, 40, [.pointer none, .pointer none, .pointer none, .pointer none, .pointer none], true⟩,
  some ⟨(.pointer 110), 1, 8, [.pointer none], false⟩,
  some ⟨(.array 2 55), 2, 16, [.pointer none, .pointer none], true⟩,
  some ⟨(.array 64 5), 64, 64, (List.replicate 64 (.int .u8 0)), true⟩,
  some ⟨(.array 2 44), 4, 4, [.int .u8 0, .int .u8 0, .int .u8 0, .int .u8 0], true⟩,
  some ⟨(.array 2 4), 2, 2, [.bool false, .bool false], true⟩,
  none,
  some ⟨(.struct #[⟨ "beam", 47, 0, false, "", "woodgrain/tia", 0⟩, ⟨ "motion", 49, 1, false, "", "woodgrain/tia", 8⟩, ⟨ "things", 54, 2, false, "", "woodgrain/tia", 16⟩, ⟨ "voices", 56, 7, false, "", "woodgrain/tia", 56⟩, ⟨ "pots", 51, 9, false, "", "woodgrain/tia", 72⟩, ⟨ "regs", 57, 10, false, "", "woodgrain/tia", 80⟩, ⟨ "graph", 58, 74, false, "", "woodgrain/tia", 144⟩, ⟨ "ball", 59, 78, false, "", "woodgrain/tia", 148⟩, ⟨ "met", 28, 80, false, "", "woodgrain/tia", 150⟩, ⟨ "wait", 4, 81, false, "", "woodgrain/tia", 152⟩]), 82, 160, ([.pointer none, .pointer none, .pointer none, .pointer none, .pointer none, .pointer none, .pointer none, .pointer none, .pointer none, .pointer none] ++ List.replicate 68 (.int .u8 0) ++ [.bool false, .bool false, .int .u16 0, .bool false]), true⟩,
  none,
  none,
  some ⟨(.func #[3] #[4] false), 1, 8, [.nilFunc], false⟩,
  none,
  none,
  none,
  none,
  none,
  some ⟨(.slice 5), 1, 24, [.slice none 0 0], false⟩,
  some ⟨(.int .u32), 1, 4, [.int .u32 0], false⟩,
  none,
  none,
  none,
  some ⟨(.array 5 4), 5, 5, [.bool false, .bool false, .bool false, .bool false, .bool false], true⟩,
  none,
  some ⟨(.array 5 5), 5, 5, [.int .u8 0, .int .u8 0, .int .u8 0, .int .u8 0, .int .u8 0], true⟩,
  none,
  none,
  none,
  none,
  none,
  none,
  none,
  none,
  some ⟨(.pointer 120), 1, 8, [.pointer none], false⟩,
  none,
  some ⟨(.pointer 122), 1, 8, [.pointer none], false⟩,
  none,
  none,
  some ⟨(.struct #[⟨ "four", 86, 0, false, "", "woodgrain/beam", 0⟩, ⟨ "counter", 88, 1, false, "", "woodgrain/beam", 8⟩]), 2, 16, [.pointer none, .pointer none], true⟩,
  none,
  some ⟨(.struct #[⟨ "across", 91, 0, true, "", "woodgrain/beam", 0⟩, ⟨ "late", 4, 2, false, "", "woodgrain/beam", 16⟩]), 3, 24, [.pointer none, .pointer none, .bool false], true⟩,
  none,
  some ⟨(.struct #[⟨ "count", 3, 0, false, "", "woodgrain/motion", 0⟩, ⟨ "gone", 3, 1, false, "", "woodgrain/motion", 8⟩, ⟨ "more", 5, 2, false, "", "woodgrain/motion", 16⟩]), 3, 24, [.int .i64 0, .int .i64 0, .int .u8 0], true⟩,
  none,
  some ⟨(.struct #[⟨ "high", 4, 0, false, "", "woodgrain/pot", 0⟩, ⟨ "latch", 4, 1, false, "", "woodgrain/pot", 1⟩]), 2, 2, [.bool false, .bool false], true⟩,
  some ⟨(.array 2 97), 4, 4, [.bool false, .bool false, .bool false, .bool false], true⟩,
  none,
  some ⟨(.struct #[⟨ "values", 23, 0, false, "", "woodgrain/pot", 0⟩, ⟨ "charge", 3, 4, false, "", "woodgrain/pot", 8⟩, ⟨ "dumped", 4, 5, false, "", "woodgrain/pot", 16⟩, ⟨ "fire", 98, 6, false, "", "woodgrain/pot", 17⟩, ⟨ "latched", 4, 10, false, "", "woodgrain/pot", 21⟩]), 11, 24, [.int .u8 0, .int .u8 0, .int .u8 0, .int .u8 0, .int .i64 0, .bool false, .bool false, .bool false, .bool false, .bool false, .bool false], true⟩,
  some ⟨(.pointer 125), 1, 8, [.pointer none], false⟩,
  none,
  none,
  some ⟨(.struct #[⟨ "place", 101, 0, false, "", "woodgrain/sprite", 0⟩, ⟨ "line", 28, 1, false, "", "woodgrain/sprite", 8⟩, ⟨ "scan", 3, 2, false, "", "woodgrain/sprite", 16⟩]), 3, 24, [.pointer none, .int .u16 0, .int .i64 0], true⟩,
  some ⟨(.pointer 127), 1, 8, [.pointer none], false⟩,
  none,
  some ⟨(.pointer 129), 1, 8, [.pointer none], false⟩,
  none,
  none,
  some ⟨(.struct #[⟨ "control", 5, 0, false, "", "woodgrain/tone", 0⟩, ⟨ "rate", 5, 1, false, "", "woodgrain/tone", 1⟩, ⟨ "volume", 5, 2, false, "", "woodgrain/tone", 2⟩, ⟨ "four", 105, 3, false, "", "woodgrain/tone", 8⟩, ⟨ "five", 105, 4, false, "", "woodgrain/tone", 16⟩, ⟨ "nine", 107, 5, false, "", "woodgrain/tone", 24⟩, ⟨ "count", 3, 6, false, "", "woodgrain/tone", 32⟩, ⟨ "high", 4, 7, false, "", "woodgrain/tone", 40⟩]), 8, 48, [.int .u8 0, .int .u8 0, .int .u8 0, .pointer none, .pointer none, .pointer none, .int .i64 0, .bool false], true⟩,
  none,
  none,
  some ⟨(.func #[55] #[112] false), 1, 8, [.nilFunc], false⟩,
  none,
  none,
  some ⟨(.int .u64), 1, 8, [.int .u64 0], false⟩,
  none,
  none,
  none,
  some ⟨(.struct #[⟨ "at", 3, 0, false, "", "woodgrain/count", 0⟩, ⟨ "n", 3, 1, false, "", "woodgrain/count", 8⟩]), 2, 16, [.int .i64 0, .int .i64 0], true⟩,
  none,
  some ⟨(.struct #[⟨ "Poly", 105, 0, true, "", "", 0⟩, ⟨ "last", 5, 1, false, "", "woodgrain/count", 8⟩, ⟨ "n", 3, 2, false, "", "woodgrain/count", 16⟩]), 3, 24, [.pointer none, .int .u8 0, .int .i64 0], true⟩,
  some ⟨(.pointer 91), 1, 8, [.pointer none], false⟩,
  none,
  some ⟨(.struct #[⟨ "four", 86, 0, false, "", "woodgrain/count", 0⟩, ⟨ "counter", 88, 1, false, "", "woodgrain/count", 8⟩]), 2, 16, [.pointer none, .pointer none], true⟩,
  none,
  some ⟨(.struct #[⟨ "state", 5, 0, false, "", "woodgrain/poly", 0⟩, ⟨ "size", 3, 1, false, "", "woodgrain/poly", 8⟩, ⟨ "tap", 3, 2, false, "", "woodgrain/poly", 16⟩]), 3, 24, [.int .u8 0, .int .i64 0, .int .i64 0], true⟩,
  none,
  some ⟨(.struct #[⟨ "state", 28, 0, false, "", "woodgrain/poly", 0⟩, ⟨ "size", 3, 1, false, "", "woodgrain/poly", 8⟩, ⟨ "tap", 3, 2, false, "", "woodgrain/poly", 16⟩]), 3, 24, [.int .u16 0, .int .i64 0, .int .i64 0], true⟩,
  none,
  none,
  some ⟨(.array 2 3), 2, 16, [.int .i64 0, .int .i64 0], true⟩,
  some ⟨(.array 15 132), 30, 240, [.int .i64 0, .int .i64 0, .int .i64 0, .int .i64 0, .int .i64 0, .int .i64 0, .int .i64 0, .int .i64 0, .int .i64 0, .int .i64 0, .int .i64 0, .int .i64 0, .int .i64 0, .int .i64 0, .int .i64 0, .int .i64 0, .int .i64 0, .int .i64 0, .int .i64 0, .int .i64 0, .int .i64 0, .int .i64 0, .int .i64 0, .int .i64 0, .int .i64 0, .int .i64 0, .int .i64 0, .int .i64 0, .int .i64 0, .int .i64 0], true⟩]

theorem tabOk : TabOk Tryz.prog T :=
  TabOk.of (by kernel_rfl) ⟨trivial,
    trivial,
    trivial,
    ⟨by kernel_rfl, ⟨Tryz.t3, .int .i64 0, by kernel_rfl, by kernel_rfl, by kernel_rfl, by kernel_rfl, by kernel_rfl⟩, by kernel_rfl, (fun h => (by cases h)), (fun fs h => (by cases h))⟩,
    ⟨by kernel_rfl, ⟨Tryz.t4, .bool false, by kernel_rfl, by kernel_rfl, by kernel_rfl, by kernel_rfl, by kernel_rfl⟩, by kernel_rfl, (fun h => (by cases h)), (fun fs h => (by cases h))⟩,
    ⟨by kernel_rfl, ⟨Tryz.t5, .int .u8 0, by kernel_rfl, by kernel_rfl, by kernel_rfl, by kernel_rfl, by kernel_rfl⟩, by kernel_rfl, (fun h => (by cases h)), (fun fs h => (by cases h))⟩,
    trivial,
    trivial,
    trivial,
    ⟨by kernel_rfl, ⟨Tryz.t9, .string ByteArray.empty, by kernel_rfl, by kernel_rfl, by kernel_rfl, by kernel_rfl, by kernel_rfl⟩, by kernel_rfl, (fun h => (by cases h)), (fun fs h => (by cases h))⟩,
    trivial,
    trivial,
    trivial,
    trivial,
    trivial,
    trivial,
    trivial,
    trivial,
    trivial,
    trivial,
    trivial,
    trivial,
    ⟨by kernel_rfl, ⟨Tryz.t22, .agg #[.int .u8 0, .int .u8 0, .int .u8 0], by kernel_rfl, by kernel_rfl, by kernel_rfl, by kernel_rfl, by kernel_rfl⟩, by kernel_rfl, (fun _ => ⟨by kernel_rfl, by kernel_rfl⟩), (fun fs h => (by cases h))⟩,
    ⟨by kernel_rfl, ⟨Tryz.t23, .agg #[.int .u8 0, .int .u8 0, .int .u8 0, .int .u8 0], by kernel_rfl, by kernel_rfl, by kernel_rfl, by kernel_rfl, by kernel_rfl⟩, by kernel_rfl, (fun _ => ⟨by kernel_rfl, by kernel_rfl⟩), (fun fs h => (by cases h))⟩,
    trivial,
    ⟨by kernel_rfl, ⟨Tryz.t25, .pointer none, by kernel_rfl, by kernel_rfl, by kernel_rfl, by kernel_rfl, by kernel_rfl⟩, by kernel_rfl, (fun h => (by cases h)), (fun fs h => (by cases h))⟩,
    trivial,
    trivial,
    ⟨by kernel_rfl, ⟨Tryz.t28, .int .u16 0, by kernel_rfl, by kernel_rfl, by kernel_rfl, by kernel_rfl, by kernel_rfl⟩, by kernel_rfl, (fun h => (by cases h)), (fun fs h => (by cases h))⟩,
    ⟨by kernel_rfl, ⟨Tryz.t29, .agg #[.int .u8 0, .int .u8 0, .int .u8 0, .int .u8 0, .int .u8 0, .int .u8 0, .int .u8 0, .int .u8 0, .int .u8 0, .int .u8 0, .int .u8 0, .int .u8 0, .int .u8 0, .int .u8 0, .int .u8 0, .int .u8 0, .int .u8 0, .int .u8 0, .int .u8 0, .int .u8 0, .int .u8 0, .int .u8 0, .int .u8 0, .int .u8 0, .int .u8 0, .int .u8 0, .int .u8 0, .int .u8 0, .int .u8 0, .int .u8 0, .int .u8 0, .int .u8 0, .int .u8 0, .int .u8 0, .int .u8 0, .int .u8 0, .int .u8 0, .int .u8 0, .int .u8 0, .int .u8 0, .int .u8 0, .int .u8 0, .int .u8 0, .int .u8 0, .int .u8 0, .int .u8 0, .int .u8 0, .int .u8 0, .int .u8 0, .int .u8 0, .int .u8 0, .int .u8 0, .int .u8 0, .int .u8 0, .int .u8 0, .int .u8 0, .int .u8 0, .int .u8 0, .int .u8 0, .int .u8 0, .int .u8 0, .int .u8 0, .int .u8 0, .int .u8 0, .int .u8 0, .int .u8 0, .int .u8 0, .int .u8 0, .int .u8 0, .int .u8 0, .int .u8 0, .int .u8 0, .int .u8 0, .int .u8 0, .int .u8 0, .int .u8 0, .int .u8 0, .int .u8 0, .int .u8 0, .int .u8 0, .int .u8 0, .int .u8 0, .int .u8 0, .int .u8 0, .int .u8 0, .int .u8 0, .int .u8 0, .int .u8 0, .int .u8 0, .int .u8 0, .int .u8 0, .int .u8 0, .int .u8 0, .int .u8 0, .int .u8 0, .int .u8 0, .int .u8 0, .int .u8 0, .int .u8 0, .int .u8 0, .int .u8 0, .int .u8 0, .int .u8 0, .int .u8 0, .int .u8 0, .int .u8 0, .int .u8 0, .int .u8 0, .int .u8 0, .int .u8 0, .int .u8 0, .int .u8 0, .int .u8 0, .int .u8 0, .int .u8 0, .int .u8 0, .int .u8 0, .int .u8 0, .int .u8 0, .int .u8 0, .int .u8 0, .int .u8 0, .int .u8 0, .int .u8 0, .int .u8 0, .int .u8 0, .int .u8 0, .int .u8 0, .int .u8 0, .int .u8 0, .int .u8 0, .int .u8 0, .int .u8 0, .int .u8 0, .int .u8 0, .int .u8 0, .int .u8 0, .int .u8 0, .int .u8 0, .int .u8 0, .int .u8 0, .int .u8 0, .int .u8 0, .int .u8 0, .int .u8 0, .int .u8 0, .int .u8 0, .int .u8 0, .int .u8 0, .int .u8 0, .int .u8 0, .int .u8 0, .int .u8 0, .int .u8 0, .int .u8 0, .int .u8 0, .int .u8 0, .int .u8 0, .int .u8 0, .int .u8 0], by kernel_rfl, by kernel_rfl, by kernel_rfl, by kernel_rfl, by kernel_rfl⟩, by kernel_rfl, (fun _ => ⟨by kernel_rfl, by kernel_rfl⟩), (fun fs h => (by cases h))⟩,
    trivial,
    trivial,
    ⟨by kernel_rfl, ⟨Tryz.t32, .agg #[.bool false, .bool false, .bool false, .bool false, .bool false, .bool false], by kernel_rfl, by kernel_rfl, by kernel_rfl, by kernel_rfl, by kernel_rfl⟩, by kernel_rfl, (fun _ => ⟨by kernel_rfl, by kernel_rfl⟩), (fun fs h => (by cases h))⟩,
    trivial,
    trivial,
    trivial,
    ⟨by kernel_rfl, ⟨Tryz.t36, .agg #[.int .i64 0, .int .u8 0, .bool false, .bool false, .int .u8 0, .bool false], by kernel_rfl, by kernel_rfl, by kernel_rfl, by kernel_rfl, by kernel_rfl⟩, by kernel_rfl, (fun _ => ⟨by kernel_rfl, by kernel_rfl⟩), (fun fs h => (by cases h; exact flds_of (by kernel_rfl)))⟩,
    trivial,
    ⟨by kernel_rfl, ⟨Tryz.t38, .agg #[.int .i64 0, .int .i64 0, .int .i64 0, .int .i64 0, .int .i64 0, .int .i64 0, .int .i64 0, .int .i64 0], by kernel_rfl, by kernel_rfl, by kernel_rfl, by kernel_rfl, by kernel_rfl⟩, by kernel_rfl, (fun _ => ⟨by kernel_rfl, by kernel_rfl⟩), (fun fs h => (by cases h))⟩,
    ⟨by kernel_rfl, ⟨Tryz.t39, .slice none 0 0, by kernel_rfl, by kernel_rfl, by kernel_rfl, by kernel_rfl, by kernel_rfl⟩, by kernel_rfl, (fun h => (by cases h)), (fun fs h => (by cases h))⟩,
    ⟨by kernel_rfl, ⟨Tryz.t40, .agg #[.slice none 0 0, .slice none 0 0, .slice none 0 0, .slice none 0 0, .slice none 0 0, .slice none 0 0, .slice none 0 0, .slice none 0 0], by kernel_rfl, by kernel_rfl, by kernel_rfl, by kernel_rfl, by kernel_rfl⟩, by kernel_rfl, (fun _ => ⟨by kernel_rfl, by kernel_rfl⟩), (fun fs h => (by cases h))⟩,
    ⟨by kernel_rfl, ⟨Tryz.t41, .agg #[.bool false, .bool false, .bool false, .bool false, .bool false, .bool false, .bool false, .bool false, .bool false, .bool false, .bool false, .bool false, .bool false, .bool false, .bool false, .bool false, .bool false, .bool false, .bool false, .bool false, .bool false, .bool false, .bool false, .bool false, .bool false, .bool false, .bool false, .bool false, .bool false, .bool false, .bool false, .bool false, .bool false, .bool false, .bool false, .bool false, .bool false, .bool false, .bool false, .bool false, .bool false, .bool false, .bool false, .bool false, .bool false, .bool false, .bool false, .bool false, .bool false, .bool false, .bool false, .bool false, .bool false, .bool false, .bool false, .bool false, .bool false, .bool false, .bool false, .bool false, .bool false, .bool false, .bool false, .bool false, .bool false, .bool false, .bool false, .bool false, .bool false, .bool false, .bool false, .bool false, .bool false, .bool false, .bool false, .bool false, .bool false, .bool false, .bool false, .bool false, .bool false, .bool false, .bool false, .bool false, .bool false, .bool false, .bool false, .bool false, .bool false, .bool false, .bool false, .bool false, .bool false, .bool false, .bool false, .bool false, .bool false, .bool false, .bool false, .bool false, .bool false, .bool false, .bool false, .bool false, .bool false, .bool false, .bool false, .bool false, .bool false, .bool false, .bool false, .bool false, .bool false, .bool false, .bool false, .bool false, .bool false, .bool false, .bool false, .bool false, .bool false, .bool false, .bool false, .bool false, .bool false, .bool false, .bool false, .bool false, .bool false, .bool false, .bool false, .bool false, .bool false, .bool false, .bool false, .bool false, .bool false, .bool false, .bool false, .bool false, .bool false, .bool false, .bool false, .bool false, .bool false, .bool false, .bool false, .bool false, .bool false, .bool false, .bool false, .bool false, .bool false, .bool false, .bool false, .bool false, .bool false, .bool false, .bool false, .bool false], by kernel_rfl, by kernel_rfl, by kernel_rfl, by kernel_rfl, by kernel_rfl⟩, by kernel_rfl, (fun _ => ⟨by kernel_rfl, by kernel_rfl⟩), (fun fs h => (by cases h))⟩,
    trivial,
    trivial,
    ⟨by kernel_rfl, ⟨Tryz.t44, .agg #[.int .u8 0, .int .u8 0], by kernel_rfl, by kernel_rfl, by kernel_rfl, by kernel_rfl, by kernel_rfl⟩, by kernel_rfl, (fun _ => ⟨by kernel_rfl, by kernel_rfl⟩), (fun fs h => (by cases h))⟩,
    trivial,
    trivial,
    ⟨by kernel_rfl, ⟨Tryz.t47, .pointer none, by kernel_rfl, by kernel_rfl, by kernel_rfl, by kernel_rfl, by kernel_rfl⟩, by kernel_rfl, (fun h => (by cases h)), (fun fs h => (by cases h))⟩,
    trivial,
    ⟨by kernel_rfl, ⟨Tryz.t49, .pointer none, by kernel_rfl, by kernel_rfl, by kernel_rfl, by kernel_rfl, by kernel_rfl⟩, by kernel_rfl, (fun h => (by cases h)), (fun fs h => (by cases h))⟩,
    trivial,
    ⟨by kernel_rfl, ⟨Tryz.t51, .pointer none, by kernel_rfl, by kernel_rfl, by kernel_rfl, by kernel_rfl, by kernel_rfl⟩, by kernel_rfl, (fun h => (by cases h)), (fun fs h => (by cases h))⟩,
    trivial,
    ⟨by kernel_rfl, ⟨Tryz.t53, .pointer none, by kernel_rfl, by kernel_rfl, by kernel_rfl, by kernel_rfl, by kernel_rfl⟩, by kernel_rfl, (fun h => (by cases h)), (fun fs h => (by cases h))⟩,
    ⟨by kernel_rfl, ⟨Tryz.t54, .agg #[.pointer none, .pointer none, .pointer none, .pointer none, .pointer none], by kernel_rfl, by kernel_rfl, by kernel_rfl, by kernel_rfl, by kernel_rfl⟩, by kernel_rfl, (fun _ => ⟨by kernel_rfl, by kernel_rfl⟩), (fun fs h => (by cases h))⟩,
    ⟨by kernel_rfl, ⟨Tryz.t55, .pointer none, by kernel_rfl, by kernel_rfl, by kernel_rfl, by kernel_rfl, by kernel_rfl⟩, by kernel_rfl, (fun h => (by cases h)), (fun fs h => (by cases h))⟩,
    ⟨by kernel_rfl, ⟨Tryz.t56, .agg #[.pointer none, .pointer none], by kernel_rfl, by kernel_rfl, by kernel_rfl, by kernel_rfl, by kernel_rfl⟩, by kernel_rfl, (fun _ => ⟨by kernel_rfl, by kernel_rfl⟩), (fun fs h => (by cases h))⟩,
    ⟨by kernel_rfl, ⟨Tryz.t57, .agg #[.int .u8 0, .int .u8 0, .int .u8 0, .int .u8 0, .int .u8 0, .int .u8 0, .int .u8 0, .int .u8 0, .int .u8 0, .int .u8 0, .int .u8 0, .int .u8 0, .int .u8 0, .int .u8 0, .int .u8 0, .int .u8 0, .int .u8 0, .int .u8 0, .int .u8 0, .int .u8 0, .int .u8 0, .int .u8 0, .int .u8 0, .int .u8 0, .int .u8 0, .int .u8 0, .int .u8 0, .int .u8 0, .int .u8 0, .int .u8 0, .int .u8 0, .int .u8 0, .int .u8 0, .int .u8 0, .int .u8 0, .int .u8 0, .int .u8 0, .int .u8 0, .int .u8 0, .int .u8 0, .int .u8 0, .int .u8 0, .int .u8 0, .int .u8 0, .int .u8 0, .int .u8 0, .int .u8 0, .int .u8 0, .int .u8 0, .int .u8 0, .int .u8 0, .int .u8 0, .int .u8 0, .int .u8 0, .int .u8 0, .int .u8 0, .int .u8 0, .int .u8 0, .int .u8 0, .int .u8 0, .int .u8 0, .int .u8 0, .int .u8 0, .int .u8 0], by kernel_rfl, by kernel_rfl, by kernel_rfl, by kernel_rfl, by kernel_rfl⟩, by kernel_rfl, (fun _ => ⟨by kernel_rfl, by kernel_rfl⟩), (fun fs h => (by cases h))⟩,
    ⟨by kernel_rfl, ⟨Tryz.t58, .agg #[.int .u8 0, .int .u8 0, .int .u8 0, .int .u8 0], by kernel_rfl, by kernel_rfl, by kernel_rfl, by kernel_rfl, by kernel_rfl⟩, by kernel_rfl, (fun _ => ⟨by kernel_rfl, by kernel_rfl⟩), (fun fs h => (by cases h))⟩,
    ⟨by kernel_rfl, ⟨Tryz.t59, .agg #[.bool false, .bool false], by kernel_rfl, by kernel_rfl, by kernel_rfl, by kernel_rfl, by kernel_rfl⟩, by kernel_rfl, (fun _ => ⟨by kernel_rfl, by kernel_rfl⟩), (fun fs h => (by cases h))⟩,
    trivial,
    ⟨by kernel_rfl, ⟨Tryz.t61, .agg #[.pointer none, .pointer none, .pointer none, .pointer none, .pointer none, .pointer none, .pointer none, .pointer none, .pointer none, .pointer none, .int .u8 0, .int .u8 0, .int .u8 0, .int .u8 0, .int .u8 0, .int .u8 0, .int .u8 0, .int .u8 0, .int .u8 0, .int .u8 0, .int .u8 0, .int .u8 0, .int .u8 0, .int .u8 0, .int .u8 0, .int .u8 0, .int .u8 0, .int .u8 0, .int .u8 0, .int .u8 0, .int .u8 0, .int .u8 0, .int .u8 0, .int .u8 0, .int .u8 0, .int .u8 0, .int .u8 0, .int .u8 0, .int .u8 0, .int .u8 0, .int .u8 0, .int .u8 0, .int .u8 0, .int .u8 0, .int .u8 0, .int .u8 0, .int .u8 0, .int .u8 0, .int .u8 0, .int .u8 0, .int .u8 0, .int .u8 0, .int .u8 0, .int .u8 0, .int .u8 0, .int .u8 0, .int .u8 0, .int .u8 0, .int .u8 0, .int .u8 0, .int .u8 0, .int .u8 0, .int .u8 0, .int .u8 0, .int .u8 0, .int .u8 0, .int .u8 0, .int .u8 0, .int .u8 0, .int .u8 0, .int .u8 0, .int .u8 0, .int .u8 0, .int .u8 0, .int .u8 0, .int .u8 0, .int .u8 0, .int .u8 0, .bool false, .bool false, .int .u16 0, .bool false], by kernel_rfl, by kernel_rfl, by kernel_rfl, by kernel_rfl, by kernel_rfl⟩, by kernel_rfl, (fun _ => ⟨by kernel_rfl, by kernel_rfl⟩), (fun fs h => (by cases h; exact flds_of (by kernel_rfl)))⟩,
    trivial,
    trivial,
    ⟨by kernel_rfl, ⟨Tryz.t64, .nilFunc, by kernel_rfl, by kernel_rfl, by kernel_rfl, by kernel_rfl, by kernel_rfl⟩, by kernel_rfl, (fun h => (by cases h)), (fun fs h => (by cases h))⟩,
    trivial,
    trivial,
    trivial,
    trivial,
    trivial,
    ⟨by kernel_rfl, ⟨Tryz.t70, .slice none 0 0, by kernel_rfl, by kernel_rfl, by kernel_rfl, by kernel_rfl, by kernel_rfl⟩, by kernel_rfl, (fun h => (by cases h)), (fun fs h => (by cases h))⟩,
    ⟨by kernel_rfl, ⟨Tryz.t71, .int .u32 0, by kernel_rfl, by kernel_rfl, by kernel_rfl, by kernel_rfl, by kernel_rfl⟩, by kernel_rfl, (fun h => (by cases h)), (fun fs h => (by cases h))⟩,
    trivial,
    trivial,
    trivial,
    ⟨by kernel_rfl, ⟨Tryz.t75, .agg #[.bool false, .bool false, .bool false, .bool false, .bool false], by kernel_rfl, by kernel_rfl, by kernel_rfl, by kernel_rfl, by kernel_rfl⟩, by kernel_rfl, (fun _ => ⟨by kernel_rfl, by kernel_rfl⟩), (fun fs h => (by cases h))⟩,
    trivial,
    ⟨by kernel_rfl, ⟨Tryz.t77, .agg #[.int .u8 0, .int .u8 0, .int .u8 0, .int .u8 0, .int .u8 0], by kernel_rfl, by kernel_rfl, by kernel_rfl, by kernel_rfl, by kernel_rfl⟩, by kernel_rfl, (fun _ => ⟨by kernel_rfl, by kernel_rfl⟩), (fun fs h => (by cases h))⟩,
    trivial,
    trivial,
    trivial,
    trivial,
    trivial,
    trivial,
    trivial,
    trivial,
    ⟨by kernel_rfl, ⟨Tryz.t86, .pointer none, by kernel_rfl, by kernel_rfl, by kernel_rfl, by kernel_rfl, by kernel_rfl⟩, by kernel_rfl, (fun h => (by cases h)), (fun fs h => (by cases h))⟩,
    trivial,
    ⟨by kernel_rfl, ⟨Tryz.t88, .pointer none, by kernel_rfl, by kernel_rfl, by kernel_rfl, by kernel_rfl, by kernel_rfl⟩, by kernel_rfl, (fun h => (by cases h)), (fun fs h => (by cases h))⟩,
    trivial,
    trivial,
    ⟨by kernel_rfl, ⟨Tryz.t91, .agg #[.pointer none, .pointer none], by kernel_rfl, by kernel_rfl, by kernel_rfl, by kernel_rfl, by kernel_rfl⟩, by kernel_rfl, (fun _ => ⟨by kernel_rfl, by kernel_rfl⟩), (fun fs h => (by cases h; exact flds_of (by kernel_rfl)))⟩,
    trivial,
    ⟨by kernel_rfl, ⟨Tryz.t93, .agg #[.pointer none, .pointer none, .bool false], by kernel_rfl, by kernel_rfl, by kernel_rfl, by kernel_rfl, by kernel_rfl⟩, by kernel_rfl, (fun _ => ⟨by kernel_rfl, by kernel_rfl⟩), (fun fs h => (by cases h; exact flds_of (by kernel_rfl)))⟩,
    trivial,
    ⟨by kernel_rfl, ⟨Tryz.t95, .agg #[.int .i64 0, .int .i64 0, .int .u8 0], by kernel_rfl, by kernel_rfl, by kernel_rfl, by kernel_rfl, by kernel_rfl⟩, by kernel_rfl, (fun _ => ⟨by kernel_rfl, by kernel_rfl⟩), (fun fs h => (by cases h; exact flds_of (by kernel_rfl)))⟩,
    trivial,
    ⟨by kernel_rfl, ⟨Tryz.t97, .agg #[.bool false, .bool false], by kernel_rfl, by kernel_rfl, by kernel_rfl, by kernel_rfl, by kernel_rfl⟩, by kernel_rfl, (fun _ => ⟨by kernel_rfl, by kernel_rfl⟩), (fun fs h => (by cases h; exact flds_of (by kernel_rfl)))⟩,
    ⟨by kernel_rfl, ⟨Tryz.t98, .agg #[.bool false, .bool false, .bool false, .bool false], by kernel_rfl, by kernel_rfl, by kernel_rfl, by kernel_rfl, by kernel_rfl⟩, by kernel_rfl, (fun _ => ⟨by kernel_rfl, by kernel_rfl⟩), (fun fs h => (by cases h))⟩,
    trivial,
    ⟨by kernel_rfl, ⟨Tryz.t100, .agg #[.int .u8 0, .int .u8 0, .int .u8 0, .int .u8 0, .int .i64 0, .bool false, .bool false, .bool false, .bool false, .bool false, .bool false], by kernel_rfl, by kernel_rfl, by kernel_rfl, by kernel_rfl, by kernel_rfl⟩, by kernel_rfl, (fun _ => ⟨by kernel_rfl, by kernel_rfl⟩), (fun fs h => (by cases h; exact flds_of (by kernel_rfl)))⟩,
    ⟨by kernel_rfl, ⟨Tryz.t101, .pointer none, by kernel_rfl, by kernel_rfl, by kernel_rfl, by kernel_rfl, by kernel_rfl⟩, by kernel_rfl, (fun h => (by cases h)), (fun fs h => (by cases h))⟩,
    trivial,
    trivial,
    ⟨by kernel_rfl, ⟨Tryz.t104, .agg #[.pointer none, .int .u16 0, .int .i64 0], by kernel_rfl, by kernel_rfl, by kernel_rfl, by kernel_rfl, by kernel_rfl⟩, by kernel_rfl, (fun _ => ⟨by kernel_rfl, by kernel_rfl⟩), (fun fs h => (by cases h; exact flds_of (by kernel_rfl)))⟩,
    ⟨by kernel_rfl, ⟨Tryz.t105, .pointer none, by kernel_rfl, by kernel_rfl, by kernel_rfl, by kernel_rfl, by kernel_rfl⟩, by kernel_rfl, (fun h => (by cases h)), (fun fs h => (by cases h))⟩,
    trivial,
    ⟨by kernel_rfl, ⟨Tryz.t107, .pointer none, by kernel_rfl, by kernel_rfl, by kernel_rfl, by kernel_rfl, by kernel_rfl⟩, by kernel_rfl, (fun h => (by cases h)), (fun fs h => (by cases h))⟩,
    trivial,
    trivial,
    ⟨by kernel_rfl, ⟨Tryz.t110, .agg #[.int .u8 0, .int .u8 0, .int .u8 0, .pointer none, .pointer none, .pointer none, .int .i64 0, .bool false], by kernel_rfl, by kernel_rfl, by kernel_rfl, by kernel_rfl, by kernel_rfl⟩, by kernel_rfl, (fun _ => ⟨by kernel_rfl, by kernel_rfl⟩), (fun fs h => (by cases h; exact flds_of (by kernel_rfl)))⟩,
    trivial,
    trivial,
    ⟨by kernel_rfl, ⟨Tryz.t113, .nilFunc, by kernel_rfl, by kernel_rfl, by kernel_rfl, by kernel_rfl, by kernel_rfl⟩, by kernel_rfl, (fun h => (by cases h)), (fun fs h => (by cases h))⟩,
    trivial,
    trivial,
    ⟨by kernel_rfl, ⟨Tryz.t116, .int .u64 0, by kernel_rfl, by kernel_rfl, by kernel_rfl, by kernel_rfl, by kernel_rfl⟩, by kernel_rfl, (fun h => (by cases h)), (fun fs h => (by cases h))⟩,
    trivial,
    trivial,
    trivial,
    ⟨by kernel_rfl, ⟨Tryz.t120, .agg #[.int .i64 0, .int .i64 0], by kernel_rfl, by kernel_rfl, by kernel_rfl, by kernel_rfl, by kernel_rfl⟩, by kernel_rfl, (fun _ => ⟨by kernel_rfl, by kernel_rfl⟩), (fun fs h => (by cases h; exact flds_of (by kernel_rfl)))⟩,
    trivial,
    ⟨by kernel_rfl, ⟨Tryz.t122, .agg #[.pointer none, .int .u8 0, .int .i64 0], by kernel_rfl, by kernel_rfl, by kernel_rfl, by kernel_rfl, by kernel_rfl⟩, by kernel_rfl, (fun _ => ⟨by kernel_rfl, by kernel_rfl⟩), (fun fs h => (by cases h; exact flds_of (by kernel_rfl)))⟩,
    ⟨by kernel_rfl, ⟨Tryz.t123, .pointer none, by kernel_rfl, by kernel_rfl, by kernel_rfl, by kernel_rfl, by kernel_rfl⟩, by kernel_rfl, (fun h => (by cases h)), (fun fs h => (by cases h))⟩,
    trivial,
    ⟨by kernel_rfl, ⟨Tryz.t125, .agg #[.pointer none, .pointer none], by kernel_rfl, by kernel_rfl, by kernel_rfl, by kernel_rfl, by kernel_rfl⟩, by kernel_rfl, (fun _ => ⟨by kernel_rfl, by kernel_rfl⟩), (fun fs h => (by cases h; exact flds_of (by kernel_rfl)))⟩,
    trivial,
    ⟨by kernel_rfl, ⟨Tryz.t127, .agg #[.int .u8 0, .int .i64 0, .int .i64 0], by kernel_rfl, by kernel_rfl, by kernel_rfl, by kernel_rfl, by kernel_rfl⟩, by kernel_rfl, (fun _ => ⟨by kernel_rfl, by kernel_rfl⟩), (fun fs h => (by cases h; exact flds_of (by kernel_rfl)))⟩,
    trivial,
    ⟨by kernel_rfl, ⟨Tryz.t129, .agg #[.int .u16 0, .int .i64 0, .int .i64 0], by kernel_rfl, by kernel_rfl, by kernel_rfl, by kernel_rfl, by kernel_rfl⟩, by kernel_rfl, (fun _ => ⟨by kernel_rfl, by kernel_rfl⟩), (fun fs h => (by cases h; exact flds_of (by kernel_rfl)))⟩,
    trivial,
    trivial,
    ⟨by kernel_rfl, ⟨Tryz.t132, .agg #[.int .i64 0, .int .i64 0], by kernel_rfl, by kernel_rfl, by kernel_rfl, by kernel_rfl, by kernel_rfl⟩, by kernel_rfl, (fun _ => ⟨by kernel_rfl, by kernel_rfl⟩), (fun fs h => (by cases h))⟩,
    ⟨by kernel_rfl, ⟨Tryz.t133, .agg #[.int .i64 0, .int .i64 0, .int .i64 0, .int .i64 0, .int .i64 0, .int .i64 0, .int .i64 0, .int .i64 0, .int .i64 0, .int .i64 0, .int .i64 0, .int .i64 0, .int .i64 0, .int .i64 0, .int .i64 0, .int .i64 0, .int .i64 0, .int .i64 0, .int .i64 0, .int .i64 0, .int .i64 0, .int .i64 0, .int .i64 0, .int .i64 0, .int .i64 0, .int .i64 0, .int .i64 0, .int .i64 0, .int .i64 0, .int .i64 0], by kernel_rfl, by kernel_rfl, by kernel_rfl, by kernel_rfl, by kernel_rfl⟩, by kernel_rfl, (fun _ => ⟨by kernel_rfl, by kernel_rfl⟩), (fun fs h => (by cases h))⟩, trivial⟩

def h2 : Hints := []
theorem ok2 : codeOk T h2 (bodyOf Tryz.f2) = true := by kernel_rfl
def h3 : Hints := [(21, [(0, []), (1, []), (2, []), (3, []), (4, []), (5, []), (6, [2]), (7, []), (8, []), (9, []), (10, [])])]
theorem ok3 : codeOk T h3 (bodyOf Tryz.f3) = true := by kernel_rfl
def h4 : Hints := [(31, [(0, []), (1, []), (2, []), (3, []), (4, []), (5, []), (6, []), (7, []), (8, []), (9, []), (10, []), (11, []), (12, []), (13, []), (14, []), (15, []), (16, []), (17, []), (18, []), (19, [])])]
theorem ok4 : codeOk T h4 (bodyOf Tryz.f4) = true := by kernel_rfl
def h5 : Hints := []
theorem ok5 : codeOk T h5 (bodyOf Tryz.f5) = true := by kernel_rfl
def h6 : Hints := []
theorem ok6 : codeOk T h6 (bodyOf Tryz.f6) = true := by kernel_rfl
def h7 : Hints := [(8, [(0, []), (1, []), (3, []), (4, []), (2, []), (5, []), (6, [])]), (13, [(0, []), (1, []), (3, []), (4, []), (2, []), (5, []), (6, [])])]
theorem ok7 : codeOk T h7 (bodyOf Tryz.f7) = true := by kernel_rfl
def h8 : Hints := [(36, [(0, []), (1, []), (2, []), (3, []), (4, []), (5, []), (6, []), (7, []), (8, []), (9, [])]), (39, [(0, []), (1, []), (2, []), (3, []), (4, []), (5, []), (6, []), (7, []), (8, []), (9, []), (10, []), (11, []), (12, []), (13, []), (14, []), (15, [])])]
theorem ok8 : codeOk T h8 (bodyOf Tryz.f8) = true := by kernel_rfl
def h9 : Hints := []
theorem ok9 : codeOk T h9 (bodyOf Tryz.f9) = true := by kernel_rfl
def h10 : Hints := []
theorem ok10 : codeOk T h10 (bodyOf Tryz.f10) = true := by kernel_rfl
def h11 : Hints := []
theorem ok11 : codeOk T h11 (bodyOf Tryz.f11) = true := by kernel_rfl
def h12 : Hints := [(9, [(0, []), (1, []), (2, []), (3, []), (4, []), (5, []), (6, []), (7, [3, 5]), (8, []), (9, []), (10, [])]), (23, [(0, []), (1, []), (2, []), (3, [1]), (4, []), (5, []), (6, [])])]
theorem ok12 : codeOk T h12 (bodyOf Tryz.f12) = true := by kernel_rfl
def h13 : Hints := []
theorem ok13 : codeOk T h13 (bodyOf Tryz.f13) = true := by kernel_rfl
def h14 : Hints := []
theorem ok14 : codeOk T h14 (bodyOf Tryz.f14) = true := by kernel_rfl
def h15 : Hints := []
theorem ok15 : codeOk T h15 (bodyOf Tryz.f15) = true := by kernel_rfl
def h16 : Hints := []
theorem ok16 : codeOk T h16 (bodyOf Tryz.f16) = true := by kernel_rfl
def h17 : Hints := []
theorem ok17 : codeOk T h17 (bodyOf Tryz.f17) = true := by kernel_rfl
def h18 : Hints := []
theorem ok18 : codeOk T h18 (bodyOf Tryz.f18) = true := by kernel_rfl
def h19 : Hints := []
theorem ok19 : codeOk T h19 (bodyOf Tryz.f19) = true := by kernel_rfl
def h20 : Hints := []
theorem ok20 : codeOk T h20 (bodyOf Tryz.f20) = true := by kernel_rfl
def h21 : Hints := []
theorem ok21 : codeOk T h21 (bodyOf Tryz.f21) = true := by kernel_rfl
def h22 : Hints := []
theorem ok22 : codeOk T h22 (bodyOf Tryz.f22) = true := by kernel_rfl
def h23 : Hints := []
theorem ok23 : codeOk T h23 (bodyOf Tryz.f23) = true := by kernel_rfl
def h24 : Hints := []
theorem ok24 : codeOk T h24 (bodyOf Tryz.f24) = true := by kernel_rfl
def h25 : Hints := []
theorem ok25 : codeOk T h25 (bodyOf Tryz.f25) = true := by kernel_rfl
def h26 : Hints := []
theorem ok26 : codeOk T h26 (bodyOf Tryz.f26) = true := by kernel_rfl
def h27 : Hints := []
theorem ok27 : codeOk T h27 (bodyOf Tryz.f27) = true := by kernel_rfl
def h28 : Hints := [(1, [(0, []), (1, []), (2, []), (3, []), (4, []), (5, []), (6, []), (7, []), (8, []), (9, []), (10, []), (11, []), (12, []), (14, []), (13, [6]), (15, []), (16, []), (17, []), (18, [])])]
theorem ok28 : codeOk T h28 (bodyOf Tryz.f28) = true := by kernel_rfl
def h29 : Hints := []
theorem ok29 : codeOk T h29 (bodyOf Tryz.f29) = true := by kernel_rfl
def h30 : Hints := []
theorem ok30 : codeOk T h30 (bodyOf Tryz.f30) = true := by kernel_rfl
def h31 : Hints := [(1, [(0, []), (1, []), (2, []), (3, []), (4, []), (5, []), (10, []), (11, []), (12, []), (13, []), (6, [1, 3, 11, 12]), (7, []), (8, []), (9, []), (14, []), (15, [])])]
theorem ok31 : codeOk T h31 (bodyOf Tryz.f31) = true := by kernel_rfl
def h32 : Hints := []
theorem ok32 : codeOk T h32 (bodyOf Tryz.f32) = true := by kernel_rfl
def h33 : Hints := []
theorem ok33 : codeOk T h33 (bodyOf Tryz.f33) = true := by kernel_rfl
def h34 : Hints := []
theorem ok34 : codeOk T h34 (bodyOf Tryz.f34) = true := by kernel_rfl
def h35 : Hints := []
theorem ok35 : codeOk T h35 (bodyOf Tryz.f35) = true := by kernel_rfl
def h36 : Hints := []
theorem ok36 : codeOk T h36 (bodyOf Tryz.f36) = true := by kernel_rfl
def h37 : Hints := []
theorem ok37 : codeOk T h37 (bodyOf Tryz.f37) = true := by kernel_rfl
def h38 : Hints := []
theorem ok38 : codeOk T h38 (bodyOf Tryz.f38) = true := by kernel_rfl
def h39 : Hints := []
theorem ok39 : codeOk T h39 (bodyOf Tryz.f39) = true := by kernel_rfl
def h40 : Hints := []
theorem ok40 : codeOk T h40 (bodyOf Tryz.f40) = true := by kernel_rfl
def h41 : Hints := []
theorem ok41 : codeOk T h41 (bodyOf Tryz.f41) = true := by kernel_rfl
def h42 : Hints := [(5, [(0, []), (1, []), (2, []), (3, []), (4, []), (5, []), (6, []), (7, []), (8, [5]), (9, [])])]
theorem ok42 : codeOk T h42 (bodyOf Tryz.f42) = true := by kernel_rfl
def h43 : Hints := [(2, [(0, []), (1, []), (2, []), (3, []), (4, []), (5, [3]), (6, []), (7, []), (8, []), (9, [])]), (3, [(0, []), (1, []), (2, []), (3, []), (4, []), (5, []), (6, []), (7, []), (10, []), (11, []), (8, []), (9, []), (12, []), (13, []), (14, []), (15, [])])]
theorem ok43 : codeOk T h43 (bodyOf Tryz.f43) = true := by kernel_rfl
def h44 : Hints := [(2, [(0, []), (1, []), (2, []), (3, []), (4, []), (5, [3]), (6, [])])]
theorem ok44 : codeOk T h44 (bodyOf Tryz.f44) = true := by kernel_rfl
def h45 : Hints := []
theorem ok45 : codeOk T h45 (bodyOf Tryz.f45) = true := by kernel_rfl
def h46 : Hints := []
theorem ok46 : codeOk T h46 (bodyOf Tryz.f46) = true := by kernel_rfl
def h47 : Hints := []
theorem ok47 : codeOk T h47 (bodyOf Tryz.f47) = true := by kernel_rfl
def h48 : Hints := [(6, [(0, []), (1, []), (2, []), (3, []), (4, []), (5, []), (6, []), (7, []), (8, []), (9, []), (10, []), (11, []), (12, [])])]
theorem ok48 : codeOk T h48 (bodyOf Tryz.f48) = true := by kernel_rfl
def h49 : Hints := [(4, [(0, []), (1, []), (2, []), (3, []), (4, []), (5, []), (6, []), (7, []), (8, []), (9, []), (10, []), (11, []), (12, []), (13, []), (14, []), (15, []), (16, []), (17, []), (18, []), (19, [])])]
theorem ok49 : codeOk T h49 (bodyOf Tryz.f49) = true := by kernel_rfl
def h50 : Hints := []
theorem ok50 : codeOk T h50 (bodyOf Tryz.f50) = true := by kernel_rfl
def h51 : Hints := []
theorem ok51 : codeOk T h51 (bodyOf Tryz.f51) = true := by kernel_rfl
def h52 : Hints := []
theorem ok52 : codeOk T h52 (bodyOf Tryz.f52) = true := by kernel_rfl
def h53 : Hints := []
theorem ok53 : codeOk T h53 (bodyOf Tryz.f53) = true := by kernel_rfl
def h54 : Hints := []
theorem ok54 : codeOk T h54 (bodyOf Tryz.f54) = true := by kernel_rfl
def h55 : Hints := []
theorem ok55 : codeOk T h55 (bodyOf Tryz.f55) = true := by kernel_rfl
def h56 : Hints := []
theorem ok56 : codeOk T h56 (bodyOf Tryz.f56) = true := by kernel_rfl
def h57 : Hints := []
theorem ok57 : codeOk T h57 (bodyOf Tryz.f57) = true := by kernel_rfl
def h58 : Hints := []
theorem ok58 : codeOk T h58 (bodyOf Tryz.f58) = true := by kernel_rfl
def h59 : Hints := []
theorem ok59 : codeOk T h59 (bodyOf Tryz.f59) = true := by kernel_rfl
def h60 : Hints := []
theorem ok60 : codeOk T h60 (bodyOf Tryz.f60) = true := by kernel_rfl
def h61 : Hints := []
theorem ok61 : codeOk T h61 (bodyOf Tryz.f61) = true := by kernel_rfl
def h62 : Hints := []
theorem ok62 : codeOk T h62 (bodyOf Tryz.f62) = true := by kernel_rfl
def h63 : Hints := []
theorem ok63 : codeOk T h63 (bodyOf Tryz.f63) = true := by kernel_rfl
def h64 : Hints := []
theorem ok64 : codeOk T h64 (bodyOf Tryz.f64) = true := by kernel_rfl
def h65 : Hints := []
theorem ok65 : codeOk T h65 (bodyOf Tryz.f65) = true := by kernel_rfl
def h66 : Hints := []
theorem ok66 : codeOk T h66 (bodyOf Tryz.f66) = true := by kernel_rfl
def h67 : Hints := [(1, [(0, []), (3, []), (4, []), (5, []), (6, []), (1, [6]), (2, []), (7, []), (8, []), (9, [])])]
theorem ok67 : codeOk T h67 (bodyOf Tryz.f67) = true := by kernel_rfl
def h68 : Hints := []
theorem ok68 : codeOk T h68 (bodyOf Tryz.f68) = true := by kernel_rfl
def h69 : Hints := []
theorem ok69 : codeOk T h69 (bodyOf Tryz.f69) = true := by kernel_rfl
def h70 : Hints := [(1, [(0, []), (1, []), (2, []), (3, []), (4, []), (5, []), (6, []), (7, []), (8, []), (9, []), (10, []), (11, [])])]
theorem ok70 : codeOk T h70 (bodyOf Tryz.f70) = true := by kernel_rfl
def h71 : Hints := []
theorem ok71 : codeOk T h71 (bodyOf Tryz.f71) = true := by kernel_rfl
def h72 : Hints := []
theorem ok72 : codeOk T h72 (bodyOf Tryz.f72) = true := by kernel_rfl
def h73 : Hints := [(1, [(0, []), (2, []), (4, []), (6, []), (8, []), (9, []), (11, []), (12, []), (21, []), (22, []), (23, []), (24, []), (25, []), (26, []), (27, []), (28, []), (29, []), (30, []), (31, []), (32, []), (1, [26, 31]), (3, [26, 31]), (5, [26, 31]), (7, [26, 31]), (10, [26, 31]), (13, []), (14, []), (15, []), (16, []), (17, []), (18, [26, 31]), (19, [26, 31]), (20, []), (33, []), (34, []), (35, [])])]
theorem ok73 : codeOk T h73 (bodyOf Tryz.f73) = true := by kernel_rfl
def h74 : Hints := []
theorem ok74 : codeOk T h74 (bodyOf Tryz.f74) = true := by kernel_rfl
def h75 : Hints := []
theorem ok75 : codeOk T h75 (bodyOf Tryz.f75) = true := by kernel_rfl
def h76 : Hints := []
theorem ok76 : codeOk T h76 (bodyOf Tryz.f76) = true := by kernel_rfl
def h77 : Hints := []
theorem ok77 : codeOk T h77 (bodyOf Tryz.f77) = true := by kernel_rfl
def h78 : Hints := []
theorem ok78 : codeOk T h78 (bodyOf Tryz.f78) = true := by kernel_rfl
def h79 : Hints := []
theorem ok79 : codeOk T h79 (bodyOf Tryz.f79) = true := by kernel_rfl
def h80 : Hints := [(5, [(0, []), (1, []), (2, []), (3, []), (4, []), (5, [3]), (6, []), (7, [])])]
theorem ok80 : codeOk T h80 (bodyOf Tryz.f80) = true := by kernel_rfl
def h81 : Hints := []
theorem ok81 : codeOk T h81 (bodyOf Tryz.f81) = true := by kernel_rfl
def h82 : Hints := []
theorem ok82 : codeOk T h82 (bodyOf Tryz.f82) = true := by kernel_rfl
def h83 : Hints := [(3, [(0, []), (1, []), (2, []), (3, []), (6, []), (7, []), (8, []), (9, []), (4, [9]), (5, []), (10, []), (11, []), (12, [])])]
theorem ok83 : codeOk T h83 (bodyOf Tryz.f83) = true := by kernel_rfl
def h84 : Hints := []
theorem ok84 : codeOk T h84 (bodyOf Tryz.f84) = true := by kernel_rfl
def h85 : Hints := [(3, [(0, []), (1, []), (2, []), (3, []), (4, []), (5, []), (6, []), (7, []), (8, [3]), (9, []), (10, []), (11, []), (12, []), (13, []), (14, [])])]
theorem ok85 : codeOk T h85 (bodyOf Tryz.f85) = true := by kernel_rfl
def h86 : Hints := []
theorem ok86 : codeOk T h86 (bodyOf Tryz.f86) = true := by kernel_rfl
def h87 : Hints := [(1, [(0, []), (2, []), (3, []), (4, []), (5, []), (6, []), (1, [5]), (7, []), (8, [])])]
theorem ok87 : codeOk T h87 (bodyOf Tryz.f87) = true := by kernel_rfl
def h88 : Hints := [(4, [(0, []), (1, []), (2, []), (3, []), (5, []), (6, []), (7, []), (10, []), (11, []), (12, []), (14, []), (15, []), (16, []), (17, []), (18, []), (19, []), (20, []), (21, []), (4, [20]), (8, []), (9, []), (13, [20, 9]), (22, [9]), (23, []), (24, [])])]
theorem ok88 : codeOk T h88 (bodyOf Tryz.f88) = true := by kernel_rfl
def h89 : Hints := []
theorem ok89 : codeOk T h89 (bodyOf Tryz.f89) = true := by kernel_rfl
def h90 : Hints := []
theorem ok90 : codeOk T h90 (bodyOf Tryz.f90) = true := by kernel_rfl
def h91 : Hints := []
theorem ok91 : codeOk T h91 (bodyOf Tryz.f91) = true := by kernel_rfl
def h92 : Hints := []
theorem ok92 : codeOk T h92 (bodyOf Tryz.f92) = true := by kernel_rfl
def h93 : Hints := []
theorem ok93 : codeOk T h93 (bodyOf Tryz.f93) = true := by kernel_rfl
def h94 : Hints := []
theorem ok94 : codeOk T h94 (bodyOf Tryz.f94) = true := by kernel_rfl
def h95 : Hints := [(1, [(0, []), (1, []), (2, []), (3, []), (4, []), (5, []), (6, []), (7, []), (8, [3]), (9, []), (10, []), (11, []), (12, []), (13, []), (14, [])])]
theorem ok95 : codeOk T h95 (bodyOf Tryz.f95) = true := by kernel_rfl
def h96 : Hints := []
theorem ok96 : codeOk T h96 (bodyOf Tryz.f96) = true := by kernel_rfl
def h97 : Hints := [(4, [(0, []), (1, []), (2, []), (3, []), (4, []), (5, []), (6, []), (7, []), (8, []), (9, []), (10, []), (11, []), (12, []), (13, []), (14, []), (15, []), (16, [])])]
theorem ok97 : codeOk T h97 (bodyOf Tryz.f97) = true := by kernel_rfl
def h98 : Hints := [(3, [(0, []), (1, []), (2, []), (3, []), (5, []), (6, []), (7, []), (8, []), (4, [8]), (9, [])])]
theorem ok98 : codeOk T h98 (bodyOf Tryz.f98) = true := by kernel_rfl
def h99 : Hints := []
theorem ok99 : codeOk T h99 (bodyOf Tryz.f99) = true := by kernel_rfl
def h100 : Hints := []
theorem ok100 : codeOk T h100 (bodyOf Tryz.f100) = true := by kernel_rfl
-- not taken: 101 (*woodgrain/poly.Poly[uint8]).Place []
def h102 : Hints := []
theorem ok102 : codeOk T h102 (bodyOf Tryz.f102) = true := by kernel_rfl
def h103 : Hints := []
theorem ok103 : codeOk T h103 (bodyOf Tryz.f103) = true := by kernel_rfl
def h104 : Hints := []
theorem ok104 : codeOk T h104 (bodyOf Tryz.f104) = true := by kernel_rfl
def h105 : Hints := []
theorem ok105 : codeOk T h105 (bodyOf Tryz.f105) = true := by kernel_rfl
def h106 : Hints := []
theorem ok106 : codeOk T h106 (bodyOf Tryz.f106) = true := by kernel_rfl
def h107 : Hints := []
theorem ok107 : codeOk T h107 (bodyOf Tryz.f107) = true := by kernel_rfl
def h108 : Hints := []
theorem ok108 : codeOk T h108 (bodyOf Tryz.f108) = true := by kernel_rfl
def h109 : Hints := []
theorem ok109 : codeOk T h109 (bodyOf Tryz.f109) = true := by kernel_rfl
def h110 : Hints := []
theorem ok110 : codeOk T h110 (bodyOf Tryz.f110) = true := by kernel_rfl
-- not taken: 111 (*woodgrain/sprite.Thing).two []
def h112 : Hints := []
theorem ok112 : codeOk T h112 (bodyOf Tryz.f112) = true := by kernel_rfl
def h113 : Hints := []
theorem ok113 : codeOk T h113 (bodyOf Tryz.f113) = true := by kernel_rfl
def h114 : Hints := []
theorem ok114 : codeOk T h114 (bodyOf Tryz.f114) = true := by kernel_rfl
def h115 : Hints := []
theorem ok115 : codeOk T h115 (bodyOf Tryz.f115) = true := by kernel_rfl

end Go.Proofs
