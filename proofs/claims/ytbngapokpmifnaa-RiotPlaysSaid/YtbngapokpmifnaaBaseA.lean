/-
  The types, the plans of the regions that draw their order, and what is checked of each function's code. (Printed by a program of ours, wip/core/GenB.lean.)
-/
import Derived.Test.YtbngapokpmifnaaChecked
import Derived.Test.YtbngapokpmifnaaCore15
set_option linter.all false
set_option linter.unusedVariables false
set_option linter.unusedSimpArgs false
set_option linter.unnecessarySimpa false
namespace Go.Proofs
open Go.Aw
set_option maxRecDepth 100000

def T : Tab := [
  none,
  none,
  none,
  some ⟨(.int .i64), 1, 8, [.int .i64 0], false⟩,
  some ⟨.bool, 1, 1, [.bool false], false⟩,
  some ⟨(.int .u8), 1, 1, [.int .u8 0], false⟩,
  none,
  none,
  none,
  none,
  none,
  none,
  none,
  none,
  none,
  none,
  none,
  none,
  none,
  none,
  none,
  none,
  some ⟨(.array 4 5), 4, 4, [.int .u8 0, .int .u8 0, .int .u8 0, .int .u8 0], true⟩,
  some ⟨(.pointer 97), 1, 8, [.pointer none], false⟩,
  none,
  none,
  none,
  none,
  none,
  some ⟨(.pointer 99), 1, 8, [.pointer none], false⟩,
  none,
  none,
  none,
  some ⟨(.slice 36), 1, 24, [.slice none 0 0], false⟩,
  some ⟨(.array 3 3), 3, 24, [.int .i64 0, .int .i64 0, .int .i64 0], true⟩,
  none,
  some ⟨(.struct #[⟨ "Kind", 3, 0, false, "", "", 0⟩, ⟨ "V", 5, 1, false, "", "", 8⟩, ⟨ "W", 34, 2, false, "", "", 16⟩]), 5, 40, [.int .i64 0, .int .u8 0, .int .i64 0, .int .i64 0, .int .i64 0], true⟩,
  some ⟨(.int .i64), 1, 8, [.int .i64 0], false⟩,
  none,
  none,
  none,
  none,
  none,
  some ⟨(.slice 47), 1, 24, [.slice none 0 0], false⟩,
  none,
  some ⟨(.struct #[⟨ "Last", 4, 0, false, "", "", 0⟩, ⟨ "Rising", 4, 1, false, "", "", 1⟩, ⟨ "Caught", 4, 2, false, "", "", 2⟩]), 3, 3, [.bool false, .bool false, .bool false], true⟩,
  none,
  some ⟨(.struct #[⟨ "Kind", 3, 0, false, "", "", 0⟩, ⟨ "High", 4, 1, false, "", "", 8⟩, ⟨ "W", 34, 2, false, "", "", 16⟩]), 5, 40, [.int .i64 0, .bool false, .int .i64 0, .int .i64 0, .int .i64 0], true⟩,
  none,
  none,
  none,
  none,
  some ⟨(.int .u16), 1, 2, [.int .u16 0], false⟩,
  some ⟨(.pointer 104), 1, 8, [.pointer none], false⟩,
  none,
  none,
  some ⟨(.array 4 3), 4, 32, [.int .i64 0, .int .i64 0, .int .i64 0, .int .i64 0], true⟩,
  none,
  none,
  some ⟨(.slice 62), 1, 24, [.slice none 0 0], false⟩,
  some ⟨(.array 5 3), 5, 40, [.int .i64 0, .int .i64 0, .int .i64 0, .int .i64 0, .int .i64 0], true⟩,
  none,
  some ⟨(.struct #[⟨ "Kind", 3, 0, false, "", "", 0⟩, ⟨ "Cycles", 52, 1, false, "", "", 8⟩, ⟨ "V", 5, 2, false, "", "", 10⟩, ⟨ "N", 3, 3, false, "", "", 16⟩, ⟨ "W", 60, 4, false, "", "", 24⟩]), 9, 64, [.int .i64 0, .int .u16 0, .int .u8 0, .int .i64 0, .int .i64 0, .int .i64 0, .int .i64 0, .int .i64 0, .int .i64 0], true⟩,
  none,
  none,
  none,
  none,
  some ⟨(.slice 72), 1, 24, [.slice none 0 0], false⟩,
  some ⟨(.pointer 110), 1, 8, [.pointer none], false⟩,
  none,
  some ⟨(.array 128 5), 128, 128, (List.replicate 128 (.int .u8 0)), true⟩,
  none,
  some ⟨(.struct #[⟨ "Kind", 3, 0, false, "", "", 0⟩, ⟨ "Cycles", 52, 1, false, "", "", 8⟩, ⟨ "Addr", 52, 2, false, "", "", 10⟩, ⟨ "V", 5, 3, false, "", "", 12⟩, ⟨ "U", 5, 4, false, "", "", 13⟩]), 5, 16, [.int .i64 0, .int .u16 0, .int .u16 0, .int .u8 0, .int .u8 0], true⟩,
  some ⟨(.int .u64), 1, 8, [.int .u64 0], false⟩,
  none,
  none,
  some ⟨(.slice 3), 1, 24, [.slice none 0 0], false⟩,
  none,
  none,
  none,
  some ⟨(.struct #[⟨ "Base", 3, 0, false, "", "", 0⟩, ⟨ "Interval", 3, 1, false, "", "", 8⟩, ⟨ "Lead", 3, 2, false, "", "", 16⟩, ⟨ "Gone", 3, 3, false, "", "", 24⟩, ⟨ "Quick", 4, 4, false, "", "", 32⟩, ⟨ "Raised", 4, 5, false, "", "", 33⟩]), 6, 40, [.int .i64 0, .int .i64 0, .int .i64 0, .int .i64 0, .bool false, .bool false], true⟩,
  none,
  some ⟨(.struct #[⟨ "Ram", 70, 0, false, "", "", 0⟩, ⟨ "A", 34, 128, false, "", "", 128⟩, ⟨ "B", 34, 131, false, "", "", 152⟩, ⟨ "Timer", 80, 134, false, "", "", 176⟩, ⟨ "Edge", 45, 140, false, "", "", 216⟩]), 143, 224, (List.replicate 128 (.int .u8 0) ++ [.int .i64 0, .int .i64 0, .int .i64 0, .int .i64 0, .int .i64 0, .int .i64 0, .int .i64 0, .int .i64 0, .int .i64 0, .int .i64 0, .bool false, .bool false, .bool false, .bool false, .bool false]), true⟩,
  none,
  none,
  none,
  none,
  none,
  none,
  none,
  none,
  none,
  none,
  none,
  none,
  none,
  none,
  some ⟨(.struct #[⟨ "in", 5, 0, false, "", "woodgrain/port", 0⟩, ⟨ "out", 5, 1, false, "", "woodgrain/port", 1⟩, ⟨ "way", 5, 2, false, "", "woodgrain/port", 2⟩]), 3, 3, [.int .u8 0, .int .u8 0, .int .u8 0], true⟩,
  none,
  some ⟨(.struct #[⟨ "last", 4, 0, false, "", "woodgrain/port", 0⟩, ⟨ "rising", 4, 1, false, "", "woodgrain/port", 1⟩, ⟨ "caught", 4, 2, false, "", "woodgrain/port", 2⟩]), 3, 3, [.bool false, .bool false, .bool false], true⟩,
  none,
  some ⟨(.func #[3] #[4] false), 1, 8, [.nilFunc], false⟩,
  none,
  none,
  some ⟨(.struct #[⟨ "value", 5, 0, false, "", "woodgrain/timer", 0⟩, ⟨ "interval", 3, 1, false, "", "woodgrain/timer", 8⟩, ⟨ "left", 3, 2, false, "", "woodgrain/timer", 16⟩, ⟨ "fast", 4, 3, false, "", "woodgrain/timer", 24⟩, ⟨ "flag", 4, 4, false, "", "woodgrain/timer", 25⟩]), 5, 32, [.int .u8 0, .int .i64 0, .int .i64 0, .bool false, .bool false], true⟩,
  none,
  none,
  some ⟨(.struct #[⟨ "ram", 70, 0, false, "", "woodgrain/riot", 0⟩]), 128, 128, (List.replicate 128 (.int .u8 0)), true⟩,
  some ⟨(.array 2 23), 2, 16, [.pointer none, .pointer none], true⟩,
  none,
  some ⟨(.struct #[⟨ "memory", 107, 0, true, "", "woodgrain/riot", 0⟩, ⟨ "ports", 108, 128, false, "", "woodgrain/riot", 128⟩, ⟨ "clock", 53, 130, false, "", "woodgrain/riot", 144⟩, ⟨ "edge", 29, 131, false, "", "woodgrain/riot", 152⟩]), 132, 160, (List.replicate 128 (.int .u8 0) ++ [.pointer none, .pointer none, .pointer none, .pointer none]), true⟩,
  none,
  none,
  none,
  none,
  none,
  none,
  none,
  none,
  none,
  some ⟨(.array 4 37), 4, 32, [.int .i64 0, .int .i64 0, .int .i64 0, .int .i64 0], true⟩]

theorem tabOk : TabOk Try.prog T :=
  TabOk.of (by kernel_rfl) ⟨trivial,
    trivial,
    trivial,
    ⟨by kernel_rfl, ⟨Try.t3, .int .i64 0, by kernel_rfl, by kernel_rfl, by kernel_rfl, by kernel_rfl, by kernel_rfl⟩, by kernel_rfl, (fun h => (by cases h)), (fun fs h => (by cases h))⟩,
    ⟨by kernel_rfl, ⟨Try.t4, .bool false, by kernel_rfl, by kernel_rfl, by kernel_rfl, by kernel_rfl, by kernel_rfl⟩, by kernel_rfl, (fun h => (by cases h)), (fun fs h => (by cases h))⟩,
    ⟨by kernel_rfl, ⟨Try.t5, .int .u8 0, by kernel_rfl, by kernel_rfl, by kernel_rfl, by kernel_rfl, by kernel_rfl⟩, by kernel_rfl, (fun h => (by cases h)), (fun fs h => (by cases h))⟩,
    trivial,
    trivial,
    trivial,
    trivial,
    trivial,
    trivial,
    trivial,
    trivial,
    trivial,
    trivial,
    trivial,
    trivial,
    trivial,
    trivial,
    trivial,
    trivial,
    ⟨by kernel_rfl, ⟨Try.t22, .agg #[.int .u8 0, .int .u8 0, .int .u8 0, .int .u8 0], by kernel_rfl, by kernel_rfl, by kernel_rfl, by kernel_rfl, by kernel_rfl⟩, by kernel_rfl, (fun _ => ⟨by kernel_rfl, by kernel_rfl⟩), (fun fs h => (by cases h))⟩,
    ⟨by kernel_rfl, ⟨Try.t23, .pointer none, by kernel_rfl, by kernel_rfl, by kernel_rfl, by kernel_rfl, by kernel_rfl⟩, by kernel_rfl, (fun h => (by cases h)), (fun fs h => (by cases h))⟩,
    trivial,
    trivial,
    trivial,
    trivial,
    trivial,
    ⟨by kernel_rfl, ⟨Try.t29, .pointer none, by kernel_rfl, by kernel_rfl, by kernel_rfl, by kernel_rfl, by kernel_rfl⟩, by kernel_rfl, (fun h => (by cases h)), (fun fs h => (by cases h))⟩,
    trivial,
    trivial,
    trivial,
    ⟨by kernel_rfl, ⟨Try.t33, .slice none 0 0, by kernel_rfl, by kernel_rfl, by kernel_rfl, by kernel_rfl, by kernel_rfl⟩, by kernel_rfl, (fun h => (by cases h)), (fun fs h => (by cases h))⟩,
    ⟨by kernel_rfl, ⟨Try.t34, .agg #[.int .i64 0, .int .i64 0, .int .i64 0], by kernel_rfl, by kernel_rfl, by kernel_rfl, by kernel_rfl, by kernel_rfl⟩, by kernel_rfl, (fun _ => ⟨by kernel_rfl, by kernel_rfl⟩), (fun fs h => (by cases h))⟩,
    trivial,
    ⟨by kernel_rfl, ⟨Try.t36, .agg #[.int .i64 0, .int .u8 0, .int .i64 0, .int .i64 0, .int .i64 0], by kernel_rfl, by kernel_rfl, by kernel_rfl, by kernel_rfl, by kernel_rfl⟩, by kernel_rfl, (fun _ => ⟨by kernel_rfl, by kernel_rfl⟩), (fun fs h => (by cases h; exact flds_of (by kernel_rfl)))⟩,
    ⟨by kernel_rfl, ⟨Try.t37, .int .i64 0, by kernel_rfl, by kernel_rfl, by kernel_rfl, by kernel_rfl, by kernel_rfl⟩, by kernel_rfl, (fun h => (by cases h)), (fun fs h => (by cases h))⟩,
    trivial,
    trivial,
    trivial,
    trivial,
    trivial,
    ⟨by kernel_rfl, ⟨Try.t43, .slice none 0 0, by kernel_rfl, by kernel_rfl, by kernel_rfl, by kernel_rfl, by kernel_rfl⟩, by kernel_rfl, (fun h => (by cases h)), (fun fs h => (by cases h))⟩,
    trivial,
    ⟨by kernel_rfl, ⟨Try.t45, .agg #[.bool false, .bool false, .bool false], by kernel_rfl, by kernel_rfl, by kernel_rfl, by kernel_rfl, by kernel_rfl⟩, by kernel_rfl, (fun _ => ⟨by kernel_rfl, by kernel_rfl⟩), (fun fs h => (by cases h; exact flds_of (by kernel_rfl)))⟩,
    trivial,
    ⟨by kernel_rfl, ⟨Try.t47, .agg #[.int .i64 0, .bool false, .int .i64 0, .int .i64 0, .int .i64 0], by kernel_rfl, by kernel_rfl, by kernel_rfl, by kernel_rfl, by kernel_rfl⟩, by kernel_rfl, (fun _ => ⟨by kernel_rfl, by kernel_rfl⟩), (fun fs h => (by cases h; exact flds_of (by kernel_rfl)))⟩,
    trivial,
    trivial,
    trivial,
    trivial,
    ⟨by kernel_rfl, ⟨Try.t52, .int .u16 0, by kernel_rfl, by kernel_rfl, by kernel_rfl, by kernel_rfl, by kernel_rfl⟩, by kernel_rfl, (fun h => (by cases h)), (fun fs h => (by cases h))⟩,
    ⟨by kernel_rfl, ⟨Try.t53, .pointer none, by kernel_rfl, by kernel_rfl, by kernel_rfl, by kernel_rfl, by kernel_rfl⟩, by kernel_rfl, (fun h => (by cases h)), (fun fs h => (by cases h))⟩,
    trivial,
    trivial,
    ⟨by kernel_rfl, ⟨Try.t56, .agg #[.int .i64 0, .int .i64 0, .int .i64 0, .int .i64 0], by kernel_rfl, by kernel_rfl, by kernel_rfl, by kernel_rfl, by kernel_rfl⟩, by kernel_rfl, (fun _ => ⟨by kernel_rfl, by kernel_rfl⟩), (fun fs h => (by cases h))⟩,
    trivial,
    trivial,
    ⟨by kernel_rfl, ⟨Try.t59, .slice none 0 0, by kernel_rfl, by kernel_rfl, by kernel_rfl, by kernel_rfl, by kernel_rfl⟩, by kernel_rfl, (fun h => (by cases h)), (fun fs h => (by cases h))⟩,
    ⟨by kernel_rfl, ⟨Try.t60, .agg #[.int .i64 0, .int .i64 0, .int .i64 0, .int .i64 0, .int .i64 0], by kernel_rfl, by kernel_rfl, by kernel_rfl, by kernel_rfl, by kernel_rfl⟩, by kernel_rfl, (fun _ => ⟨by kernel_rfl, by kernel_rfl⟩), (fun fs h => (by cases h))⟩,
    trivial,
    ⟨by kernel_rfl, ⟨Try.t62, .agg #[.int .i64 0, .int .u16 0, .int .u8 0, .int .i64 0, .int .i64 0, .int .i64 0, .int .i64 0, .int .i64 0, .int .i64 0], by kernel_rfl, by kernel_rfl, by kernel_rfl, by kernel_rfl, by kernel_rfl⟩, by kernel_rfl, (fun _ => ⟨by kernel_rfl, by kernel_rfl⟩), (fun fs h => (by cases h; exact flds_of (by kernel_rfl)))⟩,
    trivial,
    trivial,
    trivial,
    trivial,
    ⟨by kernel_rfl, ⟨Try.t67, .slice none 0 0, by kernel_rfl, by kernel_rfl, by kernel_rfl, by kernel_rfl, by kernel_rfl⟩, by kernel_rfl, (fun h => (by cases h)), (fun fs h => (by cases h))⟩,
    ⟨by kernel_rfl, ⟨Try.t68, .pointer none, by kernel_rfl, by kernel_rfl, by kernel_rfl, by kernel_rfl, by kernel_rfl⟩, by kernel_rfl, (fun h => (by cases h)), (fun fs h => (by cases h))⟩,
    trivial,
    ⟨by kernel_rfl, ⟨Try.t70, .agg #[.int .u8 0, .int .u8 0, .int .u8 0, .int .u8 0, .int .u8 0, .int .u8 0, .int .u8 0, .int .u8 0, .int .u8 0, .int .u8 0, .int .u8 0, .int .u8 0, .int .u8 0, .int .u8 0, .int .u8 0, .int .u8 0, .int .u8 0, .int .u8 0, .int .u8 0, .int .u8 0, .int .u8 0, .int .u8 0, .int .u8 0, .int .u8 0, .int .u8 0, .int .u8 0, .int .u8 0, .int .u8 0, .int .u8 0, .int .u8 0, .int .u8 0, .int .u8 0, .int .u8 0, .int .u8 0, .int .u8 0, .int .u8 0, .int .u8 0, .int .u8 0, .int .u8 0, .int .u8 0, .int .u8 0, .int .u8 0, .int .u8 0, .int .u8 0, .int .u8 0, .int .u8 0, .int .u8 0, .int .u8 0, .int .u8 0, .int .u8 0, .int .u8 0, .int .u8 0, .int .u8 0, .int .u8 0, .int .u8 0, .int .u8 0, .int .u8 0, .int .u8 0, .int .u8 0, .int .u8 0, .int .u8 0, .int .u8 0, .int .u8 0, .int .u8 0, .int .u8 0, .int .u8 0, .int .u8 0, .int .u8 0, .int .u8 0, .int .u8 0, .int .u8 0, .int .u8 0, .int .u8 0, .int .u8 0, .int .u8 0, .int .u8 0, .int .u8 0, .int .u8 0, .int .u8 0, .int .u8 0, .int .u8 0, .int .u8 0, .int .u8 0, .int .u8 0, .int .u8 0, .int .u8 0, .int .u8 0, .int .u8 0, .int .u8 0, .int .u8 0, .int .u8 0, .int .u8 0, .int .u8 0, .int .u8 0, .int .u8 0, .int .u8 0, .int .u8 0, .int .u8 0, .int .u8 0, .int .u8 0, .int .u8 0, .int .u8 0, .int .u8 0, .int .u8 0, .int .u8 0, .int .u8 0, .int .u8 0, .int .u8 0, .int .u8 0, .int .u8 0, .int .u8 0, .int .u8 0, .int .u8 0, .int .u8 0, .int .u8 0, .int .u8 0, .int .u8 0, .int .u8 0, .int .u8 0, .int .u8 0, .int .u8 0, .int .u8 0, .int .u8 0, .int .u8 0, .int .u8 0, .int .u8 0, .int .u8 0, .int .u8 0], by kernel_rfl, by kernel_rfl, by kernel_rfl, by kernel_rfl, by kernel_rfl⟩, by kernel_rfl, (fun _ => ⟨by kernel_rfl, by kernel_rfl⟩), (fun fs h => (by cases h))⟩,
    trivial,
    ⟨by kernel_rfl, ⟨Try.t72, .agg #[.int .i64 0, .int .u16 0, .int .u16 0, .int .u8 0, .int .u8 0], by kernel_rfl, by kernel_rfl, by kernel_rfl, by kernel_rfl, by kernel_rfl⟩, by kernel_rfl, (fun _ => ⟨by kernel_rfl, by kernel_rfl⟩), (fun fs h => (by cases h; exact flds_of (by kernel_rfl)))⟩,
    ⟨by kernel_rfl, ⟨Try.t73, .int .u64 0, by kernel_rfl, by kernel_rfl, by kernel_rfl, by kernel_rfl, by kernel_rfl⟩, by kernel_rfl, (fun h => (by cases h)), (fun fs h => (by cases h))⟩,
    trivial,
    trivial,
    ⟨by kernel_rfl, ⟨Try.t76, .slice none 0 0, by kernel_rfl, by kernel_rfl, by kernel_rfl, by kernel_rfl, by kernel_rfl⟩, by kernel_rfl, (fun h => (by cases h)), (fun fs h => (by cases h))⟩,
    trivial,
    trivial,
    trivial,
    ⟨by kernel_rfl, ⟨Try.t80, .agg #[.int .i64 0, .int .i64 0, .int .i64 0, .int .i64 0, .bool false, .bool false], by kernel_rfl, by kernel_rfl, by kernel_rfl, by kernel_rfl, by kernel_rfl⟩, by kernel_rfl, (fun _ => ⟨by kernel_rfl, by kernel_rfl⟩), (fun fs h => (by cases h; exact flds_of (by kernel_rfl)))⟩,
    trivial,
    ⟨by kernel_rfl, ⟨Try.t82, .agg #[.int .u8 0, .int .u8 0, .int .u8 0, .int .u8 0, .int .u8 0, .int .u8 0, .int .u8 0, .int .u8 0, .int .u8 0, .int .u8 0, .int .u8 0, .int .u8 0, .int .u8 0, .int .u8 0, .int .u8 0, .int .u8 0, .int .u8 0, .int .u8 0, .int .u8 0, .int .u8 0, .int .u8 0, .int .u8 0, .int .u8 0, .int .u8 0, .int .u8 0, .int .u8 0, .int .u8 0, .int .u8 0, .int .u8 0, .int .u8 0, .int .u8 0, .int .u8 0, .int .u8 0, .int .u8 0, .int .u8 0, .int .u8 0, .int .u8 0, .int .u8 0, .int .u8 0, .int .u8 0, .int .u8 0, .int .u8 0, .int .u8 0, .int .u8 0, .int .u8 0, .int .u8 0, .int .u8 0, .int .u8 0, .int .u8 0, .int .u8 0, .int .u8 0, .int .u8 0, .int .u8 0, .int .u8 0, .int .u8 0, .int .u8 0, .int .u8 0, .int .u8 0, .int .u8 0, .int .u8 0, .int .u8 0, .int .u8 0, .int .u8 0, .int .u8 0, .int .u8 0, .int .u8 0, .int .u8 0, .int .u8 0, .int .u8 0, .int .u8 0, .int .u8 0, .int .u8 0, .int .u8 0, .int .u8 0, .int .u8 0, .int .u8 0, .int .u8 0, .int .u8 0, .int .u8 0, .int .u8 0, .int .u8 0, .int .u8 0, .int .u8 0, .int .u8 0, .int .u8 0, .int .u8 0, .int .u8 0, .int .u8 0, .int .u8 0, .int .u8 0, .int .u8 0, .int .u8 0, .int .u8 0, .int .u8 0, .int .u8 0, .int .u8 0, .int .u8 0, .int .u8 0, .int .u8 0, .int .u8 0, .int .u8 0, .int .u8 0, .int .u8 0, .int .u8 0, .int .u8 0, .int .u8 0, .int .u8 0, .int .u8 0, .int .u8 0, .int .u8 0, .int .u8 0, .int .u8 0, .int .u8 0, .int .u8 0, .int .u8 0, .int .u8 0, .int .u8 0, .int .u8 0, .int .u8 0, .int .u8 0, .int .u8 0, .int .u8 0, .int .u8 0, .int .u8 0, .int .u8 0, .int .u8 0, .int .u8 0, .int .u8 0, .int .i64 0, .int .i64 0, .int .i64 0, .int .i64 0, .int .i64 0, .int .i64 0, .int .i64 0, .int .i64 0, .int .i64 0, .int .i64 0, .bool false, .bool false, .bool false, .bool false, .bool false], by kernel_rfl, by kernel_rfl, by kernel_rfl, by kernel_rfl, by kernel_rfl⟩, by kernel_rfl, (fun _ => ⟨by kernel_rfl, by kernel_rfl⟩), (fun fs h => (by cases h; exact flds_of (by kernel_rfl)))⟩,
    trivial,
    trivial,
    trivial,
    trivial,
    trivial,
    trivial,
    trivial,
    trivial,
    trivial,
    trivial,
    trivial,
    trivial,
    trivial,
    trivial,
    ⟨by kernel_rfl, ⟨Try.t97, .agg #[.int .u8 0, .int .u8 0, .int .u8 0], by kernel_rfl, by kernel_rfl, by kernel_rfl, by kernel_rfl, by kernel_rfl⟩, by kernel_rfl, (fun _ => ⟨by kernel_rfl, by kernel_rfl⟩), (fun fs h => (by cases h; exact flds_of (by kernel_rfl)))⟩,
    trivial,
    ⟨by kernel_rfl, ⟨Try.t99, .agg #[.bool false, .bool false, .bool false], by kernel_rfl, by kernel_rfl, by kernel_rfl, by kernel_rfl, by kernel_rfl⟩, by kernel_rfl, (fun _ => ⟨by kernel_rfl, by kernel_rfl⟩), (fun fs h => (by cases h; exact flds_of (by kernel_rfl)))⟩,
    trivial,
    ⟨by kernel_rfl, ⟨Try.t101, .nilFunc, by kernel_rfl, by kernel_rfl, by kernel_rfl, by kernel_rfl, by kernel_rfl⟩, by kernel_rfl, (fun h => (by cases h)), (fun fs h => (by cases h))⟩,
    trivial,
    trivial,
    ⟨by kernel_rfl, ⟨Try.t104, .agg #[.int .u8 0, .int .i64 0, .int .i64 0, .bool false, .bool false], by kernel_rfl, by kernel_rfl, by kernel_rfl, by kernel_rfl, by kernel_rfl⟩, by kernel_rfl, (fun _ => ⟨by kernel_rfl, by kernel_rfl⟩), (fun fs h => (by cases h; exact flds_of (by kernel_rfl)))⟩,
    trivial,
    trivial,
    ⟨by kernel_rfl, ⟨Try.t107, .agg #[.int .u8 0, .int .u8 0, .int .u8 0, .int .u8 0, .int .u8 0, .int .u8 0, .int .u8 0, .int .u8 0, .int .u8 0, .int .u8 0, .int .u8 0, .int .u8 0, .int .u8 0, .int .u8 0, .int .u8 0, .int .u8 0, .int .u8 0, .int .u8 0, .int .u8 0, .int .u8 0, .int .u8 0, .int .u8 0, .int .u8 0, .int .u8 0, .int .u8 0, .int .u8 0, .int .u8 0, .int .u8 0, .int .u8 0, .int .u8 0, .int .u8 0, .int .u8 0, .int .u8 0, .int .u8 0, .int .u8 0, .int .u8 0, .int .u8 0, .int .u8 0, .int .u8 0, .int .u8 0, .int .u8 0, .int .u8 0, .int .u8 0, .int .u8 0, .int .u8 0, .int .u8 0, .int .u8 0, .int .u8 0, .int .u8 0, .int .u8 0, .int .u8 0, .int .u8 0, .int .u8 0, .int .u8 0, .int .u8 0, .int .u8 0, .int .u8 0, .int .u8 0, .int .u8 0, .int .u8 0, .int .u8 0, .int .u8 0, .int .u8 0, .int .u8 0, .int .u8 0, .int .u8 0, .int .u8 0, .int .u8 0, .int .u8 0, .int .u8 0, .int .u8 0, .int .u8 0, .int .u8 0, .int .u8 0, .int .u8 0, .int .u8 0, .int .u8 0, .int .u8 0, .int .u8 0, .int .u8 0, .int .u8 0, .int .u8 0, .int .u8 0, .int .u8 0, .int .u8 0, .int .u8 0, .int .u8 0, .int .u8 0, .int .u8 0, .int .u8 0, .int .u8 0, .int .u8 0, .int .u8 0, .int .u8 0, .int .u8 0, .int .u8 0, .int .u8 0, .int .u8 0, .int .u8 0, .int .u8 0, .int .u8 0, .int .u8 0, .int .u8 0, .int .u8 0, .int .u8 0, .int .u8 0, .int .u8 0, .int .u8 0, .int .u8 0, .int .u8 0, .int .u8 0, .int .u8 0, .int .u8 0, .int .u8 0, .int .u8 0, .int .u8 0, .int .u8 0, .int .u8 0, .int .u8 0, .int .u8 0, .int .u8 0, .int .u8 0, .int .u8 0, .int .u8 0, .int .u8 0, .int .u8 0, .int .u8 0, .int .u8 0], by kernel_rfl, by kernel_rfl, by kernel_rfl, by kernel_rfl, by kernel_rfl⟩, by kernel_rfl, (fun _ => ⟨by kernel_rfl, by kernel_rfl⟩), (fun fs h => (by cases h; exact flds_of (by kernel_rfl)))⟩,
    ⟨by kernel_rfl, ⟨Try.t108, .agg #[.pointer none, .pointer none], by kernel_rfl, by kernel_rfl, by kernel_rfl, by kernel_rfl, by kernel_rfl⟩, by kernel_rfl, (fun _ => ⟨by kernel_rfl, by kernel_rfl⟩), (fun fs h => (by cases h))⟩,
    trivial,
    ⟨by kernel_rfl, ⟨Try.t110, .agg #[.int .u8 0, .int .u8 0, .int .u8 0, .int .u8 0, .int .u8 0, .int .u8 0, .int .u8 0, .int .u8 0, .int .u8 0, .int .u8 0, .int .u8 0, .int .u8 0, .int .u8 0, .int .u8 0, .int .u8 0, .int .u8 0, .int .u8 0, .int .u8 0, .int .u8 0, .int .u8 0, .int .u8 0, .int .u8 0, .int .u8 0, .int .u8 0, .int .u8 0, .int .u8 0, .int .u8 0, .int .u8 0, .int .u8 0, .int .u8 0, .int .u8 0, .int .u8 0, .int .u8 0, .int .u8 0, .int .u8 0, .int .u8 0, .int .u8 0, .int .u8 0, .int .u8 0, .int .u8 0, .int .u8 0, .int .u8 0, .int .u8 0, .int .u8 0, .int .u8 0, .int .u8 0, .int .u8 0, .int .u8 0, .int .u8 0, .int .u8 0, .int .u8 0, .int .u8 0, .int .u8 0, .int .u8 0, .int .u8 0, .int .u8 0, .int .u8 0, .int .u8 0, .int .u8 0, .int .u8 0, .int .u8 0, .int .u8 0, .int .u8 0, .int .u8 0, .int .u8 0, .int .u8 0, .int .u8 0, .int .u8 0, .int .u8 0, .int .u8 0, .int .u8 0, .int .u8 0, .int .u8 0, .int .u8 0, .int .u8 0, .int .u8 0, .int .u8 0, .int .u8 0, .int .u8 0, .int .u8 0, .int .u8 0, .int .u8 0, .int .u8 0, .int .u8 0, .int .u8 0, .int .u8 0, .int .u8 0, .int .u8 0, .int .u8 0, .int .u8 0, .int .u8 0, .int .u8 0, .int .u8 0, .int .u8 0, .int .u8 0, .int .u8 0, .int .u8 0, .int .u8 0, .int .u8 0, .int .u8 0, .int .u8 0, .int .u8 0, .int .u8 0, .int .u8 0, .int .u8 0, .int .u8 0, .int .u8 0, .int .u8 0, .int .u8 0, .int .u8 0, .int .u8 0, .int .u8 0, .int .u8 0, .int .u8 0, .int .u8 0, .int .u8 0, .int .u8 0, .int .u8 0, .int .u8 0, .int .u8 0, .int .u8 0, .int .u8 0, .int .u8 0, .int .u8 0, .int .u8 0, .int .u8 0, .int .u8 0, .int .u8 0, .pointer none, .pointer none, .pointer none, .pointer none], by kernel_rfl, by kernel_rfl, by kernel_rfl, by kernel_rfl, by kernel_rfl⟩, by kernel_rfl, (fun _ => ⟨by kernel_rfl, by kernel_rfl⟩), (fun fs h => (by cases h; exact flds_of (by kernel_rfl)))⟩,
    trivial,
    trivial,
    trivial,
    trivial,
    trivial,
    trivial,
    trivial,
    trivial,
    trivial,
    ⟨by kernel_rfl, ⟨Try.t120, .agg #[.int .i64 0, .int .i64 0, .int .i64 0, .int .i64 0], by kernel_rfl, by kernel_rfl, by kernel_rfl, by kernel_rfl, by kernel_rfl⟩, by kernel_rfl, (fun _ => ⟨by kernel_rfl, by kernel_rfl⟩), (fun fs h => (by cases h))⟩, trivial⟩

def h2 : Hints := []
theorem ok2 : codeOk T h2 (bodyOf Try.f2) = true := by kernel_rfl
def h3 : Hints := [(1, [(0, []), (1, []), (3, []), (4, []), (2, [4]), (5, []), (6, []), (7, [])]), (6, [(0, []), (2, []), (3, []), (5, []), (7, []), (8, []), (1, [3, 8]), (4, []), (6, [3, 8]), (9, []), (10, []), (11, []), (12, []), (14, []), (15, []), (17, []), (18, []), (19, []), (20, []), (21, []), (13, [3, 8, 15, 18, 20]), (16, []), (22, []), (23, [])]), (10, [(0, []), (1, []), (2, []), (3, []), (4, []), (6, []), (7, []), (5, [2, 7]), (8, []), (9, []), (10, []), (11, []), (12, []), (13, []), (14, []), (15, []), (16, []), (17, []), (18, []), (19, []), (20, []), (21, []), (22, []), (23, [2, 7, 13, 16, 18]), (24, []), (25, [])])]
theorem ok3 : codeOk T h3 (bodyOf Try.f3) = true := by kernel_rfl
def h4 : Hints := []
theorem ok4 : codeOk T h4 (bodyOf Try.f4) = true := by kernel_rfl
def h5 : Hints := [(24, [(0, []), (3, []), (4, []), (5, []), (6, []), (7, []), (8, []), (1, [4, 6, 8]), (2, []), (9, [2]), (10, []), (11, []), (12, []), (15, []), (16, []), (13, [16]), (14, []), (17, []), (18, []), (19, []), (20, []), (22, []), (21, [16, 14, 22]), (23, []), (24, [])])]
theorem ok5 : codeOk T h5 (bodyOf Try.f5) = true := by kernel_rfl
def h6 : Hints := [(15, [(0, []), (2, []), (3, []), (1, [3]), (4, [])]), (21, [(0, []), (1, []), (2, []), (3, []), (4, []), (5, []), (6, []), (7, []), (8, []), (9, []), (10, []), (11, []), (12, []), (13, []), (14, []), (15, []), (16, []), (17, []), (18, []), (19, []), (20, []), (21, []), (22, [])]), (10, [(0, []), (1, []), (2, []), (3, []), (4, []), (5, []), (6, []), (7, [])]), (24, [(0, []), (2, []), (3, []), (1, [3]), (4, []), (5, []), (6, []), (8, []), (7, [8]), (9, []), (10, []), (11, [])])]
theorem ok6 : codeOk T h6 (bodyOf Try.f6) = true := by kernel_rfl
def h7 : Hints := []
theorem ok7 : codeOk T h7 (bodyOf Try.f7) = true := by kernel_rfl
def h8 : Hints := []
theorem ok8 : codeOk T h8 (bodyOf Try.f8) = true := by kernel_rfl
def h9 : Hints := [(13, [(0, []), (1, []), (2, []), (3, []), (4, []), (5, []), (6, []), (7, []), (8, []), (9, []), (10, []), (11, [])]), (20, [(0, []), (2, []), (1, []), (3, []), (4, []), (5, []), (6, []), (8, []), (7, []), (9, []), (10, []), (11, []), (12, []), (13, []), (15, []), (14, [15]), (16, []), (17, []), (18, []), (19, [15]), (20, []), (21, [])])]
theorem ok9 : codeOk T h9 (bodyOf Try.f9) = true := by kernel_rfl
def h10 : Hints := []
theorem ok10 : codeOk T h10 (bodyOf Try.f10) = true := by kernel_rfl
def h11 : Hints := [(9, [(0, []), (1, []), (2, []), (3, []), (4, []), (6, []), (7, []), (5, [7]), (8, []), (9, [])])]
theorem ok11 : codeOk T h11 (bodyOf Try.f11) = true := by kernel_rfl
def h12 : Hints := [(3, [(0, []), (2, []), (1, [2]), (3, []), (4, []), (5, []), (6, [])]), (7, [(0, []), (1, []), (2, []), (3, []), (4, []), (5, []), (6, []), (7, []), (8, []), (9, []), (10, []), (11, []), (12, [])]), (9, [(0, []), (1, []), (2, []), (3, []), (5, []), (6, []), (4, [6]), (7, []), (8, []), (9, []), (10, []), (12, []), (11, [6, 12]), (13, [6]), (14, [6]), (15, []), (16, []), (17, []), (18, []), (21, []), (19, [6, 21]), (20, []), (22, [6, 20]), (23, []), (24, []), (25, []), (26, [])])]
theorem ok12 : codeOk T h12 (bodyOf Try.f12) = true := by kernel_rfl
def h13 : Hints := []
theorem ok13 : codeOk T h13 (bodyOf Try.f13) = true := by kernel_rfl
def h14 : Hints := []
theorem ok14 : codeOk T h14 (bodyOf Try.f14) = true := by kernel_rfl
def h15 : Hints := []
theorem ok15 : codeOk T h15 (bodyOf Try.f15) = true := by kernel_rfl
def h16 : Hints := []
theorem ok16 : codeOk T h16 (bodyOf Try.f16) = true := by kernel_rfl
def h17 : Hints := []
theorem ok17 : codeOk T h17 (bodyOf Try.f17) = true := by kernel_rfl
def h18 : Hints := [(3, [(0, []), (1, []), (2, []), (3, []), (4, []), (5, []), (6, []), (7, []), (8, []), (9, []), (10, []), (11, []), (12, []), (13, []), (14, []), (15, []), (16, []), (17, []), (18, []), (19, [])])]
theorem ok18 : codeOk T h18 (bodyOf Try.f18) = true := by kernel_rfl
def h19 : Hints := []
theorem ok19 : codeOk T h19 (bodyOf Try.f19) = true := by kernel_rfl
def h20 : Hints := []
theorem ok20 : codeOk T h20 (bodyOf Try.f20) = true := by kernel_rfl
def h21 : Hints := []
theorem ok21 : codeOk T h21 (bodyOf Try.f21) = true := by kernel_rfl
def h22 : Hints := []
theorem ok22 : codeOk T h22 (bodyOf Try.f22) = true := by kernel_rfl
def h23 : Hints := []
theorem ok23 : codeOk T h23 (bodyOf Try.f23) = true := by kernel_rfl
def h24 : Hints := []
theorem ok24 : codeOk T h24 (bodyOf Try.f24) = true := by kernel_rfl
def h25 : Hints := []
theorem ok25 : codeOk T h25 (bodyOf Try.f25) = true := by kernel_rfl
def h26 : Hints := []
theorem ok26 : codeOk T h26 (bodyOf Try.f26) = true := by kernel_rfl
def h27 : Hints := []
theorem ok27 : codeOk T h27 (bodyOf Try.f27) = true := by kernel_rfl
def h28 : Hints := []
theorem ok28 : codeOk T h28 (bodyOf Try.f28) = true := by kernel_rfl
def h29 : Hints := []
theorem ok29 : codeOk T h29 (bodyOf Try.f29) = true := by kernel_rfl
def h30 : Hints := [(3, [(0, []), (1, []), (2, []), (3, []), (4, []), (5, []), (6, []), (7, []), (8, []), (9, []), (10, []), (11, []), (12, []), (13, []), (14, []), (15, []), (16, [])])]
theorem ok30 : codeOk T h30 (bodyOf Try.f30) = true := by kernel_rfl
def h31 : Hints := []
theorem ok31 : codeOk T h31 (bodyOf Try.f31) = true := by kernel_rfl
def h32 : Hints := []
theorem ok32 : codeOk T h32 (bodyOf Try.f32) = true := by kernel_rfl
def h33 : Hints := []
theorem ok33 : codeOk T h33 (bodyOf Try.f33) = true := by kernel_rfl
def h34 : Hints := [(3, [(0, []), (1, []), (2, []), (3, []), (5, []), (6, []), (7, []), (8, []), (10, []), (11, []), (12, []), (13, []), (4, [8, 13]), (9, [13]), (14, []), (15, []), (16, [])])]
theorem ok34 : codeOk T h34 (bodyOf Try.f34) = true := by kernel_rfl
def h35 : Hints := []
theorem ok35 : codeOk T h35 (bodyOf Try.f35) = true := by kernel_rfl
def h36 : Hints := []
theorem ok36 : codeOk T h36 (bodyOf Try.f36) = true := by kernel_rfl
def h37 : Hints := []
theorem ok37 : codeOk T h37 (bodyOf Try.f37) = true := by kernel_rfl
def h38 : Hints := []
theorem ok38 : codeOk T h38 (bodyOf Try.f38) = true := by kernel_rfl
def h39 : Hints := []
theorem ok39 : codeOk T h39 (bodyOf Try.f39) = true := by kernel_rfl
def h40 : Hints := []
theorem ok40 : codeOk T h40 (bodyOf Try.f40) = true := by kernel_rfl
def h41 : Hints := []
theorem ok41 : codeOk T h41 (bodyOf Try.f41) = true := by kernel_rfl
def h42 : Hints := []
theorem ok42 : codeOk T h42 (bodyOf Try.f42) = true := by kernel_rfl
def h43 : Hints := []
theorem ok43 : codeOk T h43 (bodyOf Try.f43) = true := by kernel_rfl
def h44 : Hints := []
theorem ok44 : codeOk T h44 (bodyOf Try.f44) = true := by kernel_rfl
def h45 : Hints := [(3, [(0, []), (1, []), (2, []), (3, []), (4, []), (5, []), (6, []), (7, []), (8, []), (9, []), (10, []), (11, []), (12, []), (13, []), (14, []), (15, []), (16, []), (18, []), (19, []), (20, []), (21, []), (17, [3, 4, 8, 12, 21]), (22, [3, 4, 8, 12]), (23, []), (24, [])])]
theorem ok45 : codeOk T h45 (bodyOf Try.f45) = true := by kernel_rfl
def h46 : Hints := []
theorem ok46 : codeOk T h46 (bodyOf Try.f46) = true := by kernel_rfl
def h47 : Hints := []
theorem ok47 : codeOk T h47 (bodyOf Try.f47) = true := by kernel_rfl
def h48 : Hints := [(1, [(0, []), (1, []), (2, [0]), (3, [0]), (4, []), (5, [0]), (6, [0]), (7, []), (8, []), (9, [])])]
theorem ok48 : codeOk T h48 (bodyOf Try.f48) = true := by kernel_rfl
def h49 : Hints := []
theorem ok49 : codeOk T h49 (bodyOf Try.f49) = true := by kernel_rfl
def h50 : Hints := [(6, [(0, []), (1, []), (2, []), (3, []), (4, []), (5, []), (6, []), (7, []), (8, [])])]
theorem ok50 : codeOk T h50 (bodyOf Try.f50) = true := by kernel_rfl
def h51 : Hints := [(9, [(0, []), (1, []), (2, []), (3, []), (4, []), (6, []), (7, []), (8, []), (9, []), (10, []), (12, []), (13, []), (14, []), (15, []), (17, []), (18, []), (19, []), (20, []), (5, [10, 15, 20]), (11, [15, 20]), (16, [20]), (21, []), (22, []), (23, []), (24, []), (25, []), (26, []), (27, []), (28, []), (29, [])]), (10, [(0, []), (1, []), (3, []), (2, []), (4, []), (5, [])]), (11, [(0, []), (1, []), (3, []), (2, []), (4, []), (5, [])])]
theorem ok51 : codeOk T h51 (bodyOf Try.f51) = true := by kernel_rfl
def h52 : Hints := []
theorem ok52 : codeOk T h52 (bodyOf Try.f52) = true := by kernel_rfl
def h53 : Hints := [(1, [(0, []), (1, []), (2, []), (4, []), (3, [0]), (5, []), (6, [])])]
theorem ok53 : codeOk T h53 (bodyOf Try.f53) = true := by kernel_rfl
def h54 : Hints := [(3, [(0, []), (1, []), (2, []), (3, []), (4, []), (5, []), (6, []), (7, []), (9, []), (8, [4, 5]), (10, []), (11, [])])]
theorem ok54 : codeOk T h54 (bodyOf Try.f54) = true := by kernel_rfl
def h55 : Hints := []
theorem ok55 : codeOk T h55 (bodyOf Try.f55) = true := by kernel_rfl
def h56 : Hints := [(6, [(0, []), (1, []), (3, []), (4, []), (2, [4]), (5, []), (6, []), (7, []), (8, []), (9, [])])]
theorem ok56 : codeOk T h56 (bodyOf Try.f56) = true := by kernel_rfl
def h57 : Hints := []
theorem ok57 : codeOk T h57 (bodyOf Try.f57) = true := by kernel_rfl
def h58 : Hints := []
theorem ok58 : codeOk T h58 (bodyOf Try.f58) = true := by kernel_rfl
def h59 : Hints := [(2, [(0, []), (1, []), (2, []), (3, []), (4, []), (5, []), (6, []), (7, []), (8, []), (9, [3]), (10, []), (11, []), (12, [])])]
theorem ok59 : codeOk T h59 (bodyOf Try.f59) = true := by kernel_rfl
def h60 : Hints := []
theorem ok60 : codeOk T h60 (bodyOf Try.f60) = true := by kernel_rfl
def h61 : Hints := []
theorem ok61 : codeOk T h61 (bodyOf Try.f61) = true := by kernel_rfl
def h62 : Hints := []
theorem ok62 : codeOk T h62 (bodyOf Try.f62) = true := by kernel_rfl
def h63 : Hints := [(9, [(0, []), (1, []), (2, []), (3, []), (4, []), (5, []), (6, []), (7, []), (8, []), (9, []), (10, []), (11, [])]), (12, [(0, []), (1, []), (2, []), (3, []), (4, []), (5, []), (6, []), (7, []), (8, []), (10, []), (11, []), (12, []), (13, []), (14, []), (15, []), (16, []), (17, []), (18, []), (20, []), (21, []), (22, []), (23, []), (24, []), (25, []), (26, []), (27, []), (29, []), (30, []), (31, []), (32, []), (33, []), (34, []), (35, []), (36, []), (39, []), (9, [14, 18, 23, 27, 32, 36]), (19, [23, 27, 32, 36]), (28, [32, 36]), (37, []), (38, [])])]
theorem ok63 : codeOk T h63 (bodyOf Try.f63) = true := by kernel_rfl
def h64 : Hints := []
theorem ok64 : codeOk T h64 (bodyOf Try.f64) = true := by kernel_rfl
def h65 : Hints := []
theorem ok65 : codeOk T h65 (bodyOf Try.f65) = true := by kernel_rfl
def h66 : Hints := []
theorem ok66 : codeOk T h66 (bodyOf Try.f66) = true := by kernel_rfl
def h67 : Hints := []
theorem ok67 : codeOk T h67 (bodyOf Try.f67) = true := by kernel_rfl
def h68 : Hints := []
theorem ok68 : codeOk T h68 (bodyOf Try.f68) = true := by kernel_rfl
def h69 : Hints := []
theorem ok69 : codeOk T h69 (bodyOf Try.f69) = true := by kernel_rfl
def h70 : Hints := []
theorem ok70 : codeOk T h70 (bodyOf Try.f70) = true := by kernel_rfl
def h71 : Hints := [(2, [(0, []), (1, []), (2, []), (3, []), (4, [1]), (5, []), (6, []), (7, []), (8, [])])]
theorem ok71 : codeOk T h71 (bodyOf Try.f71) = true := by kernel_rfl
def h72 : Hints := [(3, [(0, []), (1, []), (2, []), (3, []), (4, []), (5, []), (6, []), (7, [])]), (8, [(0, []), (1, []), (2, []), (3, []), (4, [])]), (15, [(0, []), (1, []), (2, []), (3, []), (4, [])]), (18, [(0, []), (1, []), (4, []), (2, [4]), (3, []), (5, []), (6, [])]), (20, [(0, []), (1, []), (2, []), (3, []), (4, []), (5, []), (6, [])]), (22, [(0, []), (1, []), (4, []), (2, [4]), (3, []), (5, []), (6, [])]), (23, [(0, []), (1, []), (2, []), (3, []), (4, []), (5, []), (6, [])])]
theorem ok72 : codeOk T h72 (bodyOf Try.f72) = true := by kernel_rfl
def h73 : Hints := []
theorem ok73 : codeOk T h73 (bodyOf Try.f73) = true := by kernel_rfl
def h74 : Hints := [(1, [(0, []), (2, []), (3, []), (4, []), (6, []), (9, []), (1, [3, 4, 6, 9]), (5, [3, 6, 9]), (7, [3, 9]), (8, [3, 9]), (10, [3]), (11, [3]), (12, []), (13, [])])]
theorem ok74 : codeOk T h74 (bodyOf Try.f74) = true := by kernel_rfl
def h75 : Hints := []
theorem ok75 : codeOk T h75 (bodyOf Try.f75) = true := by kernel_rfl
def h76 : Hints := []
theorem ok76 : codeOk T h76 (bodyOf Try.f76) = true := by kernel_rfl
def h77 : Hints := []
theorem ok77 : codeOk T h77 (bodyOf Try.f77) = true := by kernel_rfl
def h78 : Hints := []
theorem ok78 : codeOk T h78 (bodyOf Try.f78) = true := by kernel_rfl
def h79 : Hints := []
theorem ok79 : codeOk T h79 (bodyOf Try.f79) = true := by kernel_rfl
def h80 : Hints := []
theorem ok80 : codeOk T h80 (bodyOf Try.f80) = true := by kernel_rfl
def h81 : Hints := [(3, [(0, []), (1, []), (2, []), (3, []), (4, []), (5, []), (6, []), (7, []), (8, [])]), (5, [(0, []), (1, []), (2, []), (3, [])])]
theorem ok81 : codeOk T h81 (bodyOf Try.f81) = true := by kernel_rfl
def h82 : Hints := [(1, [(0, []), (1, []), (2, []), (3, []), (4, []), (5, []), (6, []), (7, []), (8, []), (9, []), (10, [8]), (11, []), (12, []), (13, []), (14, [])])]
theorem ok82 : codeOk T h82 (bodyOf Try.f82) = true := by kernel_rfl
def h83 : Hints := [(3, [(0, []), (1, []), (2, []), (3, [1]), (4, [])]), (4, [(0, []), (1, []), (2, []), (3, [1]), (4, []), (5, []), (6, []), (7, [])]), (7, [(0, []), (1, []), (2, []), (3, []), (4, []), (5, []), (6, []), (7, []), (8, []), (9, []), (10, []), (11, []), (12, [])])]
theorem ok83 : codeOk T h83 (bodyOf Try.f83) = true := by kernel_rfl
def h84 : Hints := [(5, [(0, []), (1, []), (2, []), (3, []), (4, []), (5, []), (6, []), (7, []), (8, []), (9, []), (10, []), (11, [])])]
theorem ok84 : codeOk T h84 (bodyOf Try.f84) = true := by kernel_rfl
def h85 : Hints := []
theorem ok85 : codeOk T h85 (bodyOf Try.f85) = true := by kernel_rfl
def h86 : Hints := [(1, [(0, []), (1, []), (2, []), (3, []), (4, []), (5, []), (6, [4]), (7, []), (8, []), (9, [])])]
theorem ok86 : codeOk T h86 (bodyOf Try.f86) = true := by kernel_rfl
def h87 : Hints := []
theorem ok87 : codeOk T h87 (bodyOf Try.f87) = true := by kernel_rfl
def h88 : Hints := []
theorem ok88 : codeOk T h88 (bodyOf Try.f88) = true := by kernel_rfl

end Go.Proofs
