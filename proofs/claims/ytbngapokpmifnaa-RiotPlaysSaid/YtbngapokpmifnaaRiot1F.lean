/-
  Walks through the functions of the program, by contract.
-/
import Derived.Test.YtbngapokpmifnaaRiotK
set_option linter.all false
set_option linter.unusedVariables false
set_option linter.unusedSimpArgs false
set_option linter.unnecessarySimpa false
namespace Go.Proofs
open Go.Aw
set_option maxRecDepth 100000
set_option maxHeartbeats 8000000
theorem port_in (i o w v : Int) : ACalls Try.prog 25 [.pointer (some ⟨0, 0, none⟩), .int .u8 v] [.cells [.int .u8 i, .int .u8 o, .int .u8 w] 97] fun r H => r = .tuple #[] ∧ H = [.cells [.int .u8 v, .int .u8 o, .int .u8 w] 97] := by
  refine ACalls.code tabOk h25 Try.func25 Try.call25 ok25 ?_
  conv => whnf
  exact ⟨rfl, rfl⟩
theorem port_out (i o w v : Int) : ACalls Try.prog 16 [.pointer (some ⟨0, 0, none⟩), .int .u8 v] [.cells [.int .u8 i, .int .u8 o, .int .u8 w] 97] fun r H => r = .tuple #[] ∧ H = [.cells [.int .u8 i, .int .u8 v, .int .u8 w] 97] := by
  refine ACalls.code tabOk h16 Try.func16 Try.call16 ok16 ?_
  conv => whnf
  exact ⟨rfl, rfl⟩
theorem port_way (i o w v : Int) : ACalls Try.prog 17 [.pointer (some ⟨0, 0, none⟩), .int .u8 v] [.cells [.int .u8 i, .int .u8 o, .int .u8 w] 97] fun r H => r = .tuple #[] ∧ H = [.cells [.int .u8 i, .int .u8 o, .int .u8 v] 97] := by
  refine ACalls.code tabOk h17 Try.func17 Try.call17 ok17 ?_
  conv => whnf
  exact ⟨rfl, rfl⟩
theorem port_ways (i o w : Int) : ACalls Try.prog 29 [.pointer (some ⟨0, 0, none⟩)] [.cells [.int .u8 i, .int .u8 o, .int .u8 w] 97] fun r H => r = .int .u8 w ∧ H = [.cells [.int .u8 i, .int .u8 o, .int .u8 w] 97] := by
  refine ACalls.code tabOk h29 Try.func29 Try.call29 ok29 ?_
  conv => whnf
  exact ⟨rfl, rfl⟩
theorem edge_choose (a b c h : Bool) : ACalls Try.prog 21 [.pointer (some ⟨0, 0, none⟩), .bool h] [.cells [.bool a, .bool b, .bool c] 99] fun r H => r = .tuple #[] ∧ H = [.cells [.bool a, .bool h, .bool c] 99] := by
  refine ACalls.code tabOk h21 Try.func21 Try.call21 ok21 ?_
  conv => whnf
  exact ⟨rfl, rfl⟩
theorem edge_take (a b c : Bool) : ACalls Try.prog 24 [.pointer (some ⟨0, 0, none⟩)] [.cells [.bool a, .bool b, .bool c] 99] fun r H => r = .bool c ∧ H = [.cells [.bool a, .bool b, .bool false] 99] := by
  refine ACalls.code tabOk h24 Try.func24 Try.call24 ok24 ?_
  conv => whnf
  refine ACalls.code tabOk h23 Try.func23 Try.call23 ok23 ?_
  conv => whnf
  exact ⟨rfl, rfl⟩
theorem timer_flag (v iv l : Int) (fa fl : Bool) : ACalls Try.prog 40 [.pointer (some ⟨0, 0, none⟩)] [.cells [.int .u8 v, .int .i64 iv, .int .i64 l, .bool fa, .bool fl] 104] fun r H => r = .bool fl ∧ H = [.cells [.int .u8 v, .int .i64 iv, .int .i64 l, .bool fa, .bool fl] 104] := by
  refine ACalls.code tabOk h40 Try.func40 Try.call40 ok40 ?_
  conv => whnf
  exact ⟨rfl, rfl⟩
theorem timer_value (v iv l : Int) (fa fl : Bool) : ACalls Try.prog 39 [.pointer (some ⟨0, 0, none⟩)] [.cells [.int .u8 v, .int .i64 iv, .int .i64 l, .bool fa, .bool fl] 104] fun r H => r = .int .u8 v ∧ H = [.cells [.int .u8 v, .int .i64 iv, .int .i64 l, .bool fa, .bool fl] 104] := by
  refine ACalls.code tabOk h39 Try.func39 Try.call39 ok39 ?_
  conv => whnf
  exact ⟨rfl, rfl⟩
theorem riot_new (L : List Value) (hL : Ram L) : ACalls Try.prog 48 [.agg (L).toArray] [] fun v H => v = .pointer (some ⟨0, 0, none⟩) ∧ H = [.cells (riotC L (.pointer (some ⟨1, 0, none⟩)) (.pointer (some ⟨2, 0, none⟩)) (.pointer (some ⟨3, 0, none⟩)) (.pointer (some ⟨4, 0, none⟩))) 110, .cells [.int .u8 255, .int .u8 0, .int .u8 0] 97, .cells [.int .u8 255, .int .u8 0, .int .u8 0] 97, TM.blk ⟨255, 1024, 1, false, false⟩, .cells [.bool true, .bool false, .bool false] 99] := by
  refine ACalls.codeN tabOk h48 Try.func48 Try.call48 ok48 [5, 1, 2, 3, 4] ?_
  conv => whnf
  refine dropF_zero ?_
  conv => whnf
  refine takeF_ram hL rfl ?_
  conv => whnf
  refine Req.of ?_ ?_
  · (show Nat.beq (L).length 128 = true; rw [hL.len]; rfl)
  conv => whnf
  refine putF_whole_ram hL rfl ?_
  conv => whnf
  refine ACalls.useE (port_new _) [] rfl (by (conv => whnf); try rfl) (by (conv => whnf); try rfl) ?_
  conv => whnf
  refine dropF_zero ?_
  conv => whnf
  refine takeF_ram hL rfl ?_
  conv => whnf
  refine ⟨rfl, ?_⟩
  conv => whnf
  refine ACalls.useE (port_new _) [] rfl (by (conv => whnf); try rfl) (by (conv => whnf); try rfl) ?_
  conv => whnf
  refine dropF_zero ?_
  conv => whnf
  refine takeF_ram hL rfl ?_
  conv => whnf
  refine ⟨rfl, ?_⟩
  conv => whnf
  refine ACalls.useE (timer_new) [] rfl (by (conv => whnf); try rfl) (by (conv => whnf); try rfl) ?_
  conv => whnf
  refine dropF_zero ?_
  conv => whnf
  refine takeF_ram hL rfl ?_
  conv => whnf
  refine ⟨rfl, ?_⟩
  conv => whnf
  refine ACalls.useE (edge_new _) [] rfl (by (conv => whnf); try rfl) (by (conv => whnf); try rfl) ?_
  conv => whnf
  refine dropF_zero ?_
  conv => whnf
  refine takeF_ram hL rfl ?_
  conv => whnf
  refine ⟨rfl, ?_⟩
  conv => whnf
  refine Req.of ?_ ?_
  · (show Nat.beq (L).length 128 = true; rw [hL.len]; rfl)
  conv => whnf
  refine putF_head hL rfl ?_
  conv => whnf
  refine putF_pq hL rfl ?_
  conv => whnf
  refine putF_c hL rfl ?_
  conv => whnf
  refine putF_e hL rfl ?_
  conv => whnf
  refine renL_riot hL rfl ?_
  conv => whnf
  refine Req.of ?_ ?_
  · exact riotC_all hL (fun _ => rfl) rfl
  conv => whnf
  exact ⟨rfl, rfl⟩
end Go.Proofs
