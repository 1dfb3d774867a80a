/-
  Walks through the functions of the program, by contract.
-/
import Derived.Test.YtbngapokpmifnaaRiot1F
set_option linter.all false
set_option linter.unusedVariables false
set_option linter.unusedSimpArgs false
set_option linter.unnecessarySimpa false
namespace Go.Proofs
open Go.Aw
set_option maxRecDepth 100000
set_option maxHeartbeats 8000000
def lv (i o w : Int) : Int := lvN i o w 8
def lv7 (i o w : Int) : Bool := bits .and .u8 (lvN i o w 8) 128 != 0
theorem riot_tick (L : List Value) (hL : Ram L) (i0 o0 w0 i1 o1 w1 v iv l : Int) (fa fl el er ec : Bool) (hb : (0 ≤ i0 ∧ i0 ≤ 255) ∧ (0 ≤ o0 ∧ o0 ≤ 255) ∧ (0 ≤ w0 ∧ w0 ≤ 255)) : ACalls Try.prog 59 [.pointer (some ⟨0, 0, none⟩)] [.cells (riotC L (.pointer (some ⟨1, 0, none⟩)) (.pointer (some ⟨2, 0, none⟩)) (.pointer (some ⟨3, 0, none⟩)) (.pointer (some ⟨4, 0, none⟩))) 110, .cells [.int .u8 i0, .int .u8 o0, .int .u8 w0] 97, .cells [.int .u8 i1, .int .u8 o1, .int .u8 w1] 97, .cells [.int .u8 v, .int .i64 iv, .int .i64 l, .bool fa, .bool fl] 104, .cells [.bool el, .bool er, .bool ec] 99] fun r H => r = .tuple #[] ∧ H = [.cells (riotC L (.pointer (some ⟨1, 0, none⟩)) (.pointer (some ⟨2, 0, none⟩)) (.pointer (some ⟨3, 0, none⟩)) (.pointer (some ⟨4, 0, none⟩))) 110, .cells [.int .u8 i0, .int .u8 o0, .int .u8 w0] 97, .cells [.int .u8 i1, .int .u8 o1, .int .u8 w1] 97, (TM.tick ⟨v, iv, l, fa, fl⟩).blk, .cells [.bool (lv7 i0 o0 w0), .bool er, .bool (seeB el er ec (lv7 i0 o0 w0))] 99] := by
  refine ACalls.code tabOk h59 Try.func59 Try.call59 ok59 ?_
  conv => whnf
  refine getF_c hL rfl ?_
  conv => whnf
  refine ACalls.useE (timer_tick _ _ _ _ _) [3] rfl (by (conv => whnf); try rfl) (by (conv => whnf); try rfl) ?_
  conv => whnf
  refine getF_e hL rfl ?_
  conv => whnf
  refine getF_p hL rfl ?_
  conv => whnf
  refine ACalls.useE (port_level _ _ _ ?_ ?_ ?_) [1] rfl (by (conv => whnf); try rfl) (by (conv => whnf); try rfl) ?_
  · omega
  · omega
  · omega
  conv => whnf
  refine getF_e hL rfl ?_
  conv => whnf
  refine ⟨rfl, ?_⟩
  conv => whnf
  refine ACalls.useE (edge_see _ _ _ _) [4] rfl (by (conv => whnf); try rfl) (by (conv => whnf); try rfl) ?_
  conv => whnf
  refine Req.of ?_ ?_
  · exact riotC_all hL (fun _ => rfl) rfl
  conv => whnf
  exact ⟨rfl, rfl⟩
theorem riot_in (L : List Value) (hL : Ram L) (i0 o0 w0 i1 o1 w1 v iv l : Int) (fa fl el er ec : Bool) (x y : Int) : ACalls Try.prog 60 [.pointer (some ⟨0, 0, none⟩), .int .u8 x, .int .u8 y] [.cells (riotC L (.pointer (some ⟨1, 0, none⟩)) (.pointer (some ⟨2, 0, none⟩)) (.pointer (some ⟨3, 0, none⟩)) (.pointer (some ⟨4, 0, none⟩))) 110, .cells [.int .u8 i0, .int .u8 o0, .int .u8 w0] 97, .cells [.int .u8 i1, .int .u8 o1, .int .u8 w1] 97, .cells [.int .u8 v, .int .i64 iv, .int .i64 l, .bool fa, .bool fl] 104, .cells [.bool el, .bool er, .bool ec] 99] fun r H => r = .tuple #[] ∧ H = [.cells (riotC L (.pointer (some ⟨1, 0, none⟩)) (.pointer (some ⟨2, 0, none⟩)) (.pointer (some ⟨3, 0, none⟩)) (.pointer (some ⟨4, 0, none⟩))) 110, .cells [.int .u8 x, .int .u8 o0, .int .u8 w0] 97, .cells [.int .u8 y, .int .u8 o1, .int .u8 w1] 97, .cells [.int .u8 v, .int .i64 iv, .int .i64 l, .bool fa, .bool fl] 104, .cells [.bool el, .bool er, .bool ec] 99] := by
  refine ACalls.code tabOk h60 Try.func60 Try.call60 ok60 ?_
  conv => whnf
  refine getF_p hL rfl ?_
  conv => whnf
  refine ACalls.useE (port_in _ _ _ _) [1] rfl (by (conv => whnf); try rfl) (by (conv => whnf); try rfl) ?_
  conv => whnf
  refine getF_q hL rfl ?_
  conv => whnf
  refine ACalls.useE (port_in _ _ _ _) [2] rfl (by (conv => whnf); try rfl) (by (conv => whnf); try rfl) ?_
  conv => whnf
  refine Req.of ?_ ?_
  · exact riotC_all hL (fun _ => rfl) rfl
  conv => whnf
  exact ⟨rfl, rfl⟩
theorem riot_store_ram (L : List Value) (hL : Ram L) (i0 o0 w0 i1 o1 w1 v iv l : Int) (fa fl el er ec : Bool) (x : Int) (hx : 0 ≤ x ∧ x ≤ 255) (ad : Int) (had : 0 ≤ ad ∧ ad ≤ 65535) (h9 : bits .and .u16 ad 512 = 0) : ACalls Try.prog 61 [.pointer (some ⟨0, 0, none⟩), .int .u16 ad, .int .u8 x] [.cells (riotC L (.pointer (some ⟨1, 0, none⟩)) (.pointer (some ⟨2, 0, none⟩)) (.pointer (some ⟨3, 0, none⟩)) (.pointer (some ⟨4, 0, none⟩))) 110, .cells [.int .u8 i0, .int .u8 o0, .int .u8 w0] 97, .cells [.int .u8 i1, .int .u8 o1, .int .u8 w1] 97, .cells [.int .u8 v, .int .i64 iv, .int .i64 l, .bool fa, .bool fl] 104, .cells [.bool el, .bool er, .bool ec] 99] fun r H => r = .tuple #[] ∧ H = [.cells (riotC (wr L (ad % 128).toNat x) (.pointer (some ⟨1, 0, none⟩)) (.pointer (some ⟨2, 0, none⟩)) (.pointer (some ⟨3, 0, none⟩)) (.pointer (some ⟨4, 0, none⟩))) 110, .cells [.int .u8 i0, .int .u8 o0, .int .u8 w0] 97, .cells [.int .u8 i1, .int .u8 o1, .int .u8 w1] 97, .cells [.int .u8 v, .int .i64 iv, .int .i64 l, .bool fa, .bool fl] 104, .cells [.bool el, .bool er, .bool ec] 99] := by
  have hm : ad.tmod 128 = ((ad % 128).toNat : Int) := by rw [Int.tmod_eq_emod_of_nonneg had.1]; omega
  refine ACalls.code tabOk h61 Try.func61 Try.call61 ok61 ?_
  conv => whnf
  rw [h9]
  conv => whnf
  refine ACalls.code tabOk h75 Try.func75 Try.call75 ok75 ?_
  conv => whnf
  rw [hm]
  conv => whnf
  refine Req.of ?_ ?_
  · (simp; omega)
  conv => whnf
  refine Req.of ?_ ?_
  · exact riotC_all hL (fun _ => rfl) rfl
  conv => whnf
  refine putF_ram hL (j := (ad % 128).toNat) (by first | omega | (dsimp only; omega)) (by omega) ?_
  conv => whnf
  refine Req.of ?_ ?_
  · exact riotC_all (hL.wr (by omega) hx) (fun _ => rfl) rfl
  conv => whnf
  exact ⟨rfl, rfl⟩
theorem riot_store_timer (L : List Value) (hL : Ram L) (i0 o0 w0 i1 o1 w1 v iv l : Int) (fa fl el er ec : Bool) (x : Int) (ad : Int) (had : 0 ≤ ad ∧ ad ≤ 65535) (h9 : bits .and .u16 ad 512 = 512) (h2 : bits .and .u16 ad 4 = 4) (h4 : bits .and .u16 ad 16 = 16) : ACalls Try.prog 61 [.pointer (some ⟨0, 0, none⟩), .int .u16 ad, .int .u8 x] [.cells (riotC L (.pointer (some ⟨1, 0, none⟩)) (.pointer (some ⟨2, 0, none⟩)) (.pointer (some ⟨3, 0, none⟩)) (.pointer (some ⟨4, 0, none⟩))) 110, .cells [.int .u8 i0, .int .u8 o0, .int .u8 w0] 97, .cells [.int .u8 i1, .int .u8 o1, .int .u8 w1] 97, .cells [.int .u8 v, .int .i64 iv, .int .i64 l, .bool fa, .bool fl] 104, .cells [.bool el, .bool er, .bool ec] 99] fun r H => r = .tuple #[] ∧ H = [.cells (riotC L (.pointer (some ⟨1, 0, none⟩)) (.pointer (some ⟨2, 0, none⟩)) (.pointer (some ⟨3, 0, none⟩)) (.pointer (some ⟨4, 0, none⟩))) 110, .cells [.int .u8 i0, .int .u8 o0, .int .u8 w0] 97, .cells [.int .u8 i1, .int .u8 o1, .int .u8 w1] 97, TM.blk ⟨x, ivl (ad % 4), 1, false, false⟩, .cells [.bool el, .bool er, .bool ec] 99] := by
  have h3 : IntKind.i64.wrap (bits .and .u16 ad 3) = ad % 4 := by
    have : bits .and .u16 ad 3 = ad % 4 := and_mask .u16 ad 2 (by decide)
    rw [this, wrap64 (by omega) (by omega)]
  refine ACalls.code tabOk h61 Try.func61 Try.call61 ok61 ?_
  conv => whnf
  rw [h9]
  conv => whnf
  rw [h2]
  conv => whnf
  rw [h4]
  conv => whnf
  refine getF_c hL rfl ?_
  conv => whnf
  refine ACalls.useE (timer_write _ _ _ _ _ _ _) [3] rfl (by (conv => whnf); try rfl) (by (conv => whnf); try rfl) ?_
  conv => whnf
  rw [h3]
  conv => whnf
  refine Req.of ?_ ?_
  · exact riotC_all hL (fun _ => rfl) rfl
  conv => whnf
  exact ⟨rfl, rfl⟩
theorem riot_store_edge0 (L : List Value) (hL : Ram L) (i0 o0 w0 i1 o1 w1 v iv l : Int) (fa fl el er ec : Bool) (x : Int) (ad : Int) (had : 0 ≤ ad ∧ ad ≤ 65535) (h9 : bits .and .u16 ad 512 = 512) (h2 : bits .and .u16 ad 4 = 4) (h4 : bits .and .u16 ad 16 = 0) (h1 : bits .and .u16 ad 1 = 0) : ACalls Try.prog 61 [.pointer (some ⟨0, 0, none⟩), .int .u16 ad, .int .u8 x] [.cells (riotC L (.pointer (some ⟨1, 0, none⟩)) (.pointer (some ⟨2, 0, none⟩)) (.pointer (some ⟨3, 0, none⟩)) (.pointer (some ⟨4, 0, none⟩))) 110, .cells [.int .u8 i0, .int .u8 o0, .int .u8 w0] 97, .cells [.int .u8 i1, .int .u8 o1, .int .u8 w1] 97, .cells [.int .u8 v, .int .i64 iv, .int .i64 l, .bool fa, .bool fl] 104, .cells [.bool el, .bool er, .bool ec] 99] fun r H => r = .tuple #[] ∧ H = [.cells (riotC L (.pointer (some ⟨1, 0, none⟩)) (.pointer (some ⟨2, 0, none⟩)) (.pointer (some ⟨3, 0, none⟩)) (.pointer (some ⟨4, 0, none⟩))) 110, .cells [.int .u8 i0, .int .u8 o0, .int .u8 w0] 97, .cells [.int .u8 i1, .int .u8 o1, .int .u8 w1] 97, .cells [.int .u8 v, .int .i64 iv, .int .i64 l, .bool fa, .bool fl] 104, .cells [.bool el, .bool false, .bool ec] 99] := by
  refine ACalls.code tabOk h61 Try.func61 Try.call61 ok61 ?_
  conv => whnf
  rw [h9]
  conv => whnf
  rw [h2]
  conv => whnf
  rw [h4]
  conv => whnf
  rw [h2]
  conv => whnf
  refine getF_e hL rfl ?_
  conv => whnf
  refine ACalls.useE (edge_choose _ _ _ _) [4] rfl (by (conv => whnf); try rfl) (by (conv => whnf); try rfl) ?_
  conv => whnf
  rw [h1]
  conv => whnf
  refine Req.of ?_ ?_
  · exact riotC_all hL (fun _ => rfl) rfl
  conv => whnf
  exact ⟨rfl, rfl⟩
theorem riot_store_edge1 (L : List Value) (hL : Ram L) (i0 o0 w0 i1 o1 w1 v iv l : Int) (fa fl el er ec : Bool) (x : Int) (ad : Int) (had : 0 ≤ ad ∧ ad ≤ 65535) (h9 : bits .and .u16 ad 512 = 512) (h2 : bits .and .u16 ad 4 = 4) (h4 : bits .and .u16 ad 16 = 0) (h1 : bits .and .u16 ad 1 = 1) : ACalls Try.prog 61 [.pointer (some ⟨0, 0, none⟩), .int .u16 ad, .int .u8 x] [.cells (riotC L (.pointer (some ⟨1, 0, none⟩)) (.pointer (some ⟨2, 0, none⟩)) (.pointer (some ⟨3, 0, none⟩)) (.pointer (some ⟨4, 0, none⟩))) 110, .cells [.int .u8 i0, .int .u8 o0, .int .u8 w0] 97, .cells [.int .u8 i1, .int .u8 o1, .int .u8 w1] 97, .cells [.int .u8 v, .int .i64 iv, .int .i64 l, .bool fa, .bool fl] 104, .cells [.bool el, .bool er, .bool ec] 99] fun r H => r = .tuple #[] ∧ H = [.cells (riotC L (.pointer (some ⟨1, 0, none⟩)) (.pointer (some ⟨2, 0, none⟩)) (.pointer (some ⟨3, 0, none⟩)) (.pointer (some ⟨4, 0, none⟩))) 110, .cells [.int .u8 i0, .int .u8 o0, .int .u8 w0] 97, .cells [.int .u8 i1, .int .u8 o1, .int .u8 w1] 97, .cells [.int .u8 v, .int .i64 iv, .int .i64 l, .bool fa, .bool fl] 104, .cells [.bool el, .bool true, .bool ec] 99] := by
  refine ACalls.code tabOk h61 Try.func61 Try.call61 ok61 ?_
  conv => whnf
  rw [h9]
  conv => whnf
  rw [h2]
  conv => whnf
  rw [h4]
  conv => whnf
  rw [h2]
  conv => whnf
  refine getF_e hL rfl ?_
  conv => whnf
  refine ACalls.useE (edge_choose _ _ _ _) [4] rfl (by (conv => whnf); try rfl) (by (conv => whnf); try rfl) ?_
  conv => whnf
  rw [h1]
  conv => whnf
  refine Req.of ?_ ?_
  · exact riotC_all hL (fun _ => rfl) rfl
  conv => whnf
  exact ⟨rfl, rfl⟩
theorem riot_store_way0 (L : List Value) (hL : Ram L) (i0 o0 w0 i1 o1 w1 v iv l : Int) (fa fl el er ec : Bool) (x : Int) (ad : Int) (had : 0 ≤ ad ∧ ad ≤ 65535) (h9 : bits .and .u16 ad 512 = 512) (h2 : bits .and .u16 ad 4 = 0) (h1 : bits .and .u16 ad 1 = 1) (hp : bits .and .u16 (ad.fdiv (2 ^ min (1 : Int).toNat IntKind.u16.bits)) 1 = 0) : ACalls Try.prog 61 [.pointer (some ⟨0, 0, none⟩), .int .u16 ad, .int .u8 x] [.cells (riotC L (.pointer (some ⟨1, 0, none⟩)) (.pointer (some ⟨2, 0, none⟩)) (.pointer (some ⟨3, 0, none⟩)) (.pointer (some ⟨4, 0, none⟩))) 110, .cells [.int .u8 i0, .int .u8 o0, .int .u8 w0] 97, .cells [.int .u8 i1, .int .u8 o1, .int .u8 w1] 97, .cells [.int .u8 v, .int .i64 iv, .int .i64 l, .bool fa, .bool fl] 104, .cells [.bool el, .bool er, .bool ec] 99] fun r H => r = .tuple #[] ∧ H = [.cells (riotC L (.pointer (some ⟨1, 0, none⟩)) (.pointer (some ⟨2, 0, none⟩)) (.pointer (some ⟨3, 0, none⟩)) (.pointer (some ⟨4, 0, none⟩))) 110, .cells [.int .u8 i0, .int .u8 o0, .int .u8 x] 97, .cells [.int .u8 i1, .int .u8 o1, .int .u8 w1] 97, .cells [.int .u8 v, .int .i64 iv, .int .i64 l, .bool fa, .bool fl] 104, .cells [.bool el, .bool er, .bool ec] 99] := by
  refine ACalls.code tabOk h61 Try.func61 Try.call61 ok61 ?_
  conv => whnf
  rw [h9]
  conv => whnf
  rw [h2]
  conv => whnf
  rw [h2]
  conv => whnf
  rw [h1]
  conv => whnf
  refine ACalls.code tabOk h76 Try.func76 Try.call76 ok76 ?_
  conv => whnf
  rw [hp]
  conv => whnf
  refine getF_p hL rfl ?_
  conv => whnf
  refine Req.of ?_ ?_
  · exact riotC_all hL (fun _ => rfl) rfl
  conv => whnf
  refine ACalls.useE (port_way _ _ _ _) [1] rfl (by (conv => whnf); try rfl) (by (conv => whnf); try rfl) ?_
  conv => whnf
  refine Req.of ?_ ?_
  · exact riotC_all hL (fun _ => rfl) rfl
  conv => whnf
  exact ⟨rfl, rfl⟩
theorem riot_store_out0 (L : List Value) (hL : Ram L) (i0 o0 w0 i1 o1 w1 v iv l : Int) (fa fl el er ec : Bool) (x : Int) (ad : Int) (had : 0 ≤ ad ∧ ad ≤ 65535) (h9 : bits .and .u16 ad 512 = 512) (h2 : bits .and .u16 ad 4 = 0) (h1 : bits .and .u16 ad 1 = 0) (hp : bits .and .u16 (ad.fdiv (2 ^ min (1 : Int).toNat IntKind.u16.bits)) 1 = 0) : ACalls Try.prog 61 [.pointer (some ⟨0, 0, none⟩), .int .u16 ad, .int .u8 x] [.cells (riotC L (.pointer (some ⟨1, 0, none⟩)) (.pointer (some ⟨2, 0, none⟩)) (.pointer (some ⟨3, 0, none⟩)) (.pointer (some ⟨4, 0, none⟩))) 110, .cells [.int .u8 i0, .int .u8 o0, .int .u8 w0] 97, .cells [.int .u8 i1, .int .u8 o1, .int .u8 w1] 97, .cells [.int .u8 v, .int .i64 iv, .int .i64 l, .bool fa, .bool fl] 104, .cells [.bool el, .bool er, .bool ec] 99] fun r H => r = .tuple #[] ∧ H = [.cells (riotC L (.pointer (some ⟨1, 0, none⟩)) (.pointer (some ⟨2, 0, none⟩)) (.pointer (some ⟨3, 0, none⟩)) (.pointer (some ⟨4, 0, none⟩))) 110, .cells [.int .u8 i0, .int .u8 x, .int .u8 w0] 97, .cells [.int .u8 i1, .int .u8 o1, .int .u8 w1] 97, .cells [.int .u8 v, .int .i64 iv, .int .i64 l, .bool fa, .bool fl] 104, .cells [.bool el, .bool er, .bool ec] 99] := by
  refine ACalls.code tabOk h61 Try.func61 Try.call61 ok61 ?_
  conv => whnf
  rw [h9]
  conv => whnf
  rw [h2]
  conv => whnf
  rw [h2]
  conv => whnf
  rw [h1]
  conv => whnf
  refine ACalls.code tabOk h76 Try.func76 Try.call76 ok76 ?_
  conv => whnf
  rw [hp]
  conv => whnf
  refine getF_p hL rfl ?_
  conv => whnf
  refine Req.of ?_ ?_
  · exact riotC_all hL (fun _ => rfl) rfl
  conv => whnf
  refine ACalls.useE (port_out _ _ _ _) [1] rfl (by (conv => whnf); try rfl) (by (conv => whnf); try rfl) ?_
  conv => whnf
  refine Req.of ?_ ?_
  · exact riotC_all hL (fun _ => rfl) rfl
  conv => whnf
  exact ⟨rfl, rfl⟩
theorem riot_store_way1 (L : List Value) (hL : Ram L) (i0 o0 w0 i1 o1 w1 v iv l : Int) (fa fl el er ec : Bool) (x : Int) (ad : Int) (had : 0 ≤ ad ∧ ad ≤ 65535) (h9 : bits .and .u16 ad 512 = 512) (h2 : bits .and .u16 ad 4 = 0) (h1 : bits .and .u16 ad 1 = 1) (hp : bits .and .u16 (ad.fdiv (2 ^ min (1 : Int).toNat IntKind.u16.bits)) 1 = 1) : ACalls Try.prog 61 [.pointer (some ⟨0, 0, none⟩), .int .u16 ad, .int .u8 x] [.cells (riotC L (.pointer (some ⟨1, 0, none⟩)) (.pointer (some ⟨2, 0, none⟩)) (.pointer (some ⟨3, 0, none⟩)) (.pointer (some ⟨4, 0, none⟩))) 110, .cells [.int .u8 i0, .int .u8 o0, .int .u8 w0] 97, .cells [.int .u8 i1, .int .u8 o1, .int .u8 w1] 97, .cells [.int .u8 v, .int .i64 iv, .int .i64 l, .bool fa, .bool fl] 104, .cells [.bool el, .bool er, .bool ec] 99] fun r H => r = .tuple #[] ∧ H = [.cells (riotC L (.pointer (some ⟨1, 0, none⟩)) (.pointer (some ⟨2, 0, none⟩)) (.pointer (some ⟨3, 0, none⟩)) (.pointer (some ⟨4, 0, none⟩))) 110, .cells [.int .u8 i0, .int .u8 o0, .int .u8 w0] 97, .cells [.int .u8 i1, .int .u8 o1, .int .u8 x] 97, .cells [.int .u8 v, .int .i64 iv, .int .i64 l, .bool fa, .bool fl] 104, .cells [.bool el, .bool er, .bool ec] 99] := by
  refine ACalls.code tabOk h61 Try.func61 Try.call61 ok61 ?_
  conv => whnf
  rw [h9]
  conv => whnf
  rw [h2]
  conv => whnf
  rw [h2]
  conv => whnf
  rw [h1]
  conv => whnf
  refine ACalls.code tabOk h76 Try.func76 Try.call76 ok76 ?_
  conv => whnf
  rw [hp]
  conv => whnf
  refine getF_q hL rfl ?_
  conv => whnf
  refine Req.of ?_ ?_
  · exact riotC_all hL (fun _ => rfl) rfl
  conv => whnf
  refine ACalls.useE (port_way _ _ _ _) [2] rfl (by (conv => whnf); try rfl) (by (conv => whnf); try rfl) ?_
  conv => whnf
  refine Req.of ?_ ?_
  · exact riotC_all hL (fun _ => rfl) rfl
  conv => whnf
  exact ⟨rfl, rfl⟩
theorem riot_store_out1 (L : List Value) (hL : Ram L) (i0 o0 w0 i1 o1 w1 v iv l : Int) (fa fl el er ec : Bool) (x : Int) (ad : Int) (had : 0 ≤ ad ∧ ad ≤ 65535) (h9 : bits .and .u16 ad 512 = 512) (h2 : bits .and .u16 ad 4 = 0) (h1 : bits .and .u16 ad 1 = 0) (hp : bits .and .u16 (ad.fdiv (2 ^ min (1 : Int).toNat IntKind.u16.bits)) 1 = 1) : ACalls Try.prog 61 [.pointer (some ⟨0, 0, none⟩), .int .u16 ad, .int .u8 x] [.cells (riotC L (.pointer (some ⟨1, 0, none⟩)) (.pointer (some ⟨2, 0, none⟩)) (.pointer (some ⟨3, 0, none⟩)) (.pointer (some ⟨4, 0, none⟩))) 110, .cells [.int .u8 i0, .int .u8 o0, .int .u8 w0] 97, .cells [.int .u8 i1, .int .u8 o1, .int .u8 w1] 97, .cells [.int .u8 v, .int .i64 iv, .int .i64 l, .bool fa, .bool fl] 104, .cells [.bool el, .bool er, .bool ec] 99] fun r H => r = .tuple #[] ∧ H = [.cells (riotC L (.pointer (some ⟨1, 0, none⟩)) (.pointer (some ⟨2, 0, none⟩)) (.pointer (some ⟨3, 0, none⟩)) (.pointer (some ⟨4, 0, none⟩))) 110, .cells [.int .u8 i0, .int .u8 o0, .int .u8 w0] 97, .cells [.int .u8 i1, .int .u8 x, .int .u8 w1] 97, .cells [.int .u8 v, .int .i64 iv, .int .i64 l, .bool fa, .bool fl] 104, .cells [.bool el, .bool er, .bool ec] 99] := by
  refine ACalls.code tabOk h61 Try.func61 Try.call61 ok61 ?_
  conv => whnf
  rw [h9]
  conv => whnf
  rw [h2]
  conv => whnf
  rw [h2]
  conv => whnf
  rw [h1]
  conv => whnf
  refine ACalls.code tabOk h76 Try.func76 Try.call76 ok76 ?_
  conv => whnf
  rw [hp]
  conv => whnf
  refine getF_q hL rfl ?_
  conv => whnf
  refine Req.of ?_ ?_
  · exact riotC_all hL (fun _ => rfl) rfl
  conv => whnf
  refine ACalls.useE (port_out _ _ _ _) [2] rfl (by (conv => whnf); try rfl) (by (conv => whnf); try rfl) ?_
  conv => whnf
  refine Req.of ?_ ?_
  · exact riotC_all hL (fun _ => rfl) rfl
  conv => whnf
  exact ⟨rfl, rfl⟩
theorem riot_read_ram (L : List Value) (hL : Ram L) (i0 o0 w0 i1 o1 w1 v iv l : Int) (fa fl el er ec : Bool) (ad : Int) (had : 0 ≤ ad ∧ ad ≤ 65535) (h9 : bits .and .u16 ad 512 = 0) : ACalls Try.prog 62 [.pointer (some ⟨0, 0, none⟩), .int .u16 ad] [.cells (riotC L (.pointer (some ⟨1, 0, none⟩)) (.pointer (some ⟨2, 0, none⟩)) (.pointer (some ⟨3, 0, none⟩)) (.pointer (some ⟨4, 0, none⟩))) 110, .cells [.int .u8 i0, .int .u8 o0, .int .u8 w0] 97, .cells [.int .u8 i1, .int .u8 o1, .int .u8 w1] 97, .cells [.int .u8 v, .int .i64 iv, .int .i64 l, .bool fa, .bool fl] 104, .cells [.bool el, .bool er, .bool ec] 99] fun r H => r = .int .u8 (rd L (ad % 128).toNat) ∧ H = [.cells (riotC L (.pointer (some ⟨1, 0, none⟩)) (.pointer (some ⟨2, 0, none⟩)) (.pointer (some ⟨3, 0, none⟩)) (.pointer (some ⟨4, 0, none⟩))) 110, .cells [.int .u8 i0, .int .u8 o0, .int .u8 w0] 97, .cells [.int .u8 i1, .int .u8 o1, .int .u8 w1] 97, .cells [.int .u8 v, .int .i64 iv, .int .i64 l, .bool fa, .bool fl] 104, .cells [.bool el, .bool er, .bool ec] 99] := by
  have hm : ad.tmod 128 = ((ad % 128).toNat : Int) := by rw [Int.tmod_eq_emod_of_nonneg had.1]; omega
  have hget : 0 + (((ad % 128).toNat : Nat) : Int).toNat * 1 = (ad % 128).toNat := by omega
  refine ACalls.code tabOk h62 Try.func62 Try.call62 ok62 ?_
  conv => whnf
  rw [h9]
  conv => whnf
  refine ACalls.code tabOk h75 Try.func75 Try.call75 ok75 ?_
  conv => whnf
  rw [hm]
  conv => whnf
  refine Req.of ?_ ?_
  · (simp; omega)
  conv => whnf
  refine Req.of ?_ ?_
  · exact riotC_all hL (fun _ => rfl) rfl
  conv => whnf
  refine getF_ramE hL (ad % 128).toNat (by first | omega | (dsimp only; omega)) (by omega) ?_
  conv => whnf
  refine Req.of ?_ ?_
  · exact riotC_all hL (fun _ => rfl) rfl
  conv => whnf
  exact ⟨rfl, rfl⟩
/-- The flags, as they are told. -/
def flg (fl ec : Bool) : Int := bif fl then (bif ec then 192 else 128) else (bif ec then 64 else 0)
theorem riot_flags (L : List Value) (hL : Ram L) (i0 o0 w0 i1 o1 w1 v iv l : Int) (fa fl el er ec : Bool) : ACalls Try.prog 77 [.pointer (some ⟨0, 0, none⟩)] [.cells (riotC L (.pointer (some ⟨1, 0, none⟩)) (.pointer (some ⟨2, 0, none⟩)) (.pointer (some ⟨3, 0, none⟩)) (.pointer (some ⟨4, 0, none⟩))) 110, .cells [.int .u8 i0, .int .u8 o0, .int .u8 w0] 97, .cells [.int .u8 i1, .int .u8 o1, .int .u8 w1] 97, .cells [.int .u8 v, .int .i64 iv, .int .i64 l, .bool fa, .bool fl] 104, .cells [.bool el, .bool er, .bool ec] 99] fun r H => r = .int .u8 (flg fl ec) ∧ H = [.cells (riotC L (.pointer (some ⟨1, 0, none⟩)) (.pointer (some ⟨2, 0, none⟩)) (.pointer (some ⟨3, 0, none⟩)) (.pointer (some ⟨4, 0, none⟩))) 110, .cells [.int .u8 i0, .int .u8 o0, .int .u8 w0] 97, .cells [.int .u8 i1, .int .u8 o1, .int .u8 w1] 97, .cells [.int .u8 v, .int .i64 iv, .int .i64 l, .bool fa, .bool fl] 104, .cells [.bool el, .bool er, .bool false] 99] := by
  cases fl <;> cases ec <;> refine ACalls.code tabOk h77 Try.func77 Try.call77 ok77 ?_ <;> (conv => whnf)
  · refine getF_c hL rfl ?_
    conv => whnf
    refine ACalls.useE (timer_flag _ _ _ _ _) [3] rfl (by (conv => whnf); try rfl) (by (conv => whnf); try rfl) ?_
    conv => whnf
    refine getF_e hL rfl ?_
    conv => whnf
    refine ACalls.useE (edge_take _ _ _) [4] rfl (by (conv => whnf); try rfl) (by (conv => whnf); try rfl) ?_
    conv => whnf
    refine Req.of ?_ ?_
    · exact riotC_all hL (fun _ => rfl) rfl
    conv => whnf
    exact ⟨rfl, rfl⟩
  · refine getF_c hL rfl ?_
    conv => whnf
    refine ACalls.useE (timer_flag _ _ _ _ _) [3] rfl (by (conv => whnf); try rfl) (by (conv => whnf); try rfl) ?_
    conv => whnf
    refine getF_e hL rfl ?_
    conv => whnf
    refine ACalls.useE (edge_take _ _ _) [4] rfl (by (conv => whnf); try rfl) (by (conv => whnf); try rfl) ?_
    conv => whnf
    refine Req.of ?_ ?_
    · exact riotC_all hL (fun _ => rfl) rfl
    conv => whnf
    exact ⟨rfl, rfl⟩
  · refine getF_c hL rfl ?_
    conv => whnf
    refine ACalls.useE (timer_flag _ _ _ _ _) [3] rfl (by (conv => whnf); try rfl) (by (conv => whnf); try rfl) ?_
    conv => whnf
    refine getF_e hL rfl ?_
    conv => whnf
    refine ACalls.useE (edge_take _ _ _) [4] rfl (by (conv => whnf); try rfl) (by (conv => whnf); try rfl) ?_
    conv => whnf
    refine Req.of ?_ ?_
    · exact riotC_all hL (fun _ => rfl) rfl
    conv => whnf
    exact ⟨rfl, rfl⟩
  · refine getF_c hL rfl ?_
    conv => whnf
    refine ACalls.useE (timer_flag _ _ _ _ _) [3] rfl (by (conv => whnf); try rfl) (by (conv => whnf); try rfl) ?_
    conv => whnf
    refine getF_e hL rfl ?_
    conv => whnf
    refine ACalls.useE (edge_take _ _ _) [4] rfl (by (conv => whnf); try rfl) (by (conv => whnf); try rfl) ?_
    conv => whnf
    refine Req.of ?_ ?_
    · exact riotC_all hL (fun _ => rfl) rfl
    conv => whnf
    exact ⟨rfl, rfl⟩
theorem riot_read_flags (L : List Value) (hL : Ram L) (i0 o0 w0 i1 o1 w1 v iv l : Int) (fa fl el er ec : Bool) (ad : Int) (had : 0 ≤ ad ∧ ad ≤ 65535) (h9 : bits .and .u16 ad 512 = 512) (h2 : bits .and .u16 ad 4 = 4) (h1 : bits .and .u16 ad 1 = 1) : ACalls Try.prog 62 [.pointer (some ⟨0, 0, none⟩), .int .u16 ad] [.cells (riotC L (.pointer (some ⟨1, 0, none⟩)) (.pointer (some ⟨2, 0, none⟩)) (.pointer (some ⟨3, 0, none⟩)) (.pointer (some ⟨4, 0, none⟩))) 110, .cells [.int .u8 i0, .int .u8 o0, .int .u8 w0] 97, .cells [.int .u8 i1, .int .u8 o1, .int .u8 w1] 97, .cells [.int .u8 v, .int .i64 iv, .int .i64 l, .bool fa, .bool fl] 104, .cells [.bool el, .bool er, .bool ec] 99] fun r H => r = .int .u8 (flg fl ec) ∧ H = [.cells (riotC L (.pointer (some ⟨1, 0, none⟩)) (.pointer (some ⟨2, 0, none⟩)) (.pointer (some ⟨3, 0, none⟩)) (.pointer (some ⟨4, 0, none⟩))) 110, .cells [.int .u8 i0, .int .u8 o0, .int .u8 w0] 97, .cells [.int .u8 i1, .int .u8 o1, .int .u8 w1] 97, .cells [.int .u8 v, .int .i64 iv, .int .i64 l, .bool fa, .bool fl] 104, .cells [.bool el, .bool er, .bool false] 99] := by
  refine ACalls.code tabOk h62 Try.func62 Try.call62 ok62 ?_
  conv => whnf
  rw [h9]
  conv => whnf
  rw [h2]
  conv => whnf
  rw [h1]
  conv => whnf
  refine ACalls.useE (riot_flags _ hL _ _ _ _ _ _ _ _ _ _ _ _ _ _) [0, 1, 2, 3, 4] rfl (by (conv => whnf); refine renL_riot hL (by first | ((conv => whnf); done) | ((conv => whnf); exact rfl)) ?_; (conv => whnf); try rfl) (by (conv => whnf); try rfl) ?_
  conv => whnf
  refine renL_riot hL rfl ?_
  conv => whnf
  refine Req.of ?_ ?_
  · exact riotC_all hL (fun _ => rfl) rfl
  conv => whnf
  exact ⟨rfl, rfl⟩
theorem riot_read_timer (L : List Value) (hL : Ram L) (i0 o0 w0 i1 o1 w1 v iv l : Int) (fa fl el er ec : Bool) (ad : Int) (had : 0 ≤ ad ∧ ad ≤ 65535) (h9 : bits .and .u16 ad 512 = 512) (h2 : bits .and .u16 ad 4 = 4) (h1 : bits .and .u16 ad 1 = 0) : ACalls Try.prog 62 [.pointer (some ⟨0, 0, none⟩), .int .u16 ad] [.cells (riotC L (.pointer (some ⟨1, 0, none⟩)) (.pointer (some ⟨2, 0, none⟩)) (.pointer (some ⟨3, 0, none⟩)) (.pointer (some ⟨4, 0, none⟩))) 110, .cells [.int .u8 i0, .int .u8 o0, .int .u8 w0] 97, .cells [.int .u8 i1, .int .u8 o1, .int .u8 w1] 97, .cells [.int .u8 v, .int .i64 iv, .int .i64 l, .bool fa, .bool fl] 104, .cells [.bool el, .bool er, .bool ec] 99] fun r H => r = .int .u8 v ∧ H = [.cells (riotC L (.pointer (some ⟨1, 0, none⟩)) (.pointer (some ⟨2, 0, none⟩)) (.pointer (some ⟨3, 0, none⟩)) (.pointer (some ⟨4, 0, none⟩))) 110, .cells [.int .u8 i0, .int .u8 o0, .int .u8 w0] 97, .cells [.int .u8 i1, .int .u8 o1, .int .u8 w1] 97, (TM.read ⟨v, iv, l, fa, fl⟩).blk, .cells [.bool el, .bool er, .bool ec] 99] := by
  refine ACalls.code tabOk h62 Try.func62 Try.call62 ok62 ?_
  conv => whnf
  rw [h9]
  conv => whnf
  rw [h2]
  conv => whnf
  rw [h1]
  conv => whnf
  rw [h2]
  conv => whnf
  refine getF_c hL rfl ?_
  conv => whnf
  refine ACalls.useE (timer_read _ _ _ _ _) [3] rfl (by (conv => whnf); try rfl) (by (conv => whnf); try rfl) ?_
  conv => whnf
  refine Req.of ?_ ?_
  · exact riotC_all hL (fun _ => rfl) rfl
  conv => whnf
  exact ⟨rfl, rfl⟩
theorem riot_read_ways0 (L : List Value) (hL : Ram L) (i0 o0 w0 i1 o1 w1 v iv l : Int) (fa fl el er ec : Bool) (ad : Int) (had : 0 ≤ ad ∧ ad ≤ 65535) (h9 : bits .and .u16 ad 512 = 512) (h2 : bits .and .u16 ad 4 = 0) (h1 : bits .and .u16 ad 1 = 1) (hp : bits .and .u16 (ad.fdiv (2 ^ min (1 : Int).toNat IntKind.u16.bits)) 1 = 0) : ACalls Try.prog 62 [.pointer (some ⟨0, 0, none⟩), .int .u16 ad] [.cells (riotC L (.pointer (some ⟨1, 0, none⟩)) (.pointer (some ⟨2, 0, none⟩)) (.pointer (some ⟨3, 0, none⟩)) (.pointer (some ⟨4, 0, none⟩))) 110, .cells [.int .u8 i0, .int .u8 o0, .int .u8 w0] 97, .cells [.int .u8 i1, .int .u8 o1, .int .u8 w1] 97, .cells [.int .u8 v, .int .i64 iv, .int .i64 l, .bool fa, .bool fl] 104, .cells [.bool el, .bool er, .bool ec] 99] fun r H => r = .int .u8 w0 ∧ H = [.cells (riotC L (.pointer (some ⟨1, 0, none⟩)) (.pointer (some ⟨2, 0, none⟩)) (.pointer (some ⟨3, 0, none⟩)) (.pointer (some ⟨4, 0, none⟩))) 110, .cells [.int .u8 i0, .int .u8 o0, .int .u8 w0] 97, .cells [.int .u8 i1, .int .u8 o1, .int .u8 w1] 97, .cells [.int .u8 v, .int .i64 iv, .int .i64 l, .bool fa, .bool fl] 104, .cells [.bool el, .bool er, .bool ec] 99] := by
  refine ACalls.code tabOk h62 Try.func62 Try.call62 ok62 ?_
  conv => whnf
  rw [h9]
  conv => whnf
  rw [h2]
  conv => whnf
  rw [h2]
  conv => whnf
  rw [h1]
  conv => whnf
  refine ACalls.code tabOk h76 Try.func76 Try.call76 ok76 ?_
  conv => whnf
  rw [hp]
  conv => whnf
  refine getF_p hL rfl ?_
  conv => whnf
  refine Req.of ?_ ?_
  · exact riotC_all hL (fun _ => rfl) rfl
  conv => whnf
  refine ACalls.useE (port_ways _ _ _) [1] rfl (by (conv => whnf); try rfl) (by (conv => whnf); try rfl) ?_
  conv => whnf
  refine Req.of ?_ ?_
  · exact riotC_all hL (fun _ => rfl) rfl
  conv => whnf
  exact ⟨rfl, rfl⟩
theorem riot_read_level0 (L : List Value) (hL : Ram L) (i0 o0 w0 i1 o1 w1 v iv l : Int) (fa fl el er ec : Bool) (hb : (0 ≤ i0 ∧ i0 ≤ 255) ∧ (0 ≤ o0 ∧ o0 ≤ 255) ∧ (0 ≤ w0 ∧ w0 ≤ 255)) (ad : Int) (had : 0 ≤ ad ∧ ad ≤ 65535) (h9 : bits .and .u16 ad 512 = 512) (h2 : bits .and .u16 ad 4 = 0) (h1 : bits .and .u16 ad 1 = 0) (hp : bits .and .u16 (ad.fdiv (2 ^ min (1 : Int).toNat IntKind.u16.bits)) 1 = 0) : ACalls Try.prog 62 [.pointer (some ⟨0, 0, none⟩), .int .u16 ad] [.cells (riotC L (.pointer (some ⟨1, 0, none⟩)) (.pointer (some ⟨2, 0, none⟩)) (.pointer (some ⟨3, 0, none⟩)) (.pointer (some ⟨4, 0, none⟩))) 110, .cells [.int .u8 i0, .int .u8 o0, .int .u8 w0] 97, .cells [.int .u8 i1, .int .u8 o1, .int .u8 w1] 97, .cells [.int .u8 v, .int .i64 iv, .int .i64 l, .bool fa, .bool fl] 104, .cells [.bool el, .bool er, .bool ec] 99] fun r H => r = .int .u8 (lv i0 o0 w0) ∧ H = [.cells (riotC L (.pointer (some ⟨1, 0, none⟩)) (.pointer (some ⟨2, 0, none⟩)) (.pointer (some ⟨3, 0, none⟩)) (.pointer (some ⟨4, 0, none⟩))) 110, .cells [.int .u8 i0, .int .u8 o0, .int .u8 w0] 97, .cells [.int .u8 i1, .int .u8 o1, .int .u8 w1] 97, .cells [.int .u8 v, .int .i64 iv, .int .i64 l, .bool fa, .bool fl] 104, .cells [.bool el, .bool er, .bool ec] 99] := by
  refine ACalls.code tabOk h62 Try.func62 Try.call62 ok62 ?_
  conv => whnf
  rw [h9]
  conv => whnf
  rw [h2]
  conv => whnf
  rw [h2]
  conv => whnf
  rw [h1]
  conv => whnf
  refine ACalls.code tabOk h76 Try.func76 Try.call76 ok76 ?_
  conv => whnf
  rw [hp]
  conv => whnf
  refine getF_p hL rfl ?_
  conv => whnf
  refine Req.of ?_ ?_
  · exact riotC_all hL (fun _ => rfl) rfl
  conv => whnf
  refine ACalls.useE (port_level _ _ _ ?_ ?_ ?_) [1] rfl (by (conv => whnf); try rfl) (by (conv => whnf); try rfl) ?_
  · omega
  · omega
  · omega
  conv => whnf
  refine Req.of ?_ ?_
  · exact riotC_all hL (fun _ => rfl) rfl
  conv => whnf
  exact ⟨rfl, rfl⟩
theorem riot_read_ways1 (L : List Value) (hL : Ram L) (i0 o0 w0 i1 o1 w1 v iv l : Int) (fa fl el er ec : Bool) (ad : Int) (had : 0 ≤ ad ∧ ad ≤ 65535) (h9 : bits .and .u16 ad 512 = 512) (h2 : bits .and .u16 ad 4 = 0) (h1 : bits .and .u16 ad 1 = 1) (hp : bits .and .u16 (ad.fdiv (2 ^ min (1 : Int).toNat IntKind.u16.bits)) 1 = 1) : ACalls Try.prog 62 [.pointer (some ⟨0, 0, none⟩), .int .u16 ad] [.cells (riotC L (.pointer (some ⟨1, 0, none⟩)) (.pointer (some ⟨2, 0, none⟩)) (.pointer (some ⟨3, 0, none⟩)) (.pointer (some ⟨4, 0, none⟩))) 110, .cells [.int .u8 i0, .int .u8 o0, .int .u8 w0] 97, .cells [.int .u8 i1, .int .u8 o1, .int .u8 w1] 97, .cells [.int .u8 v, .int .i64 iv, .int .i64 l, .bool fa, .bool fl] 104, .cells [.bool el, .bool er, .bool ec] 99] fun r H => r = .int .u8 w1 ∧ H = [.cells (riotC L (.pointer (some ⟨1, 0, none⟩)) (.pointer (some ⟨2, 0, none⟩)) (.pointer (some ⟨3, 0, none⟩)) (.pointer (some ⟨4, 0, none⟩))) 110, .cells [.int .u8 i0, .int .u8 o0, .int .u8 w0] 97, .cells [.int .u8 i1, .int .u8 o1, .int .u8 w1] 97, .cells [.int .u8 v, .int .i64 iv, .int .i64 l, .bool fa, .bool fl] 104, .cells [.bool el, .bool er, .bool ec] 99] := by
  refine ACalls.code tabOk h62 Try.func62 Try.call62 ok62 ?_
  conv => whnf
  rw [h9]
  conv => whnf
  rw [h2]
  conv => whnf
  rw [h2]
  conv => whnf
  rw [h1]
  conv => whnf
  refine ACalls.code tabOk h76 Try.func76 Try.call76 ok76 ?_
  conv => whnf
  rw [hp]
  conv => whnf
  refine getF_q hL rfl ?_
  conv => whnf
  refine Req.of ?_ ?_
  · exact riotC_all hL (fun _ => rfl) rfl
  conv => whnf
  refine ACalls.useE (port_ways _ _ _) [2] rfl (by (conv => whnf); try rfl) (by (conv => whnf); try rfl) ?_
  conv => whnf
  refine Req.of ?_ ?_
  · exact riotC_all hL (fun _ => rfl) rfl
  conv => whnf
  exact ⟨rfl, rfl⟩
theorem riot_read_level1 (L : List Value) (hL : Ram L) (i0 o0 w0 i1 o1 w1 v iv l : Int) (fa fl el er ec : Bool) (hb : (0 ≤ i1 ∧ i1 ≤ 255) ∧ (0 ≤ o1 ∧ o1 ≤ 255) ∧ (0 ≤ w1 ∧ w1 ≤ 255)) (ad : Int) (had : 0 ≤ ad ∧ ad ≤ 65535) (h9 : bits .and .u16 ad 512 = 512) (h2 : bits .and .u16 ad 4 = 0) (h1 : bits .and .u16 ad 1 = 0) (hp : bits .and .u16 (ad.fdiv (2 ^ min (1 : Int).toNat IntKind.u16.bits)) 1 = 1) : ACalls Try.prog 62 [.pointer (some ⟨0, 0, none⟩), .int .u16 ad] [.cells (riotC L (.pointer (some ⟨1, 0, none⟩)) (.pointer (some ⟨2, 0, none⟩)) (.pointer (some ⟨3, 0, none⟩)) (.pointer (some ⟨4, 0, none⟩))) 110, .cells [.int .u8 i0, .int .u8 o0, .int .u8 w0] 97, .cells [.int .u8 i1, .int .u8 o1, .int .u8 w1] 97, .cells [.int .u8 v, .int .i64 iv, .int .i64 l, .bool fa, .bool fl] 104, .cells [.bool el, .bool er, .bool ec] 99] fun r H => r = .int .u8 (lv i1 o1 w1) ∧ H = [.cells (riotC L (.pointer (some ⟨1, 0, none⟩)) (.pointer (some ⟨2, 0, none⟩)) (.pointer (some ⟨3, 0, none⟩)) (.pointer (some ⟨4, 0, none⟩))) 110, .cells [.int .u8 i0, .int .u8 o0, .int .u8 w0] 97, .cells [.int .u8 i1, .int .u8 o1, .int .u8 w1] 97, .cells [.int .u8 v, .int .i64 iv, .int .i64 l, .bool fa, .bool fl] 104, .cells [.bool el, .bool er, .bool ec] 99] := by
  refine ACalls.code tabOk h62 Try.func62 Try.call62 ok62 ?_
  conv => whnf
  rw [h9]
  conv => whnf
  rw [h2]
  conv => whnf
  rw [h2]
  conv => whnf
  rw [h1]
  conv => whnf
  refine ACalls.code tabOk h76 Try.func76 Try.call76 ok76 ?_
  conv => whnf
  rw [hp]
  conv => whnf
  refine getF_q hL rfl ?_
  conv => whnf
  refine Req.of ?_ ?_
  · exact riotC_all hL (fun _ => rfl) rfl
  conv => whnf
  refine ACalls.useE (port_level _ _ _ ?_ ?_ ?_) [2] rfl (by (conv => whnf); try rfl) (by (conv => whnf); try rfl) ?_
  · omega
  · omega
  · omega
  conv => whnf
  refine Req.of ?_ ?_
  · exact riotC_all hL (fun _ => rfl) rfl
  conv => whnf
  exact ⟨rfl, rfl⟩
end Go.Proofs
