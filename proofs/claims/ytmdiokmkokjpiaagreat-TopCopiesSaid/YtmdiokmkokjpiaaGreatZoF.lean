/-
  Walks through the functions of the program, by contract.
-/
import Derived.Test.YtmdiokmkokjpiaaGreatZnF
set_option linter.all false
set_option linter.unusedVariables false
set_option linter.unusedSimpArgs false
set_option linter.unnecessarySimpa false
namespace Go.Proofs
open Go.Aw
set_option maxRecDepth 100000
set_option maxHeartbeats 8000000
theorem sto_4 (s : TS) (hs : s.Top) (v : Int) (hv : 0 ≤ v ∧ v ≤ 255) : ACalls Tryz.prog 8 [.pointer (some ⟨0, 0, none⟩), .int .u16 4, .int .u8 v] (tsH s) fun r H => r = .tuple #[] ∧ H = tsH { s with L := wrg s.L 4 v } := by
  have hL := hs.L
  have hL2 : Rg (wrg s.L 4 v) := hL.wr 4 hv
  refine ACalls.code tabOk h8 Tryz.func8 Tryz.call8 ok8 ?_
  conv => whnf
  refine getF_rg hL 4 rfl (by decide) ?_
  conv => whnf
  refine ACalls.code tabOk h20 Tryz.func20 Tryz.call20 ok20 ?_
  conv => whnf
  refine Req.of ?_ ?_
  · exact recC_all rfl (hL.all fun _ => rfl) rfl
  conv => whnf
  refine putF_rg hL 4 rfl (by decide) ?_
  conv => whnf
  refine Req.of ?_ ?_
  · exact recC_all rfl (hL2.all fun _ => rfl) rfl
  conv => whnf
  exact ⟨rfl, rfl⟩
theorem sto_6 (s : TS) (hs : s.Top) (v : Int) (hv : 0 ≤ v ∧ v ≤ 255) : ACalls Tryz.prog 8 [.pointer (some ⟨0, 0, none⟩), .int .u16 6, .int .u8 v] (tsH s) fun r H => r = .tuple #[] ∧ H = tsH { s with L := wrg s.L 6 v } := by
  have hL := hs.L
  have hL2 : Rg (wrg s.L 6 v) := hL.wr 6 hv
  refine ACalls.code tabOk h8 Tryz.func8 Tryz.call8 ok8 ?_
  conv => whnf
  refine getF_rg hL 6 rfl (by decide) ?_
  conv => whnf
  refine ACalls.code tabOk h20 Tryz.func20 Tryz.call20 ok20 ?_
  conv => whnf
  refine Req.of ?_ ?_
  · exact recC_all rfl (hL.all fun _ => rfl) rfl
  conv => whnf
  refine putF_rg hL 6 rfl (by decide) ?_
  conv => whnf
  refine Req.of ?_ ?_
  · exact recC_all rfl (hL2.all fun _ => rfl) rfl
  conv => whnf
  exact ⟨rfl, rfl⟩
theorem sto_7 (s : TS) (hs : s.Top) (v : Int) (hv : 0 ≤ v ∧ v ≤ 255) : ACalls Tryz.prog 8 [.pointer (some ⟨0, 0, none⟩), .int .u16 7, .int .u8 v] (tsH s) fun r H => r = .tuple #[] ∧ H = tsH { s with L := wrg s.L 7 v } := by
  have hL := hs.L
  have hL2 : Rg (wrg s.L 7 v) := hL.wr 7 hv
  refine ACalls.code tabOk h8 Tryz.func8 Tryz.call8 ok8 ?_
  conv => whnf
  refine getF_rg hL 7 rfl (by decide) ?_
  conv => whnf
  refine ACalls.code tabOk h20 Tryz.func20 Tryz.call20 ok20 ?_
  conv => whnf
  refine Req.of ?_ ?_
  · exact recC_all rfl (hL.all fun _ => rfl) rfl
  conv => whnf
  refine putF_rg hL 7 rfl (by decide) ?_
  conv => whnf
  refine Req.of ?_ ?_
  · exact recC_all rfl (hL2.all fun _ => rfl) rfl
  conv => whnf
  exact ⟨rfl, rfl⟩
theorem sto_8 (s : TS) (hs : s.Top) (v : Int) (hv : 0 ≤ v ∧ v ≤ 255) : ACalls Tryz.prog 8 [.pointer (some ⟨0, 0, none⟩), .int .u16 8, .int .u8 v] (tsH s) fun r H => r = .tuple #[] ∧ H = tsH { s with L := wrg s.L 8 v } := by
  have hL := hs.L
  have hL2 : Rg (wrg s.L 8 v) := hL.wr 8 hv
  refine ACalls.code tabOk h8 Tryz.func8 Tryz.call8 ok8 ?_
  conv => whnf
  refine getF_rg hL 8 rfl (by decide) ?_
  conv => whnf
  refine ACalls.code tabOk h20 Tryz.func20 Tryz.call20 ok20 ?_
  conv => whnf
  refine Req.of ?_ ?_
  · exact recC_all rfl (hL.all fun _ => rfl) rfl
  conv => whnf
  refine putF_rg hL 8 rfl (by decide) ?_
  conv => whnf
  refine Req.of ?_ ?_
  · exact recC_all rfl (hL2.all fun _ => rfl) rfl
  conv => whnf
  exact ⟨rfl, rfl⟩
theorem sto_9 (s : TS) (hs : s.Top) (v : Int) (hv : 0 ≤ v ∧ v ≤ 255) : ACalls Tryz.prog 8 [.pointer (some ⟨0, 0, none⟩), .int .u16 9, .int .u8 v] (tsH s) fun r H => r = .tuple #[] ∧ H = tsH { s with L := wrg s.L 9 v } := by
  have hL := hs.L
  have hL2 : Rg (wrg s.L 9 v) := hL.wr 9 hv
  refine ACalls.code tabOk h8 Tryz.func8 Tryz.call8 ok8 ?_
  conv => whnf
  refine getF_rg hL 9 rfl (by decide) ?_
  conv => whnf
  refine ACalls.code tabOk h20 Tryz.func20 Tryz.call20 ok20 ?_
  conv => whnf
  refine Req.of ?_ ?_
  · exact recC_all rfl (hL.all fun _ => rfl) rfl
  conv => whnf
  refine putF_rg hL 9 rfl (by decide) ?_
  conv => whnf
  refine Req.of ?_ ?_
  · exact recC_all rfl (hL2.all fun _ => rfl) rfl
  conv => whnf
  exact ⟨rfl, rfl⟩
theorem sto_10 (s : TS) (hs : s.Top) (v : Int) (hv : 0 ≤ v ∧ v ≤ 255) : ACalls Tryz.prog 8 [.pointer (some ⟨0, 0, none⟩), .int .u16 10, .int .u8 v] (tsH s) fun r H => r = .tuple #[] ∧ H = tsH { s with L := wrg s.L 10 v } := by
  have hL := hs.L
  have hL2 : Rg (wrg s.L 10 v) := hL.wr 10 hv
  refine ACalls.code tabOk h8 Tryz.func8 Tryz.call8 ok8 ?_
  conv => whnf
  refine getF_rg hL 10 rfl (by decide) ?_
  conv => whnf
  refine ACalls.code tabOk h20 Tryz.func20 Tryz.call20 ok20 ?_
  conv => whnf
  refine Req.of ?_ ?_
  · exact recC_all rfl (hL.all fun _ => rfl) rfl
  conv => whnf
  refine putF_rg hL 10 rfl (by decide) ?_
  conv => whnf
  refine Req.of ?_ ?_
  · exact recC_all rfl (hL2.all fun _ => rfl) rfl
  conv => whnf
  exact ⟨rfl, rfl⟩
theorem sto_13 (s : TS) (hs : s.Top) (v : Int) (hv : 0 ≤ v ∧ v ≤ 255) : ACalls Tryz.prog 8 [.pointer (some ⟨0, 0, none⟩), .int .u16 13, .int .u8 v] (tsH s) fun r H => r = .tuple #[] ∧ H = tsH { s with L := wrg s.L 13 v } := by
  have hL := hs.L
  have hL2 : Rg (wrg s.L 13 v) := hL.wr 13 hv
  refine ACalls.code tabOk h8 Tryz.func8 Tryz.call8 ok8 ?_
  conv => whnf
  refine getF_rg hL 13 rfl (by decide) ?_
  conv => whnf
  refine ACalls.code tabOk h20 Tryz.func20 Tryz.call20 ok20 ?_
  conv => whnf
  refine Req.of ?_ ?_
  · exact recC_all rfl (hL.all fun _ => rfl) rfl
  conv => whnf
  refine putF_rg hL 13 rfl (by decide) ?_
  conv => whnf
  refine Req.of ?_ ?_
  · exact recC_all rfl (hL2.all fun _ => rfl) rfl
  conv => whnf
  exact ⟨rfl, rfl⟩
theorem sto_14 (s : TS) (hs : s.Top) (v : Int) (hv : 0 ≤ v ∧ v ≤ 255) : ACalls Tryz.prog 8 [.pointer (some ⟨0, 0, none⟩), .int .u16 14, .int .u8 v] (tsH s) fun r H => r = .tuple #[] ∧ H = tsH { s with L := wrg s.L 14 v } := by
  have hL := hs.L
  have hL2 : Rg (wrg s.L 14 v) := hL.wr 14 hv
  refine ACalls.code tabOk h8 Tryz.func8 Tryz.call8 ok8 ?_
  conv => whnf
  refine getF_rg hL 14 rfl (by decide) ?_
  conv => whnf
  refine ACalls.code tabOk h20 Tryz.func20 Tryz.call20 ok20 ?_
  conv => whnf
  refine Req.of ?_ ?_
  · exact recC_all rfl (hL.all fun _ => rfl) rfl
  conv => whnf
  refine putF_rg hL 14 rfl (by decide) ?_
  conv => whnf
  refine Req.of ?_ ?_
  · exact recC_all rfl (hL2.all fun _ => rfl) rfl
  conv => whnf
  exact ⟨rfl, rfl⟩
theorem sto_15 (s : TS) (hs : s.Top) (v : Int) (hv : 0 ≤ v ∧ v ≤ 255) : ACalls Tryz.prog 8 [.pointer (some ⟨0, 0, none⟩), .int .u16 15, .int .u8 v] (tsH s) fun r H => r = .tuple #[] ∧ H = tsH { s with L := wrg s.L 15 v } := by
  have hL := hs.L
  have hL2 : Rg (wrg s.L 15 v) := hL.wr 15 hv
  refine ACalls.code tabOk h8 Tryz.func8 Tryz.call8 ok8 ?_
  conv => whnf
  refine getF_rg hL 15 rfl (by decide) ?_
  conv => whnf
  refine ACalls.code tabOk h20 Tryz.func20 Tryz.call20 ok20 ?_
  conv => whnf
  refine Req.of ?_ ?_
  · exact recC_all rfl (hL.all fun _ => rfl) rfl
  conv => whnf
  refine putF_rg hL 15 rfl (by decide) ?_
  conv => whnf
  refine Req.of ?_ ?_
  · exact recC_all rfl (hL2.all fun _ => rfl) rfl
  conv => whnf
  exact ⟨rfl, rfl⟩
theorem sto_16 (s : TS) (hs : s.Top) : ACalls Tryz.prog 8 [.pointer (some ⟨0, 0, none⟩), .int .u16 16, .int .u8 0] (tsH s) fun r H => r = .tuple #[] ∧ H = tsH { s with t0 := ⟨0, s.t0.ln, s.t0.sc⟩ } := by
  have hL := hs.L
  have h1 := hs.t0.ln
  have h2 := hs.t0.sc
  have h3 := hs.t0.p
  refine ACalls.code tabOk h8 Tryz.func8 Tryz.call8 ok8 ?_
  conv => whnf
  refine getF_rg hL 16 rfl (by decide) ?_
  conv => whnf
  refine ACalls.code tabOk h20 Tryz.func20 Tryz.call20 ok20 ?_
  conv => whnf
  refine Req.of ?_ ?_
  · exact recC_all rfl (hL.all fun _ => rfl) rfl
  conv => whnf
  refine getF_pre rfl ?_
  conv => whnf
  refine ACalls.useE (th_put0 _ _ _) [3, 13, 25, 26, 35] rfl (by (conv => whnf); first | done | rfl | (refine renL_rec hL.flat ?_; (conv => whnf); first | done | rfl)) (by (conv => whnf); try rfl) ?_
  conv => whnf
  refine Req.of ?_ ?_
  · exact recC_all rfl (hL.all fun _ => rfl) rfl
  conv => whnf
  exact ⟨rfl, rfl⟩
theorem sto_17 (s : TS) (hs : s.Top) : ACalls Tryz.prog 8 [.pointer (some ⟨0, 0, none⟩), .int .u16 17, .int .u8 0] (tsH s) fun r H => r = .tuple #[] ∧ H = tsH { s with t1 := ⟨0, s.t1.ln, s.t1.sc⟩ } := by
  have hL := hs.L
  have h1 := hs.t1.ln
  have h2 := hs.t1.sc
  have h3 := hs.t1.p
  refine ACalls.code tabOk h8 Tryz.func8 Tryz.call8 ok8 ?_
  conv => whnf
  refine getF_rg hL 17 rfl (by decide) ?_
  conv => whnf
  refine ACalls.code tabOk h20 Tryz.func20 Tryz.call20 ok20 ?_
  conv => whnf
  refine Req.of ?_ ?_
  · exact recC_all rfl (hL.all fun _ => rfl) rfl
  conv => whnf
  refine getF_pre rfl ?_
  conv => whnf
  refine ACalls.useE (th_put0 _ _ _) [4, 14, 27, 28, 36] rfl (by (conv => whnf); first | done | rfl | (refine renL_rec hL.flat ?_; (conv => whnf); first | done | rfl)) (by (conv => whnf); try rfl) ?_
  conv => whnf
  refine Req.of ?_ ?_
  · exact recC_all rfl (hL.all fun _ => rfl) rfl
  conv => whnf
  exact ⟨rfl, rfl⟩
theorem sto_27 (s : TS) (hs : s.Top) (v : Int) (hv : 0 ≤ v ∧ v ≤ 255) : ACalls Tryz.prog 8 [.pointer (some ⟨0, 0, none⟩), .int .u16 27, .int .u8 v] (tsH s) fun r H => r = .tuple #[] ∧ H = tsH { s with g00 := v, g11 := s.g10 } := by
  have hL := hs.L
  refine ACalls.code tabOk h8 Tryz.func8 Tryz.call8 ok8 ?_
  conv => whnf
  refine getF_rg hL 27 rfl (by decide) ?_
  conv => whnf
  refine ACalls.code tabOk h20 Tryz.func20 Tryz.call20 ok20 ?_
  conv => whnf
  refine Req.of ?_ ?_
  · exact recC_all rfl (hL.all fun _ => rfl) rfl
  conv => whnf
  refine putF_sufR hL.len 0 rfl ?_
  conv => whnf
  refine getF_suf hL.len 2 rfl ?_
  conv => whnf
  refine putF_sufR hL.len 3 rfl ?_
  conv => whnf
  refine Req.of ?_ ?_
  · exact recC_all rfl (hL.all fun _ => rfl) rfl
  conv => whnf
  exact ⟨rfl, rfl⟩
theorem sto_28 (s : TS) (hs : s.Top) (v : Int) (hv : 0 ≤ v ∧ v ≤ 255) : ACalls Tryz.prog 8 [.pointer (some ⟨0, 0, none⟩), .int .u16 28, .int .u8 v] (tsH s) fun r H => r = .tuple #[] ∧ H = tsH { s with g10 := v, g01 := s.g00, b1 := s.b0 } := by
  have hL := hs.L
  refine ACalls.code tabOk h8 Tryz.func8 Tryz.call8 ok8 ?_
  conv => whnf
  refine getF_rg hL 28 rfl (by decide) ?_
  conv => whnf
  refine ACalls.code tabOk h20 Tryz.func20 Tryz.call20 ok20 ?_
  conv => whnf
  refine Req.of ?_ ?_
  · exact recC_all rfl (hL.all fun _ => rfl) rfl
  conv => whnf
  refine getF_suf hL.len 4 rfl ?_
  conv => whnf
  refine putF_sufR hL.len 5 rfl ?_
  conv => whnf
  refine putF_sufR hL.len 2 rfl ?_
  conv => whnf
  refine getF_suf hL.len 0 rfl ?_
  conv => whnf
  refine putF_sufR hL.len 1 rfl ?_
  conv => whnf
  refine Req.of ?_ ?_
  · exact recC_all rfl (hL.all fun _ => rfl) rfl
  conv => whnf
  exact ⟨rfl, rfl⟩
theorem sto_44 (s : TS) (hs : s.Top) : ACalls Tryz.prog 8 [.pointer (some ⟨0, 0, none⟩), .int .u16 44, .int .u8 0] (tsH s) fun r H => r = .tuple #[] ∧ H = tsH { s with met := 0 } := by
  have hL := hs.L
  refine ACalls.code tabOk h8 Tryz.func8 Tryz.call8 ok8 ?_
  conv => whnf
  refine getF_rg hL 44 rfl (by decide) ?_
  conv => whnf
  refine ACalls.code tabOk h20 Tryz.func20 Tryz.call20 ok20 ?_
  conv => whnf
  refine Req.of ?_ ?_
  · exact recC_all rfl (hL.all fun _ => rfl) rfl
  conv => whnf
  refine putF_sufR hL.len 6 rfl ?_
  conv => whnf
  refine Req.of ?_ ?_
  · exact recC_all rfl (hL.all fun _ => rfl) rfl
  conv => whnf
  exact ⟨rfl, rfl⟩
end Go.Proofs
