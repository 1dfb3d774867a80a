/-
  Walks through the functions of the program, by contract.
-/
import Derived.Test.YtmdiokmkokjpiaaGreatZkF
set_option linter.all false
set_option linter.unusedVariables false
set_option linter.unusedSimpArgs false
set_option linter.unnecessarySimpa false
namespace Go.Proofs
open Go.Aw
set_option maxRecDepth 100000
set_option maxHeartbeats 8000000
theorem take3_rg {A L R : List Value} (h : Rg L) (j : Nat) {o m : Nat} {k : List Value → Prop} (ho : o = A.length + j) (hm : m = 3) (hj : j + 3 ≤ 64) (hk : k [.int .u8 (rg L j), .int .u8 (rg L (j + 1)), .int .u8 (rg L (j + 2))]) : dropF (recC A L R) o (fun d => takeF d m k) := by
  subst ho; subst hm
  have hl := h.len
  refine dropF_of (by rw [recC_len hl]; omega) (takeF_of (by rw [List.length_drop, recC_len hl]; omega) ?_)
  have e : ((recC A L R).drop (A.length + j)).take 3 = [.int .u8 (rg L j), .int .u8 (rg L (j + 1)), .int .u8 (rg L (j + 2))] := by
    rw [recC_eq, List.drop_append, List.drop_eq_nil_of_le (by omega), List.nil_append, Nat.add_sub_cancel_left, List.drop_append_of_le_length (by omega), List.take_append_of_le_length (by rw [List.length_drop]; omega)]
    apply List.ext_getElem?
    intro i
    rw [List.getElem?_take, List.getElem?_drop]
    by_cases h0 : i = 0
    · subst h0; rw [if_pos (by decide), h.at (by omega)]; rfl
    · by_cases h1 : i = 1
      · subst h1; rw [if_pos (by decide), h.at (by omega)]; rfl
      · by_cases h2 : i = 2
        · subst h2; rw [if_pos (by decide), h.at (by omega)]; rfl
        · rw [if_neg (by omega), List.getElem?_eq_none (by simp; omega)]
  rw [e]; exact hk
@[irreducible] def pfB (s : TS) (x : Int) : Bool := litI (rg s.L 13) (rg s.L 14) (rg s.L 15) (rg s.L 10) x
theorem td (s : TS) (hs : s.Top) (x : Int) : ACalls Tryz.prog 73 [.pointer (some ⟨0, 0, none⟩), .int .i64 x] (tsH s) fun v H => v = .agg #[.bool (plB0 s), .bool (plB1 s), .bool false, .bool false, .bool false, .bool (pfB s x)] ∧ H = tsH s := by
  have hL := hs.L
  have z1 := hs.z 39 (by decide)
  have hb := hs.b0
  have l13 := hL.le (j := 13) (by decide)
  have l14 := hL.le (j := 14) (by decide)
  have l15 := hL.le (j := 15) (by decide)
  unfold pfB
  refine ACalls.code tabOk h73 Tryz.func73 Tryz.call73 ok73 ?_
  conv => whnf
  refine take3_rg hL 13 rfl rfl (by decide) ?_
  conv => whnf
  refine getF_rg hL 10 rfl (by decide) ?_
  conv => whnf
  refine ACalls.useE (tp0 s ?_) [0, 1, 2, 3, 4, 5, 6, 7, 8, 9, 10, 11, 12, 13, 14, 15, 16, 17, 18, 19, 20, 21, 22, 23, 24, 25, 26, 27, 28, 29, 30, 31, 32, 33, 34, 35, 36, 37, 38, 39] rfl (by (conv => whnf); first | done | rfl | (refine renL_rec hL.flat ?_; (conv => whnf); first | done | rfl)) (by (conv => whnf); try rfl) ?_
  · omega
  conv => whnf
  refine renL_rec hL.flat ?_
  conv => whnf
  refine getF_rg hL 10 rfl (by decide) ?_
  conv => whnf
  refine ⟨rfl, ?_⟩
  conv => whnf
  refine take3_rg hL 13 rfl rfl (by decide) ?_
  conv => whnf
  refine ⟨rfl, ?_⟩
  conv => whnf
  refine ACalls.useE (tp1 s ?_) [0, 1, 2, 3, 4, 5, 6, 7, 8, 9, 10, 11, 12, 13, 14, 15, 16, 17, 18, 19, 20, 21, 22, 23, 24, 25, 26, 27, 28, 29, 30, 31, 32, 33, 34, 35, 36, 37, 38, 39] rfl (by (conv => whnf); first | done | rfl | (refine renL_rec hL.flat ?_; (conv => whnf); first | done | rfl)) (by (conv => whnf); try rfl) ?_
  · omega
  conv => whnf
  refine renL_rec hL.flat ?_
  conv => whnf
  refine getF_rg hL 10 rfl (by decide) ?_
  conv => whnf
  refine ⟨rfl, ?_⟩
  conv => whnf
  refine take3_rg hL 13 rfl rfl (by decide) ?_
  conv => whnf
  refine ⟨rfl, ?_⟩
  conv => whnf
  refine ACalls.useE (tm0 s ?_) [0, 1, 2, 3, 4, 5, 6, 7, 8, 9, 10, 11, 12, 13, 14, 15, 16, 17, 18, 19, 20, 21, 22, 23, 24, 25, 26, 27, 28, 29, 30, 31, 32, 33, 34, 35, 36, 37, 38, 39] rfl (by (conv => whnf); first | done | rfl | (refine renL_rec hL.flat ?_; (conv => whnf); first | done | rfl)) (by (conv => whnf); try rfl) ?_
  · omega
  conv => whnf
  refine renL_rec hL.flat ?_
  conv => whnf
  refine getF_rg hL 10 rfl (by decide) ?_
  conv => whnf
  refine ⟨rfl, ?_⟩
  conv => whnf
  refine take3_rg hL 13 rfl rfl (by decide) ?_
  conv => whnf
  refine ⟨rfl, ?_⟩
  conv => whnf
  refine ACalls.useE (tm1 s ?_) [0, 1, 2, 3, 4, 5, 6, 7, 8, 9, 10, 11, 12, 13, 14, 15, 16, 17, 18, 19, 20, 21, 22, 23, 24, 25, 26, 27, 28, 29, 30, 31, 32, 33, 34, 35, 36, 37, 38, 39] rfl (by (conv => whnf); first | done | rfl | (refine renL_rec hL.flat ?_; (conv => whnf); first | done | rfl)) (by (conv => whnf); try rfl) ?_
  · omega
  conv => whnf
  refine renL_rec hL.flat ?_
  conv => whnf
  refine getF_rg hL 10 rfl (by decide) ?_
  conv => whnf
  refine ⟨rfl, ?_⟩
  conv => whnf
  refine take3_rg hL 13 rfl rfl (by decide) ?_
  conv => whnf
  refine ⟨rfl, ?_⟩
  conv => whnf
  refine ACalls.code tabOk h90 Tryz.func90 Tryz.call90 ok90 ?_
  conv => whnf
  refine getF_rg hL 39 rfl (by decide) ?_
  conv => whnf
  rw [z1]
  conv => whnf
  refine Req.of ?_ ?_
  · exact recC_all rfl (hL.all fun _ => rfl) rfl
  conv => whnf
  refine getF_rg hL 10 rfl (by decide) ?_
  conv => whnf
  refine ⟨rfl, ?_⟩
  conv => whnf
  refine take3_rg hL 13 rfl rfl (by decide) ?_
  conv => whnf
  refine ⟨rfl, ?_⟩
  conv => whnf
  refine getF_suf hL.len 4 rfl ?_
  conv => whnf
  refine Bif.knF ?_ fun h0 => ?_
  · with_reducible assumption
  conv => whnf
  refine Bif.knF ?_ fun h1 => ?_
  · with_reducible assumption
  conv => whnf
  refine Bif.knF ?_ fun h2 => ?_
  · with_reducible assumption
  conv => whnf
  refine Bif.knF ?_ fun h3 => ?_
  · with_reducible assumption
  conv => whnf
  refine Bif.knF ?_ fun h4 => ?_
  · with_reducible assumption
  conv => whnf
  refine ACalls.useE (field_lit _ _ _ _ _ ?_ ?_ ?_) [] rfl (by (conv => whnf); first | done | rfl | (refine renL_rec hL.flat ?_; (conv => whnf); first | done | rfl)) (by (conv => whnf); try rfl) ?_
  · omega
  · omega
  · omega
  conv => whnf
  refine Req.of ?_ ?_
  · exact recC_all rfl (hL.all fun _ => rfl) rfl
  conv => whnf
  exact ⟨rfl, rfl⟩
/-- Which colour is seen. -/
@[irreducible] def snB (s : TS) (x : Int) : Nat := (seenB (plB0 s) (plB1 s) false false false (pfB s x) (fA (rg s.L 10)) (fS (rg s.L 10)) (decide (x < 80))).toNat
theorem seen_bd (d0 d1 d2 d3 d4 d5 a s xl : Bool) : 0 ≤ seenB d0 d1 d2 d3 d4 d5 a s xl ∧ seenB d0 d1 d2 d3 d4 d5 a s xl ≤ 3 := by
  cases d0 <;> cases d1 <;> cases d2 <;> cases d3 <;> cases d4 <;> cases d5 <;> cases a <;> cases s <;> cases xl <;> decide
theorem snB_le (s : TS) (x : Int) : snB s x ≤ 3 := by
  have := seen_bd (plB0 s) (plB1 s) false false false (pfB s x) (fA (rg s.L 10)) (fS (rg s.L 10)) (decide (x < 80))
  unfold snB; omega
theorem snB_eq (s : TS) (x : Int) : seenB (plB0 s) (plB1 s) false false false (pfB s x) (fA (rg s.L 10)) (fS (rg s.L 10)) (decide (x < 80)) = ((snB s x : Nat) : Int) := by
  have := seen_bd (plB0 s) (plB1 s) false false false (pfB s x) (fA (rg s.L 10)) (fS (rg s.L 10)) (decide (x < 80))
  unfold snB; omega
@[irreducible] def pxI (s : TS) (x : Int) : Int := bits .andNot .u8 (rg s.L (6 + snB s x)) 1
@[irreducible] def mtI (s : TS) (x : Int) : Int := bits .or .u16 s.met (meetN (plB0 s) (plB1 s) false false false (pfB s x) 15)
theorem tdraw (s : TS) (hs : s.Top) (x : Int) : ACalls Tryz.prog 43 [.pointer (some ⟨0, 0, none⟩), .int .i64 x] (tsH s) fun v H => v = .int .u8 (pxI s x) ∧ H = tsH { s with met := mtI s x } := by
  have hL := hs.L
  have hsn := snB_eq s x
  have hle := snB_le s x
  have l10 := hL.le (j := 10) (by decide)
  have e6 : IntKind.i64.wrap (6 + ((snB s x : Nat) : Int)) = ((6 + snB s x : Nat) : Int) := by rw [wrap64 (by omega) (by omega)]; omega
  unfold mtI pxI
  refine ACalls.code tabOk h43 Tryz.func43 Tryz.call43 ok43 ?_
  conv => whnf
  refine ACalls.useE (td s ?_ _) [0, 1, 2, 3, 4, 5, 6, 7, 8, 9, 10, 11, 12, 13, 14, 15, 16, 17, 18, 19, 20, 21, 22, 23, 24, 25, 26, 27, 28, 29, 30, 31, 32, 33, 34, 35, 36, 37, 38, 39] rfl (by (conv => whnf); first | done | rfl | (refine renL_rec hL.flat ?_; (conv => whnf); first | done | rfl)) (by (conv => whnf); try rfl) ?_
  · omega
  conv => whnf
  refine renL_rec hL.flat ?_
  conv => whnf
  refine getF_suf hL.len 6 rfl ?_
  conv => whnf
  refine ACalls.useE (field_meet _ _ _ _ _ _) [] rfl (by (conv => whnf); first | done | rfl | (refine renL_rec hL.flat ?_; (conv => whnf); first | done | rfl)) (by (conv => whnf); try rfl) ?_
  conv => whnf
  refine getF_suf hL.len 6 rfl ?_
  conv => whnf
  refine ⟨rfl, ?_⟩
  conv => whnf
  refine putF_sufR hL.len 6 rfl ?_
  conv => whnf
  refine getF_rg hL 10 rfl (by decide) ?_
  conv => whnf
  refine ACalls.useE (field_seen _ _ _ _ _ _ _ _ ?_) [] rfl (by (conv => whnf); first | done | rfl | (refine renL_rec hL.flat ?_; (conv => whnf); first | done | rfl)) (by (conv => whnf); try rfl) ?_
  · omega
  conv => whnf
  rw [hsn]
  conv => whnf
  rw [e6]
  conv => whnf
  refine Req.of ?_ ?_
  · (simp; omega)
  conv => whnf
  refine getF_rg hL (6 + snB s x) (by first | omega | (simp [tsA]; omega)) (by omega) ?_
  conv => whnf
  refine Req.of ?_ ?_
  · exact recC_all rfl (hL.all fun _ => rfl) rfl
  conv => whnf
  exact ⟨rfl, rfl⟩
theorem shr0 : (0 : Int).fdiv (2 ^ min (4 : Int).toNat IntKind.u8.bits) = 0 := by decide
theorem tnib (s : TS) (hs : s.Top) : ACalls Tryz.prog 39 [.pointer (some ⟨0, 0, none⟩)] (tsH s) fun v H => v = .agg #[.int .u8 0, .int .u8 0, .int .u8 0, .int .u8 0, .int .u8 0] ∧ H = tsH s := by
  have hL := hs.L
  have z0 := hs.z 32 (by decide)
  have z1 := hs.z 33 (by decide)
  have z2 := hs.z 34 (by decide)
  have z3 := hs.z 35 (by decide)
  have z4 := hs.z 36 (by decide)
  refine ACalls.code tabOk h39 Tryz.func39 Tryz.call39 ok39 ?_
  conv => whnf
  refine ALoop.run 6 ?_
  conv => whnf
  refine getF_rg hL 32 rfl (by decide) ?_
  conv => whnf
  rw [z0]
  conv => whnf
  refine getF_rg hL 33 rfl (by decide) ?_
  conv => whnf
  rw [z1]
  conv => whnf
  refine getF_rg hL 34 rfl (by decide) ?_
  conv => whnf
  rw [z2]
  conv => whnf
  refine getF_rg hL 35 rfl (by decide) ?_
  conv => whnf
  rw [z3]
  conv => whnf
  refine getF_rg hL 36 rfl (by decide) ?_
  conv => whnf
  rw [z4]
  conv => whnf
  refine Req.of ?_ ?_
  · exact recC_all rfl (hL.all fun _ => rfl) rfl
  conv => whnf
  exact ⟨rfl, rfl⟩
theorem mo_idle (k n0 n1 n2 n3 n4 : Int) : ACalls Tryz.prog 38 [.pointer (some ⟨0, 0, none⟩), .int .i64 k, .agg #[.int .u8 n0, .int .u8 n1, .int .u8 n2, .int .u8 n3, .int .u8 n4]] [MS.blk ⟨16, 0, false, false, false, false, false⟩] fun v H => v = .agg #[.bool false, .bool false, .bool false, .bool false, .bool false] ∧ H = [MS.blk ⟨16, 0, false, false, false, false, false⟩] := by
  refine ACalls.code tabOk h38 Tryz.func38 Tryz.call38 ok38 ?_
  conv => whnf
  refine ACalls.useE (motion_busy _ _ _) [0] rfl (by (conv => whnf); try rfl) (by (conv => whnf); try rfl) ?_
  conv => whnf
  exact ⟨rfl, rfl⟩
/-- A thing behind a tick. -/
def TH.tk (t : TH) (u : Int) : TH := ⟨(t.p + 1) % 160, tkLn t.ln (stB (u % 8) ((t.p + 1) % 160)), tkSc t.ln t.sc⟩
theorem TH.tk_ok (t : TH) (u : Int) : (t.tk u).Ok := ⟨Nat.mod_lt _ (by decide), tkLn_lt _ _, tkSc_le _⟩
theorem tk_none (s : TS) (hs : s.Top) : ACalls Tryz.prog 42 [.pointer (some ⟨0, 0, none⟩), .agg #[.bool false, .bool false, .bool false, .bool false, .bool false]] (tsH s) fun v H => v = .tuple #[] ∧ H = tsH s := by
  have hL := hs.L
  refine ACalls.code tabOk h42 Tryz.func42 Tryz.call42 ok42 ?_
  conv => whnf
  refine ALoop.run 6 ?_
  conv => whnf
  refine Req.of ?_ ?_
  · exact recC_all rfl (hL.all fun _ => rfl) rfl
  conv => whnf
  exact ⟨rfl, rfl⟩
theorem tk_all (s : TS) (hs : s.Top) : ACalls Tryz.prog 42 [.pointer (some ⟨0, 0, none⟩), .agg #[.bool true, .bool true, .bool true, .bool true, .bool true]] (tsH s) fun v H => v = .tuple #[] ∧ H = tsH { s with t0 := s.t0.tk (rg s.L 4), t1 := s.t1.tk (rg s.L 5), t2 := s.t2.tk (rg s.L 4), t3 := s.t3.tk (rg s.L 5), t4 := s.t4.tk 0 } := by
  have hL := hs.L
  have l4 := (hL.le (j := 4) (by decide)).1
  have l5 := (hL.le (j := 5) (by decide)).1
  have p0 := hs.t0.p
  have n0 := hs.t0.ln
  have c0 := hs.t0.sc
  have p1 := hs.t1.p
  have n1 := hs.t1.ln
  have c1 := hs.t1.sc
  have p2 := hs.t2.p
  have n2 := hs.t2.ln
  have c2 := hs.t2.sc
  have p3 := hs.t3.p
  have n3 := hs.t3.ln
  have c3 := hs.t3.sc
  have p4 := hs.t4.p
  have n4 := hs.t4.ln
  have c4 := hs.t4.sc
  refine ACalls.code tabOk h42 Tryz.func42 Tryz.call42 ok42 ?_
  conv => whnf
  refine ALoop.run 6 ?_
  conv => whnf
  refine getF_pre rfl ?_
  conv => whnf
  refine ACalls.code tabOk h72 Tryz.func72 Tryz.call72 ok72 ?_
  conv => whnf
  refine getF_rg hL 4 rfl (by decide) ?_
  conv => whnf
  refine Req.of ?_ ?_
  · exact recC_all rfl (hL.all fun _ => rfl) rfl
  conv => whnf
  refine getF_pre rfl ?_
  conv => whnf
  refine ⟨rfl, ?_⟩
  conv => whnf
  refine ACalls.useE (th_tick _ _ _ ?_ ?_ ?_ _ ?_) [3, 13, 25, 26, 35] rfl (by (conv => whnf); first | done | rfl | (refine renL_rec hL.flat ?_; (conv => whnf); first | done | rfl)) (by (conv => whnf); try rfl) ?_
  · omega
  · omega
  · omega
  · omega
  conv => whnf
  refine getF_pre rfl ?_
  conv => whnf
  refine ACalls.code tabOk h72 Tryz.func72 Tryz.call72 ok72 ?_
  conv => whnf
  refine getF_rg hL 5 rfl (by decide) ?_
  conv => whnf
  refine Req.of ?_ ?_
  · exact recC_all rfl (hL.all fun _ => rfl) rfl
  conv => whnf
  refine getF_pre rfl ?_
  conv => whnf
  refine ⟨rfl, ?_⟩
  conv => whnf
  refine ACalls.useE (th_tick _ _ _ ?_ ?_ ?_ _ ?_) [4, 14, 27, 28, 36] rfl (by (conv => whnf); first | done | rfl | (refine renL_rec hL.flat ?_; (conv => whnf); first | done | rfl)) (by (conv => whnf); try rfl) ?_
  · omega
  · omega
  · omega
  · omega
  conv => whnf
  refine getF_pre rfl ?_
  conv => whnf
  refine ACalls.code tabOk h72 Tryz.func72 Tryz.call72 ok72 ?_
  conv => whnf
  refine getF_rg hL 4 rfl (by decide) ?_
  conv => whnf
  refine Req.of ?_ ?_
  · exact recC_all rfl (hL.all fun _ => rfl) rfl
  conv => whnf
  refine getF_pre rfl ?_
  conv => whnf
  refine ⟨rfl, ?_⟩
  conv => whnf
  refine ACalls.useE (th_tick _ _ _ ?_ ?_ ?_ _ ?_) [5, 15, 29, 30, 37] rfl (by (conv => whnf); first | done | rfl | (refine renL_rec hL.flat ?_; (conv => whnf); first | done | rfl)) (by (conv => whnf); try rfl) ?_
  · omega
  · omega
  · omega
  · omega
  conv => whnf
  refine getF_pre rfl ?_
  conv => whnf
  refine ACalls.code tabOk h72 Tryz.func72 Tryz.call72 ok72 ?_
  conv => whnf
  refine getF_rg hL 5 rfl (by decide) ?_
  conv => whnf
  refine Req.of ?_ ?_
  · exact recC_all rfl (hL.all fun _ => rfl) rfl
  conv => whnf
  refine getF_pre rfl ?_
  conv => whnf
  refine ⟨rfl, ?_⟩
  conv => whnf
  refine ACalls.useE (th_tick _ _ _ ?_ ?_ ?_ _ ?_) [6, 16, 31, 32, 38] rfl (by (conv => whnf); first | done | rfl | (refine renL_rec hL.flat ?_; (conv => whnf); first | done | rfl)) (by (conv => whnf); try rfl) ?_
  · omega
  · omega
  · omega
  · omega
  conv => whnf
  refine getF_pre rfl ?_
  conv => whnf
  refine ACalls.code tabOk h72 Tryz.func72 Tryz.call72 ok72 ?_
  conv => whnf
  refine Req.of ?_ ?_
  · exact recC_all rfl (hL.all fun _ => rfl) rfl
  conv => whnf
  refine getF_pre rfl ?_
  conv => whnf
  refine ⟨rfl, ?_⟩
  conv => whnf
  refine ACalls.useE (th_tick _ _ _ ?_ ?_ ?_ _ ?_) [7, 17, 33, 34, 39] rfl (by (conv => whnf); first | done | rfl | (refine renL_rec hL.flat ?_; (conv => whnf); first | done | rfl)) (by (conv => whnf); try rfl) ?_
  · omega
  · omega
  · omega
  · decide
  conv => whnf
  refine Req.of ?_ ?_
  · exact recC_all rfl (hL.all fun _ => rfl) rfl
  conv => whnf
  exact ⟨rfl, rfl⟩
end Go.Proofs
