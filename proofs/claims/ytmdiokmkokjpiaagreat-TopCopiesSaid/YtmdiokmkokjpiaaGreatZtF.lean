/-
  Walks through the functions of the program, by contract.
-/
import Derived.Test.YtmdiokmkokjpiaaGreatZsF
set_option linter.all false
set_option linter.unusedVariables false
set_option linter.unusedSimpArgs false
set_option linter.unnecessarySimpa false
namespace Go.Proofs
open Go.Aw
set_option maxRecDepth 100000
set_option maxHeartbeats 8000000
theorem rowL_congr {q : IntKind} {f g : Nat → Int} {n : Nat} (h : ∀ x, x < n → f x = g x) : rowL q f n = rowL q g n := by
  unfold rowL
  apply List.map_congr_left
  intro j hj
  rw [h j (List.mem_range.1 hj)]
/-- The state in which 'shown' draws the pixel x. -/
theorem shP_at (s : TS) (hs : s.Top) (x : Nat) (hx : x < 160) : shP s x = pxI (stpN (shN s.c + 68 + x) s) (x : Nat) ∧ (stpN (shN s.c + 68 + x) s).c = 68 + x := by
  have hc := hs.c
  have e : (stpN (shN s.c + 68 + x) s).c = 68 + x := by
    rw [stpN_c s hc]
    unfold shN
    omega
  refine ⟨?_, e⟩
  unfold shP pxV
  rw [if_neg (by omega), e, show 68 + x - 68 = x from by omega]
theorem sel4_at (a b c d : Int) (j : Nat) (hj : j ≤ 3) (L : List Value) (h6 : rg L 6 = a) (h7 : rg L 7 = b) (h8 : rg L 8 = c) (h9 : rg L 9 = d) : rg L (6 + j) = sel4 a b c d j := by
  unfold sel4
  have h : j = 0 ∨ j = 1 ∨ j = 2 ∨ j = 3 := by omega
  rcases h with rfl | rfl | rfl | rfl
  · exact h6
  · exact h7
  · exact h8
  · exact h9
theorem shP_field (s : TS) (hs : s.Top) (p0 p1 p2 ct c0 c1 c2 c3 : Int) (g0 : s.g00 = 0) (g1 : s.g10 = 0) (h13 : rg s.L 13 = p0) (h14 : rg s.L 14 = p1) (h15 : rg s.L 15 = p2) (h10 : rg s.L 10 = ct) (h6 : rg s.L 6 = c0) (h7 : rg s.L 7 = c1) (h8 : rg s.L 8 = c2) (h9 : rg s.L 9 = c3) (x : Nat) (hx : x < 160) : shP s x = tfP p0 p1 p2 ct c0 c1 c2 c3 x := by
  obtain ⟨e, hc⟩ := shP_at s hs x hx
  rw [e]
  generalize hq : stpN (shN s.c + 68 + x) s = q at *
  have hL : q.L = s.L := by rw [← hq, stpN_L]
  have b0 : plB0 q = false := plB0_zero (by rw [← hq, stpN_g00, g0])
  have b1 : plB1 q = false := plB1_zero (by rw [← hq, stpN_g10, g1])
  have hn : snB q (x : Nat) = sfN p0 p1 p2 ct x := by
    unfold snB sfN pfB
    rw [b0, b1, hL, h13, h14, h15, h10]
  unfold pxI tfP
  rw [hn, hL, sel4_at c0 c1 c2 c3 _ (sfN_le ..) s.L h6 h7 h8 h9]
/-- The chip ahead of its n-th line. -/
def lnS (s : TS) : Nat → TS
  | 0 => s
  | n + 1 => stpN (shN (lnS s n).c + 228) (lnS s n)
theorem lnS_top {s : TS} (h : s.Top) : ∀ n, (lnS s n).Top
  | 0 => h
  | n + 1 => stpN_top (lnS_top h n) _
theorem lnS_L (s : TS) : ∀ n, (lnS s n).L = s.L
  | 0 => rfl
  | n + 1 => by rw [lnS, stpN_L, lnS_L s n]
theorem lnS_g00 (s : TS) : ∀ n, (lnS s n).g00 = s.g00
  | 0 => rfl
  | n + 1 => by rw [lnS, stpN_g00, lnS_g00 s n]
theorem lnS_g10 (s : TS) : ∀ n, (lnS s n).g10 = s.g10
  | 0 => rfl
  | n + 1 => by rw [lnS, stpN_g10, lnS_g10 s n]
theorem walk_TopField (p0 p1 p2 ct c0 c1 c2 c3 : Int) (w0 : (Lit.int .u8 p0).wf = true) (w1 : (Lit.int .u8 p1).wf = true) (w2 : (Lit.int .u8 p2).wf = true) (wc : (Lit.int .u8 ct).wf = true) (v0 : (Lit.int .u8 c0).wf = true) (v1 : (Lit.int .u8 c1).wf = true) (v2 : (Lit.int .u8 c2).wf = true) (v3 : (Lit.int .u8 c3).wf = true) : ACalls Tryz.prog 3 [.agg #[.int .u8 p0, .int .u8 p1, .int .u8 p2], .int .u8 ct, .agg #[.int .u8 c0, .int .u8 c1, .int .u8 c2, .int .u8 c3]] [] fun v _ => v = .bool true := by
  have h0 := litF_byte w0
  have h1 := litF_byte w1
  have h2 := litF_byte w2
  have hc := litF_byte wc
  have y0 := litF_byte v0
  have y1 := litF_byte v1
  have y2 := litF_byte v2
  have y3 := litF_byte v3
  have s0 : (ts0 0 zeros).Top := ts0_top (by decide)
  have k0 : ACalls Tryz.prog 7 [.int .i64 0] [] fun v H => v = .pointer (some ⟨0, 0, none⟩) ∧ H = tsH (ts0 0 zeros) := tia_new0 0 (by decide)
  obtain ⟨a0, e0⟩ : ∃ a, a = ts0 0 zeros := ⟨_, rfl⟩
  rw [← e0] at s0 k0
  have k1 := sto_13 a0 s0 p0 h0
  obtain ⟨a1, e1⟩ : ∃ a, a = { a0 with L := wrg a0.L 13 p0 } := ⟨_, rfl⟩
  have s1 : a1.Top := by rw [e1]; exact s0.reg 13 h0 (by omega)
  rw [← e1] at k1
  have k2 := sto_14 a1 s1 p1 h1
  obtain ⟨a2, e2⟩ : ∃ a, a = { a1 with L := wrg a1.L 14 p1 } := ⟨_, rfl⟩
  have s2 : a2.Top := by rw [e2]; exact s1.reg 14 h1 (by omega)
  rw [← e2] at k2
  have k3 := sto_15 a2 s2 p2 h2
  obtain ⟨a3, e3⟩ : ∃ a, a = { a2 with L := wrg a2.L 15 p2 } := ⟨_, rfl⟩
  have s3 : a3.Top := by rw [e3]; exact s2.reg 15 h2 (by omega)
  rw [← e3] at k3
  have k4 := sto_6 a3 s3 c0 y0
  obtain ⟨a4, e4⟩ : ∃ a, a = { a3 with L := wrg a3.L 6 c0 } := ⟨_, rfl⟩
  have s4 : a4.Top := by rw [e4]; exact s3.reg 6 y0 (by omega)
  rw [← e4] at k4
  have k5 := sto_7 a4 s4 c1 y1
  obtain ⟨a5, e5⟩ : ∃ a, a = { a4 with L := wrg a4.L 7 c1 } := ⟨_, rfl⟩
  have s5 : a5.Top := by rw [e5]; exact s4.reg 7 y1 (by omega)
  rw [← e5] at k5
  have k6 := sto_8 a5 s5 c2 y2
  obtain ⟨a6, e6⟩ : ∃ a, a = { a5 with L := wrg a5.L 8 c2 } := ⟨_, rfl⟩
  have s6 : a6.Top := by rw [e6]; exact s5.reg 8 y2 (by omega)
  rw [← e6] at k6
  have k7 := sto_9 a6 s6 c3 y3
  obtain ⟨a7, e7⟩ : ∃ a, a = { a6 with L := wrg a6.L 9 c3 } := ⟨_, rfl⟩
  have s7 : a7.Top := by rw [e7]; exact s6.reg 9 y3 (by omega)
  rw [← e7] at k7
  have k8 := sto_10 a7 s7 ct hc
  obtain ⟨a8, e8⟩ : ∃ a, a = { a7 with L := wrg a7.L 10 ct } := ⟨_, rfl⟩
  have s8 : a8.Top := by rw [e8]; exact s7.reg 10 hc (by omega)
  rw [← e8] at k8
  have l1 : a1.L = wrg a0.L 13 p0 := by rw [e1]
  have l2 : a2.L = wrg a1.L 14 p1 := by rw [e2]
  have l3 : a3.L = wrg a2.L 15 p2 := by rw [e3]
  have l4 : a4.L = wrg a3.L 6 c0 := by rw [e4]
  have l5 : a5.L = wrg a4.L 7 c1 := by rw [e5]
  have l6 : a6.L = wrg a5.L 8 c2 := by rw [e6]
  have l7 : a7.L = wrg a6.L 9 c3 := by rw [e7]
  have l8 : a8.L = wrg a7.L 10 ct := by rw [e8]
  have g0 : a8.g00 = 0 := by rw [e8, e7, e6, e5, e4, e3, e2, e1, e0]; rfl
  have g1 : a8.g10 = 0 := by rw [e8, e7, e6, e5, e4, e3, e2, e1, e0]; rfl
  clear e0 e1 e2 e3 e4 e5 e6 e7 e8
  have r8 : ∀ j, j < 64 → rg a8.L j = if j = 10 then ct else rg a7.L j := fun j hj => by rw [l8]; exact rg_wr s7.L hj
  have r7 : ∀ j, j < 64 → rg a7.L j = if j = 9 then c3 else rg a6.L j := fun j hj => by rw [l7]; exact rg_wr s6.L hj
  have r6 : ∀ j, j < 64 → rg a6.L j = if j = 8 then c2 else rg a5.L j := fun j hj => by rw [l6]; exact rg_wr s5.L hj
  have r5 : ∀ j, j < 64 → rg a5.L j = if j = 7 then c1 else rg a4.L j := fun j hj => by rw [l5]; exact rg_wr s4.L hj
  have r4 : ∀ j, j < 64 → rg a4.L j = if j = 6 then c0 else rg a3.L j := fun j hj => by rw [l4]; exact rg_wr s3.L hj
  have r3 : ∀ j, j < 64 → rg a3.L j = if j = 15 then p2 else rg a2.L j := fun j hj => by rw [l3]; exact rg_wr s2.L hj
  have r2 : ∀ j, j < 64 → rg a2.L j = if j = 14 then p1 else rg a1.L j := fun j hj => by rw [l2]; exact rg_wr s1.L hj
  have r1 : ∀ j, j < 64 → rg a1.L j = if j = 13 then p0 else rg a0.L j := fun j hj => by rw [l1]; exact rg_wr s0.L hj
  refine tfieldG p0 p1 p2 ct c0 c1 c2 c3 h0 h1 h2 hc a0 a1 a2 a3 a4 a5 a6 a7 (lnS a8) s0 s1 s2 s3 s4 s5 s6 s7 (lnS_top s8) k0 k1 k2 k3 k4 k5 k6 k7 k8 fun n => ?_
  have hl := lnS_L a8 n
  have hg0 := lnS_g00 a8 n
  have hg1 := lnS_g10 a8 n
  have ht := lnS_top s8 n
  refine (tshown (lnS a8 n) ht).mono fun v H hh => ⟨hh.1.trans ?_, hh.2⟩
  congr 2
  refine rowL_congr fun x hx => ?_
  rw [g0] at hg0
  rw [g1] at hg1
  refine shP_field _ ht p0 p1 p2 ct c0 c1 c2 c3 hg0 hg1 ?_ ?_ ?_ ?_ ?_ ?_ ?_ ?_ x hx <;> rw [hl]
  · rw [r8 _ (by decide), if_neg (by decide), r7 _ (by decide), if_neg (by decide), r6 _ (by decide), if_neg (by decide), r5 _ (by decide), if_neg (by decide), r4 _ (by decide), if_neg (by decide), r3 _ (by decide), if_neg (by decide), r2 _ (by decide), if_neg (by decide), r1 _ (by decide), if_pos rfl]
  · rw [r8 _ (by decide), if_neg (by decide), r7 _ (by decide), if_neg (by decide), r6 _ (by decide), if_neg (by decide), r5 _ (by decide), if_neg (by decide), r4 _ (by decide), if_neg (by decide), r3 _ (by decide), if_neg (by decide), r2 _ (by decide), if_pos rfl]
  · rw [r8 _ (by decide), if_neg (by decide), r7 _ (by decide), if_neg (by decide), r6 _ (by decide), if_neg (by decide), r5 _ (by decide), if_neg (by decide), r4 _ (by decide), if_neg (by decide), r3 _ (by decide), if_pos rfl]
  · rw [r8 _ (by decide), if_pos rfl]
  · rw [r8 _ (by decide), if_neg (by decide), r7 _ (by decide), if_neg (by decide), r6 _ (by decide), if_neg (by decide), r5 _ (by decide), if_neg (by decide), r4 _ (by decide), if_pos rfl]
  · rw [r8 _ (by decide), if_neg (by decide), r7 _ (by decide), if_neg (by decide), r6 _ (by decide), if_neg (by decide), r5 _ (by decide), if_pos rfl]
  · rw [r8 _ (by decide), if_neg (by decide), r7 _ (by decide), if_neg (by decide), r6 _ (by decide), if_pos rfl]
  · rw [r8 _ (by decide), if_neg (by decide), r7 _ (by decide), if_pos rfl]
end Go.Proofs
