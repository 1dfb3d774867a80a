/-
  Walks through the functions of the program, by contract.
-/
import Derived.Test.YtbngapokpmifnaaRiot3F
set_option linter.all false
set_option linter.unusedVariables false
set_option linter.unusedSimpArgs false
set_option linter.unnecessarySimpa false
namespace Go.Proofs
open Go.Aw
set_option maxRecDepth 100000
set_option maxHeartbeats 8000000
theorem awake08 : ACalls Try.prog 52 [] [] fun v H => v = .bool true ∧ H = [] := by
  refine ACalls.code tabOk h52 Try.func52 Try.call52 ok52 ?_
  conv => whnf
  refine ACalls.useX riot_new0 [] rfl (by (conv => whnf); try rfl) (by (conv => whnf); try rfl) ?_
  rintro L ⟨hL, hz⟩
  conv => whnf
  refine renL_riot hL rfl ?_
  obtain ⟨s0, e0⟩ : ∃ s, s = rs0 L := ⟨_, rfl⟩
  have hs0 : s0.Ok := by rw [e0]; exact rs0_ok hL
  obtain ⟨s1, e1⟩ : ∃ s, s = rsStore s0 (128 % 1024) 5 := ⟨_, rfl⟩
  have hs1 : s1.Ok := by rw [e1]; exact hs0.store _ (by decide)
  obtain ⟨s2, e2⟩ : ∃ s, s = rsStore s1 (661 % 1024) 3 := ⟨_, rfl⟩
  have hs2 : s2.Ok := by rw [e2]; exact hs1.store _ (by decide)
  obtain ⟨s3, e3⟩ : ∃ s, s = rsIn s2 127 255 := ⟨_, rfl⟩
  have hs3 : s3.Ok := by rw [e3]; exact hs2.inp (by decide) (by decide)
  obtain ⟨s4, e4⟩ : ∃ s, s = rsTick s3 := ⟨_, rfl⟩
  have hs4 : s4.Ok := by rw [e4]; exact hs3.tick
  obtain ⟨s5, e5⟩ : ∃ s, s = rsRead s4 (384 % 1024) := ⟨_, rfl⟩
  have hs5 : s5.Ok := by rw [e5]; exact hs4.read _
  obtain ⟨s6, e6⟩ : ∃ s, s = rsRead s5 (644 % 1024) := ⟨_, rfl⟩
  have hs6 : s6.Ok := by rw [e6]; exact hs5.read _
  obtain ⟨s7, e7⟩ : ∃ s, s = rsRead s6 (645 % 1024) := ⟨_, rfl⟩
  have hs7 : s7.Ok := by rw [e7]; exact hs6.read _
  obtain ⟨s8, e8⟩ : ∃ s, s = rsRead s7 (645 % 1024) := ⟨_, rfl⟩
  have hs8 : s8.Ok := by rw [e8]; exact hs7.read _
  have f1 : s1 = { rs0 L with L := wr L 0 5 } := by rw [e1, e0]; unfold rsStore; rw [if_pos (by decide)]; rfl
  have f2 : s2 = { rs0 L with L := wr L 0 5, tm := ⟨3, 8, 1, false, false⟩ } := by rw [e2, f1]; unfold rsStore; rw [if_neg (by decide), if_pos (by decide), if_pos (by decide)]; rfl
  have f3 : s3 = { rs0 L with L := wr L 0 5, tm := ⟨3, 8, 1, false, false⟩, i0 := 127, i1 := 255 } := by rw [e3, f2]; unfold rsIn; rfl
  have f4 : s4 = { rs0 L with L := wr L 0 5, tm := ⟨2, 8, 8, false, false⟩, i0 := 127, i1 := 255, el := false, ec := true } := by
    rw [e4, f3]
    have q1 : lv7 127 0 0 = false := by decide +kernel
    have q2 : TM.tick ⟨3, 8, 1, false, false⟩ = ⟨2, 8, 8, false, false⟩ := by unfold TM.tick; rw [if_neg (by decide), if_neg (by decide), if_neg (by decide)]; rfl
    unfold rsTick
    show RS.mk _ _ _ _ _ _ _ _ _ _ _ = _
    simp only [rs0, q1, q2]
    rfl
  have f5 : s5 = s4 := by rw [e5]; unfold rsRead; rw [if_pos (by decide)]
  have f6 : s6 = { s4 with tm := ⟨2, 8, 8, false, false⟩ } := by rw [e6, f5, f4]; unfold rsRead; rw [if_neg (by decide), if_pos (by decide), if_neg (by decide)]; rfl
  have f7 : s7 = { s6 with ec := false } := by rw [e7]; unfold rsRead; rw [if_neg (by decide), if_pos (by decide), if_pos (by decide)]
  have r1 : rsOut s4 (384 % 1024) = 5 := by
    rw [f4]; unfold rsOut; rw [if_pos (by decide)]
    show rd (wr L 0 5) 0 = 5
    rw [rd_wr hL (by decide) (by decide)]; rfl
  have r2 : rsOut s5 (644 % 1024) = 2 := by rw [f5, f4]; unfold rsOut; rw [if_neg (by decide), if_pos (by decide), if_neg (by decide)]
  have r3 : rsOut s6 (645 % 1024) = 64 := by rw [f6, f4]; unfold rsOut; rw [if_neg (by decide), if_pos (by decide), if_pos (by decide)]; rfl
  have r4 : rsOut s7 (645 % 1024) = 0 := by rw [f7, f6, f4]; unfold rsOut; rw [if_neg (by decide), if_pos (by decide), if_pos (by decide)]; rfl
  clear f1 f2 f3 f4 f5 f6 f7 hz
  subst e0
  conv => whnf
  refine ACalls.useE (riot_storeS (rs0 L) hs0 128 5 (by decide) (by decide)) [0, 1, 2, 3, 4] rfl (by (conv => whnf); first | (refine renL_riot (hs0.L) rfl ?_; (conv => whnf); first | done | rfl) | (refine renL_riot (hs1.L) rfl ?_; (conv => whnf); first | done | rfl) | (refine renL_riot (hs2.L) rfl ?_; (conv => whnf); first | done | rfl) | (refine renL_riot (hs3.L) rfl ?_; (conv => whnf); first | done | rfl) | (refine renL_riot (hs4.L) rfl ?_; (conv => whnf); first | done | rfl) | (refine renL_riot (hs5.L) rfl ?_; (conv => whnf); first | done | rfl) | (refine renL_riot (hs6.L) rfl ?_; (conv => whnf); first | done | rfl) | (refine renL_riot (hs7.L) rfl ?_; (conv => whnf); first | done | rfl) | (refine renL_riot (hs8.L) rfl ?_; (conv => whnf); first | done | rfl) | (try rfl)) (by (conv => whnf); try rfl) ?_
  conv => whnf
  rw [← e1]
  conv => whnf
  refine renL_riot hs1.L rfl ?_
  conv => whnf
  refine ACalls.useE (riot_storeS s1 hs1 661 3 (by decide) (by decide)) [0, 1, 2, 3, 4] rfl (by (conv => whnf); first | (refine renL_riot (hs0.L) rfl ?_; (conv => whnf); first | done | rfl) | (refine renL_riot (hs1.L) rfl ?_; (conv => whnf); first | done | rfl) | (refine renL_riot (hs2.L) rfl ?_; (conv => whnf); first | done | rfl) | (refine renL_riot (hs3.L) rfl ?_; (conv => whnf); first | done | rfl) | (refine renL_riot (hs4.L) rfl ?_; (conv => whnf); first | done | rfl) | (refine renL_riot (hs5.L) rfl ?_; (conv => whnf); first | done | rfl) | (refine renL_riot (hs6.L) rfl ?_; (conv => whnf); first | done | rfl) | (refine renL_riot (hs7.L) rfl ?_; (conv => whnf); first | done | rfl) | (refine renL_riot (hs8.L) rfl ?_; (conv => whnf); first | done | rfl) | (try rfl)) (by (conv => whnf); try rfl) ?_
  conv => whnf
  rw [← e2]
  conv => whnf
  refine renL_riot hs2.L rfl ?_
  conv => whnf
  refine ACalls.useE (riot_inS s2 hs2 127 255) [0, 1, 2, 3, 4] rfl (by (conv => whnf); first | (refine renL_riot (hs0.L) rfl ?_; (conv => whnf); first | done | rfl) | (refine renL_riot (hs1.L) rfl ?_; (conv => whnf); first | done | rfl) | (refine renL_riot (hs2.L) rfl ?_; (conv => whnf); first | done | rfl) | (refine renL_riot (hs3.L) rfl ?_; (conv => whnf); first | done | rfl) | (refine renL_riot (hs4.L) rfl ?_; (conv => whnf); first | done | rfl) | (refine renL_riot (hs5.L) rfl ?_; (conv => whnf); first | done | rfl) | (refine renL_riot (hs6.L) rfl ?_; (conv => whnf); first | done | rfl) | (refine renL_riot (hs7.L) rfl ?_; (conv => whnf); first | done | rfl) | (refine renL_riot (hs8.L) rfl ?_; (conv => whnf); first | done | rfl) | (try rfl)) (by (conv => whnf); try rfl) ?_
  conv => whnf
  rw [← e3]
  conv => whnf
  refine renL_riot hs3.L rfl ?_
  conv => whnf
  refine ACalls.useE (riot_tickS s3 hs3) [0, 1, 2, 3, 4] rfl (by (conv => whnf); first | (refine renL_riot (hs0.L) rfl ?_; (conv => whnf); first | done | rfl) | (refine renL_riot (hs1.L) rfl ?_; (conv => whnf); first | done | rfl) | (refine renL_riot (hs2.L) rfl ?_; (conv => whnf); first | done | rfl) | (refine renL_riot (hs3.L) rfl ?_; (conv => whnf); first | done | rfl) | (refine renL_riot (hs4.L) rfl ?_; (conv => whnf); first | done | rfl) | (refine renL_riot (hs5.L) rfl ?_; (conv => whnf); first | done | rfl) | (refine renL_riot (hs6.L) rfl ?_; (conv => whnf); first | done | rfl) | (refine renL_riot (hs7.L) rfl ?_; (conv => whnf); first | done | rfl) | (refine renL_riot (hs8.L) rfl ?_; (conv => whnf); first | done | rfl) | (try rfl)) (by (conv => whnf); try rfl) ?_
  conv => whnf
  rw [← e4]
  conv => whnf
  refine renL_riot hs4.L rfl ?_
  conv => whnf
  refine ACalls.useE (riot_readS s4 hs4 384 (by decide)) [0, 1, 2, 3, 4] rfl (by (conv => whnf); first | (refine renL_riot (hs0.L) rfl ?_; (conv => whnf); first | done | rfl) | (refine renL_riot (hs1.L) rfl ?_; (conv => whnf); first | done | rfl) | (refine renL_riot (hs2.L) rfl ?_; (conv => whnf); first | done | rfl) | (refine renL_riot (hs3.L) rfl ?_; (conv => whnf); first | done | rfl) | (refine renL_riot (hs4.L) rfl ?_; (conv => whnf); first | done | rfl) | (refine renL_riot (hs5.L) rfl ?_; (conv => whnf); first | done | rfl) | (refine renL_riot (hs6.L) rfl ?_; (conv => whnf); first | done | rfl) | (refine renL_riot (hs7.L) rfl ?_; (conv => whnf); first | done | rfl) | (refine renL_riot (hs8.L) rfl ?_; (conv => whnf); first | done | rfl) | (try rfl)) (by (conv => whnf); try rfl) ?_
  conv => whnf
  rw [r1]
  conv => whnf
  rw [← e5]
  conv => whnf
  refine renL_riot hs5.L rfl ?_
  conv => whnf
  refine ACalls.useE (riot_readS s5 hs5 644 (by decide)) [0, 1, 2, 3, 4] rfl (by (conv => whnf); first | (refine renL_riot (hs0.L) rfl ?_; (conv => whnf); first | done | rfl) | (refine renL_riot (hs1.L) rfl ?_; (conv => whnf); first | done | rfl) | (refine renL_riot (hs2.L) rfl ?_; (conv => whnf); first | done | rfl) | (refine renL_riot (hs3.L) rfl ?_; (conv => whnf); first | done | rfl) | (refine renL_riot (hs4.L) rfl ?_; (conv => whnf); first | done | rfl) | (refine renL_riot (hs5.L) rfl ?_; (conv => whnf); first | done | rfl) | (refine renL_riot (hs6.L) rfl ?_; (conv => whnf); first | done | rfl) | (refine renL_riot (hs7.L) rfl ?_; (conv => whnf); first | done | rfl) | (refine renL_riot (hs8.L) rfl ?_; (conv => whnf); first | done | rfl) | (try rfl)) (by (conv => whnf); try rfl) ?_
  conv => whnf
  rw [r2]
  conv => whnf
  rw [← e6]
  conv => whnf
  refine renL_riot hs6.L rfl ?_
  conv => whnf
  refine ACalls.useE (riot_readS s6 hs6 645 (by decide)) [0, 1, 2, 3, 4] rfl (by (conv => whnf); first | (refine renL_riot (hs0.L) rfl ?_; (conv => whnf); first | done | rfl) | (refine renL_riot (hs1.L) rfl ?_; (conv => whnf); first | done | rfl) | (refine renL_riot (hs2.L) rfl ?_; (conv => whnf); first | done | rfl) | (refine renL_riot (hs3.L) rfl ?_; (conv => whnf); first | done | rfl) | (refine renL_riot (hs4.L) rfl ?_; (conv => whnf); first | done | rfl) | (refine renL_riot (hs5.L) rfl ?_; (conv => whnf); first | done | rfl) | (refine renL_riot (hs6.L) rfl ?_; (conv => whnf); first | done | rfl) | (refine renL_riot (hs7.L) rfl ?_; (conv => whnf); first | done | rfl) | (refine renL_riot (hs8.L) rfl ?_; (conv => whnf); first | done | rfl) | (try rfl)) (by (conv => whnf); try rfl) ?_
  conv => whnf
  rw [r3]
  conv => whnf
  rw [← e7]
  conv => whnf
  refine renL_riot hs7.L rfl ?_
  conv => whnf
  refine ACalls.useE (riot_readS s7 hs7 645 (by decide)) [0, 1, 2, 3, 4] rfl (by (conv => whnf); first | (refine renL_riot (hs0.L) rfl ?_; (conv => whnf); first | done | rfl) | (refine renL_riot (hs1.L) rfl ?_; (conv => whnf); first | done | rfl) | (refine renL_riot (hs2.L) rfl ?_; (conv => whnf); first | done | rfl) | (refine renL_riot (hs3.L) rfl ?_; (conv => whnf); first | done | rfl) | (refine renL_riot (hs4.L) rfl ?_; (conv => whnf); first | done | rfl) | (refine renL_riot (hs5.L) rfl ?_; (conv => whnf); first | done | rfl) | (refine renL_riot (hs6.L) rfl ?_; (conv => whnf); first | done | rfl) | (refine renL_riot (hs7.L) rfl ?_; (conv => whnf); first | done | rfl) | (refine renL_riot (hs8.L) rfl ?_; (conv => whnf); first | done | rfl) | (try rfl)) (by (conv => whnf); try rfl) ?_
  conv => whnf
  rw [r4]
  conv => whnf
  rw [← e8]
  conv => whnf
  refine renL_riot hs8.L rfl ?_
  conv => whnf
  exact ⟨rfl, rfl⟩
end Go.Proofs
