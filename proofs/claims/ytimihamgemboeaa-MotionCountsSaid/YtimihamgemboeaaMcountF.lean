/-
  Walks through the functions of the program, by contract.
-/
import Derived.Test.YtimihamgemboeaaMrefF
set_option linter.all false
set_option linter.unusedVariables false
set_option linter.unusedSimpArgs false
set_option linter.unnecessarySimpa false
namespace Go.Proofs
open Go.Aw
set_option maxRecDepth 100000
set_option maxHeartbeats 4000000

def mvB (s : Int) (i : Nat) (t : Int) : Bool := decide (3 ≤ i) && decide ((s + i) % 4 = 0) && decide (cntI s i < t)
def tm (s : Int) (i : Nat) (t : Int) : Int := if cntI s i < t then cntI s i else t
theorem cnt_mono (s : Int) (hs : 0 ≤ s) (i : Nat) : cntI s i ≤ cntI s (i + 1) := by
  unfold cntI; split <;> split <;> omega
theorem tm_step {s : Int} (hs : 0 ≤ s) (i : Nat) {t : Int} (ht : 0 ≤ t) : tm s (i + 1) t = if mvB s i t then tm s i t + 1 else tm s i t := by
  by_cases h3 : i < 3
  · have e1 : cntI s i = 0 := by unfold cntI; rw [if_pos h3]
    have e2 : cntI s (i + 1) = 0 := by unfold cntI; split <;> omega
    have e3 : mvB s i t = false := by unfold mvB; simp; omega
    unfold tm
    rw [e1, e2, e3]; rfl
  · have e1 : cntI s i = (s + i + 3) / 4 - (s + 6) / 4 := by unfold cntI; rw [if_neg h3]
    have e2 : cntI s (i + 1) = (s + i + 4) / 4 - (s + 6) / 4 := by unfold cntI; rw [if_neg (by omega)]; push_cast; congr 2; omega
    unfold tm
    cases hm : mvB s i t with
    | true =>
      unfold mvB at hm
      simp only [Bool.and_eq_true, decide_eq_true_eq] at hm
      rw [if_pos rfl, if_pos hm.2]
      split <;> omega
    | false =>
      unfold mvB at hm
      simp only [Bool.and_eq_false_iff, decide_eq_false_iff_not] at hm
      simp only [Bool.false_eq_true, if_false]
      split <;> split <;> omega
theorem tm_0 {s t : Int} (h : 0 ≤ t) : tm s 0 t = 0 := by
  have e : cntI s 0 = 0 := rfl
  unfold tm; rw [e]; split <;> omega
theorem tm_bd {s : Int} (hs : 0 ≤ s) (i : Nat) {t : Int} (h : 0 ≤ t) : 0 ≤ tm s i t ∧ tm s i t ≤ t := by
  have h0 : 0 ≤ cntI s i := by unfold cntI; split <;> omega
  unfold tm; split <;> omega
theorem MSat_idle {s : Int} {i : Nat} (h : ¬ cntI s i < 16) (t0 t1 t2 t3 t4 : Int) : MSat s i t0 t1 t2 t3 t4 = ⟨16, 0, false, false, false, false, false⟩ := by unfold MSat; rw [if_neg h]
theorem MSat_steps {s : Int} (hs : 0 ≤ s) (i : Nat) {clk : Int} (hk : clk % 4 = (s + i) % 4) (t0 t1 t2 t3 t4 : Int) : (MSat s i t0 t1 t2 t3 t4).step clk t0 t1 t2 t3 t4 = MSat s (i + 1) t0 t1 t2 t3 t4 := by
  by_cases h : cntI s i < 16
  · exact MSat_step hs h hk t0 t1 t2 t3 t4
  · have := cnt_mono s hs i
    rw [MSat_idle h, MSat_idle (by omega)]
    rfl

theorem MSat_out0 {s : Int} (i : Nat) {clk : Int} (hk : clk % 4 = (s + i) % 4) (t0 t1 t2 t3 t4 : Int) (ht : t0 ≤ 15) : MS.out (MSat s i t0 t1 t2 t3 t4) clk (MSat s i t0 t1 t2 t3 t4).m0 t0 = mvB s i t0 := by
  by_cases h : cntI s i < 16
  · have hm : (MSat s i t0 t1 t2 t3 t4).m0 = decide (cntI s i ≤ t0) := by unfold MSat; rw [if_pos h]
    rw [hm]; exact MSat_out h hk t0 t1 t2 t3 t4 t0
  · rw [MSat_idle h]
    have : mvB s i t0 = false := by
      have : decide (cntI s i < t0) = false := by simp; omega
      unfold mvB; rw [this, Bool.and_false]
    rw [this]; rfl
theorem MSat_out1 {s : Int} (i : Nat) {clk : Int} (hk : clk % 4 = (s + i) % 4) (t0 t1 t2 t3 t4 : Int) (ht : t1 ≤ 15) : MS.out (MSat s i t0 t1 t2 t3 t4) clk (MSat s i t0 t1 t2 t3 t4).m1 t1 = mvB s i t1 := by
  by_cases h : cntI s i < 16
  · have hm : (MSat s i t0 t1 t2 t3 t4).m1 = decide (cntI s i ≤ t1) := by unfold MSat; rw [if_pos h]
    rw [hm]; exact MSat_out h hk t0 t1 t2 t3 t4 t1
  · rw [MSat_idle h]
    have : mvB s i t1 = false := by
      have : decide (cntI s i < t1) = false := by simp; omega
      unfold mvB; rw [this, Bool.and_false]
    rw [this]; rfl
theorem MSat_out2 {s : Int} (i : Nat) {clk : Int} (hk : clk % 4 = (s + i) % 4) (t0 t1 t2 t3 t4 : Int) (ht : t2 ≤ 15) : MS.out (MSat s i t0 t1 t2 t3 t4) clk (MSat s i t0 t1 t2 t3 t4).m2 t2 = mvB s i t2 := by
  by_cases h : cntI s i < 16
  · have hm : (MSat s i t0 t1 t2 t3 t4).m2 = decide (cntI s i ≤ t2) := by unfold MSat; rw [if_pos h]
    rw [hm]; exact MSat_out h hk t0 t1 t2 t3 t4 t2
  · rw [MSat_idle h]
    have : mvB s i t2 = false := by
      have : decide (cntI s i < t2) = false := by simp; omega
      unfold mvB; rw [this, Bool.and_false]
    rw [this]; rfl
theorem MSat_out3 {s : Int} (i : Nat) {clk : Int} (hk : clk % 4 = (s + i) % 4) (t0 t1 t2 t3 t4 : Int) (ht : t3 ≤ 15) : MS.out (MSat s i t0 t1 t2 t3 t4) clk (MSat s i t0 t1 t2 t3 t4).m3 t3 = mvB s i t3 := by
  by_cases h : cntI s i < 16
  · have hm : (MSat s i t0 t1 t2 t3 t4).m3 = decide (cntI s i ≤ t3) := by unfold MSat; rw [if_pos h]
    rw [hm]; exact MSat_out h hk t0 t1 t2 t3 t4 t3
  · rw [MSat_idle h]
    have : mvB s i t3 = false := by
      have : decide (cntI s i < t3) = false := by simp; omega
      unfold mvB; rw [this, Bool.and_false]
    rw [this]; rfl
theorem MSat_out4 {s : Int} (i : Nat) {clk : Int} (hk : clk % 4 = (s + i) % 4) (t0 t1 t2 t3 t4 : Int) (ht : t4 ≤ 15) : MS.out (MSat s i t0 t1 t2 t3 t4) clk (MSat s i t0 t1 t2 t3 t4).m4 t4 = mvB s i t4 := by
  by_cases h : cntI s i < 16
  · have hm : (MSat s i t0 t1 t2 t3 t4).m4 = decide (cntI s i ≤ t4) := by unfold MSat; rw [if_pos h]
    rw [hm]; exact MSat_out h hk t0 t1 t2 t3 t4 t4
  · rw [MSat_idle h]
    have : mvB s i t4 = false := by
      have : decide (cntI s i < t4) = false := by simp; omega
      unfold mvB; rw [this, Bool.and_false]
    rw [this]; rfl

theorem walk_MotionCounts (a n0 n1 n2 n3 n4 : Int) (wa : (Lit.int .u8 a).wf = true) (w0 : (Lit.int .u8 n0).wf = true) (w1 : (Lit.int .u8 n1).wf = true) (w2 : (Lit.int .u8 n2).wf = true) (w3 : (Lit.int .u8 n3).wf = true) (w4 : (Lit.int .u8 n4).wf = true) :
    ACalls Try.prog 4 [.int .u8 a, .agg #[.int .u8 n0, .int .u8 n1, .int .u8 n2, .int .u8 n3, .int .u8 n4]] [] fun v _ => v = .bool true := by
  have ha := wf_u8 wa
  have b0 := stop_bd n0
  have b1 := stop_bd n1
  have b2 := stop_bd n2
  have b3 := stop_bd n3
  have b4 := stop_bd n4
  have ea : IntKind.i64.wrap a = a := wrap64 (by omega) (by omega)
  refine ACalls.code tabOk h4 Try.func4 Try.call4 ok4 ?_
  conv => whnf
  refine ACalls.useE (motion_new) [] rfl (by (conv => whnf); try rfl) (by (conv => whnf); try rfl) ?_
  conv => whnf
  refine ACalls.useE (motion_strobe _ _ _) [1] rfl (by (conv => whnf); try rfl) (by (conv => whnf); try rfl) ?_
  conv => whnf
  refine ALoop.fd (σ := Nat) (fun i => [.int .u8 a, .chan none, .chan none, .pointer (some ⟨0, 0, none⟩), .bool false, .pointer (some ⟨1, 0, none⟩), .pointer (some ⟨2, 0, none⟩), .int .i64 i, .chan none, .chan none, .chan none, .chan none, .chan none, .chan none, .chan none, .chan none, .chan none, .chan none, .chan none, .chan none, .chan none, .chan none, .chan none, .chan none, .chan none, .chan none, .chan none, .chan none, .chan none, .chan none, .chan none, .chan none, .chan none, .chan none, .chan none, .chan none, .chan none, .chan none, .chan none, .chan none, .chan none, .chan none, .chan none, .chan none, .chan none, .chan none, .chan none, .chan none, .chan none, .chan none, .chan none, .chan none, .chan none, .chan none, .chan none, .chan none, .chan none, .chan none]) (fun i => [.cells [.int .u8 n0, .int .u8 n1, .int .u8 n2, .int .u8 n3, .int .u8 n4] 26, (MSat a i (stopI n0) (stopI n1) (stopI n2) (stopI n3) (stopI n4)).blk,
    .cells [.int .i64 (tm a i (stopI n0)), .int .i64 (tm a i (stopI n1)), .int .i64 (tm a i (stopI n2)), .int .i64 (tm a i (stopI n3)), .int .i64 (tm a i (stopI n4))] 29]) (fun i => i ≤ 80) (fun i => 80 - i) 0 [] rfl
    (by rw [MSat_0 b0.1 b1.1 b2.1 b3.1 b4.1, tm_0 b0.1, tm_0 b1.1, tm_0 b2.1, tm_0 b3.1, tm_0 b4.1]; rfl) (by omega) (fun _ => ⟨rfl, rfl, rfl, rfl⟩) ?_
  intro i hi R hR
  have e2 : IntKind.i64.wrap ((i : Int) + 1) = ((i + 1 : Nat) : Int) := by rw [wrap64 (by omega) (by omega)]; rfl
  have hk : (IntKind.i64.wrap (IntKind.i64.wrap a + (i : Int))).tmod 228 % 4 = (a + i) % 4 := by
    rw [ea, wrap64 (by omega) (by omega), Int.tmod_eq_emod_of_nonneg (by omega)]; omega
  have hbd := MSat_bd a ha.1 i (stopI n0) (stopI n1) (stopI n2) (stopI n3) (stopI n4)
  have hstep := MSat_steps ha.1 i hk (stopI n0) (stopI n1) (stopI n2) (stopI n3) (stopI n4)
  have o0 := MSat_out0 i hk (stopI n0) (stopI n1) (stopI n2) (stopI n3) (stopI n4) b0.2
  have o1 := MSat_out1 i hk (stopI n0) (stopI n1) (stopI n2) (stopI n3) (stopI n4) b1.2
  have o2 := MSat_out2 i hk (stopI n0) (stopI n1) (stopI n2) (stopI n3) (stopI n4) b2.2
  have o3 := MSat_out3 i hk (stopI n0) (stopI n1) (stopI n2) (stopI n3) (stopI n4) b3.2
  have o4 := MSat_out4 i hk (stopI n0) (stopI n1) (stopI n2) (stopI n3) (stopI n4) b4.2
  conv => whnf
  refine Bif.of (fun h0 => ?_) fun h0 => ?_
  · have hlt : i < 80 := by simp at h0; omega
    conv => whnf
    refine ACalls.useE (motion_step _ _ _ _ _ _ _ _ _ _ _ _ _ ?_ ?_) [1] rfl (by (conv => whnf); try rfl) (by (conv => whnf); try rfl) ?_
    · exact hbd.1
    · exact hbd.2
    conv => whnf
    refine ALoop.fd (σ := Nat) (fun j => [.int .u8 a, .chan none, .chan none, .pointer (some ⟨0, 0, none⟩), .bool false, .pointer (some ⟨1, 0, none⟩), .pointer (some ⟨2, 0, none⟩), .int .i64 i, .pointer (some ⟨3, 0, none⟩), .int .i64 j, .chan none, .chan none, .chan none, .chan none, .chan none, .chan none, .chan none, .chan none, .chan none, .chan none, .chan none, .chan none, .chan none, .chan none, .chan none, .chan none, .chan none, .chan none, .chan none, .chan none, .chan none, .chan none, .chan none, .chan none, .chan none, .chan none, .chan none, .chan none, .chan none, .chan none, .chan none, .chan none, .chan none, .chan none, .chan none, .chan none, .chan none, .chan none, .chan none, .chan none, .chan none, .chan none, .chan none, .chan none, .chan none, .chan none, .chan none, .chan none]) (fun j => [.cells [.int .u8 n0, .int .u8 n1, .int .u8 n2, .int .u8 n3, .int .u8 n4] 26, (MSat a (i + 1) (stopI n0) (stopI n1) (stopI n2) (stopI n3) (stopI n4)).blk,
      .cells [.int .i64 (tm a (if 0 < j then i + 1 else i) (stopI n0)), .int .i64 (tm a (if 1 < j then i + 1 else i) (stopI n1)), .int .i64 (tm a (if 2 < j then i + 1 else i) (stopI n2)), .int .i64 (tm a (if 3 < j then i + 1 else i) (stopI n3)), .int .i64 (tm a (if 4 < j then i + 1 else i) (stopI n4))] 29,
      .cells [.bool (mvB a i (stopI n0)), .bool (mvB a i (stopI n1)), .bool (mvB a i (stopI n2)), .bool (mvB a i (stopI n3)), .bool (mvB a i (stopI n4))] 30]) (fun j => j ≤ 5) (fun j => 5 - j) 0 [] rfl
      (by rw [← hstep, ← o0, ← o1, ← o2, ← o3, ← o4]; rfl) (by omega) (fun _ => ⟨rfl, rfl, rfl, rfl⟩) ?_
    intro j hj R' hR'
    have hj' : j = 0 ∨ j = 1 ∨ j = 2 ∨ j = 3 ∨ j = 4 ∨ j = 5 := by omega
    clear hstep o0 o1 o2 o3 o4 hk hbd
    rcases hj' with rfl | rfl | rfl | rfl | rfl | rfl

    · have hs := tm_step ha.1 i b0.1
      have ht := tm_bd ha.1 i b0.1
      conv => whnf
      refine Bif.of (fun h0 => ?_) fun h0 => ?_
      · rw [h0]
        conv => whnf
        (rw [h0, if_pos rfl] at hs; exact hR' 1 _ _ [] rfl (by clear hR hR'; simp [hs, h0, wrap64 (n := tm a i (stopI n0) + 1) (by omega) (by omega)]) (by omega) (by omega))
      · rw [h0]
        conv => whnf
        (rw [h0, if_neg (by decide)] at hs; exact hR' 1 _ _ [] rfl (by clear hR hR'; simp [hs, h0]) (by omega) (by omega))
    · have hs := tm_step ha.1 i b1.1
      have ht := tm_bd ha.1 i b1.1
      conv => whnf
      refine Bif.of (fun h0 => ?_) fun h0 => ?_
      · rw [h0]
        conv => whnf
        (rw [h0, if_pos rfl] at hs; exact hR' 2 _ _ [] rfl (by clear hR hR'; simp [hs, h0, wrap64 (n := tm a i (stopI n1) + 1) (by omega) (by omega)]) (by omega) (by omega))
      · rw [h0]
        conv => whnf
        (rw [h0, if_neg (by decide)] at hs; exact hR' 2 _ _ [] rfl (by clear hR hR'; simp [hs, h0]) (by omega) (by omega))
    · have hs := tm_step ha.1 i b2.1
      have ht := tm_bd ha.1 i b2.1
      conv => whnf
      refine Bif.of (fun h0 => ?_) fun h0 => ?_
      · rw [h0]
        conv => whnf
        (rw [h0, if_pos rfl] at hs; exact hR' 3 _ _ [] rfl (by clear hR hR'; simp [hs, h0, wrap64 (n := tm a i (stopI n2) + 1) (by omega) (by omega)]) (by omega) (by omega))
      · rw [h0]
        conv => whnf
        (rw [h0, if_neg (by decide)] at hs; exact hR' 3 _ _ [] rfl (by clear hR hR'; simp [hs, h0]) (by omega) (by omega))
    · have hs := tm_step ha.1 i b3.1
      have ht := tm_bd ha.1 i b3.1
      conv => whnf
      refine Bif.of (fun h0 => ?_) fun h0 => ?_
      · rw [h0]
        conv => whnf
        (rw [h0, if_pos rfl] at hs; exact hR' 4 _ _ [] rfl (by clear hR hR'; simp [hs, h0, wrap64 (n := tm a i (stopI n3) + 1) (by omega) (by omega)]) (by omega) (by omega))
      · rw [h0]
        conv => whnf
        (rw [h0, if_neg (by decide)] at hs; exact hR' 4 _ _ [] rfl (by clear hR hR'; simp [hs, h0]) (by omega) (by omega))
    · have hs := tm_step ha.1 i b4.1
      have ht := tm_bd ha.1 i b4.1
      conv => whnf
      refine Bif.of (fun h0 => ?_) fun h0 => ?_
      · rw [h0]
        conv => whnf
        (rw [h0, if_pos rfl] at hs; exact hR' 5 _ _ [] rfl (by clear hR hR'; simp [hs, h0, wrap64 (n := tm a i (stopI n4) + 1) (by omega) (by omega)]) (by omega) (by omega))
      · rw [h0]
        conv => whnf
        (rw [h0, if_neg (by decide)] at hs; exact hR' 5 _ _ [] rfl (by clear hR hR'; simp [hs, h0]) (by omega) (by omega))
    · conv => whnf
      (rw [e2]; exact hR (i + 1) _ _ _ rfl (by rfl) (by omega) (by omega))
  · have hlt : i = 80 := by simp at h0; omega
    subst hlt
    clear hR hbd hstep o0 o1 o2 o3 o4 hk
    have hc : 19 ≤ cntI a 80 := by unfold cntI; rw [if_neg (by decide)]; omega
    have t0 : tm a 80 (stopI n0) = stopI n0 := by unfold tm; rw [if_neg (by omega)]
    have t1 : tm a 80 (stopI n1) = stopI n1 := by unfold tm; rw [if_neg (by omega)]
    have t2 : tm a 80 (stopI n2) = stopI n2 := by unfold tm; rw [if_neg (by omega)]
    have t3 : tm a 80 (stopI n3) = stopI n3 := by unfold tm; rw [if_neg (by omega)]
    have t4 : tm a 80 (stopI n4) = stopI n4 := by unfold tm; rw [if_neg (by omega)]
    have hidle := MSat_idle (s := a) (i := 80) (by omega) (stopI n0) (stopI n1) (stopI n2) (stopI n3) (stopI n4)
    rw [t0, t1, t2, t3, t4, hidle]
    have u0 : (stopI n0 != IntKind.i64.wrap (bits .xor .u8 (bits .and .u8 n0 15) 8)) = false := by unfold stopI; simp
    have u1 : (stopI n1 != IntKind.i64.wrap (bits .xor .u8 (bits .and .u8 n1 15) 8)) = false := by unfold stopI; simp
    have u2 : (stopI n2 != IntKind.i64.wrap (bits .xor .u8 (bits .and .u8 n2 15) 8)) = false := by unfold stopI; simp
    have u3 : (stopI n3 != IntKind.i64.wrap (bits .xor .u8 (bits .and .u8 n3 15) 8)) = false := by unfold stopI; simp
    have u4 : (stopI n4 != IntKind.i64.wrap (bits .xor .u8 (bits .and .u8 n4 15) 8)) = false := by unfold stopI; simp
    conv => whnf
    refine ALoop.run 6 ?_
    conv => whnf
    rw [u0]
    conv => whnf
    rw [u1]
    conv => whnf
    rw [u2]
    conv => whnf
    rw [u3]
    conv => whnf
    rw [u4]
    conv => whnf
    refine ACalls.useE (motion_busy _ _ _) [1] rfl (by (conv => whnf); try rfl) (by (conv => whnf); try rfl) ?_
    conv => whnf
    refine ACalls.useE (awake17) [] rfl (by (conv => whnf); try rfl) (by (conv => whnf); try rfl) ?_
    conv => whnf
end Go.Proofs
